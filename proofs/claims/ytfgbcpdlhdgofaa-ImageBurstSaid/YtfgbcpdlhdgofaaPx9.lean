-- Written by myprint.py, a program of this session's, over the kit's print.py; not a text of print.sh's own.
import Derived.Test.YtfgbcpdlhdgofaaPx9a
import Derived.Test.YtfgbcpdlhdgofaaHandFive
import Derived.Test.YtfgbcpdlhdgofaaHandPick
import Derived.Test.YtfgbcpdlhdgofaaHandBox
import Derived.Test.YtfgbcpdlhdgofaaPx0
import Derived.Test.YtfgbcpdlhdgofaaPx2
import Derived.Test.YtfgbcpdlhdgofaaPx4
import Derived.Test.YtfgbcpdlhdgofaaPx6
import Derived.Test.YtfgbcpdlhdgofaaPx8
namespace Go.Proofs.Ytfgbcpdlhdgofaa.Px
open Go.RowKit Go.Proofs.YtfgbcpdlhdgofaaW.PrintWords Go.Proofs.YtfgbcpdlhdgofaaW.PrintLast Go.Proofs.YtfgbcpdlhdgofaaW.PrintMore
attribute [local go_sem] max2_int min2_int max_two min_two max_three min_three max_four min_four   -- for this text's walks alone
set_option linter.unusedVariables false
set_option linter.unusedSimpArgs false

def phaetonlaw24_ImageBurst.T11 : Bool × List (List Nat × List Nat) := (true, [([], []), ([], []), ([], []), ([1, 2], [1, 2]), ([], []), ([], []), ([], []), ([5, 6], [5, 6]), ([4, 7], [4, 7]), ([8], [8]), ([], []), ([], []), ([11, 10], [10, 11]), ([12], [12]), ([9, 13], [9, 13]), ([0, 3, 0, 1, 2, 3, 4, 5, 6, 7, 8, 9, 10, 11, 12, 13, 14], [0, 3]), ([15, 14, 0, 1, 2, 3, 4, 5, 6, 7, 8, 9, 10, 11, 12, 13, 14], [14, 15])])
def phaetonlaw24_ImageBurst.B11 : List Nat := [0, 0, 0, 6, 0, 0, 0, 96, 240, 496, 0, 0, 3072, 7168, 16368, 32767, 65535]
theorem phaetonlaw24_ImageBurst.tab11 : rtab .any (opsOf Try.f5 11) = phaetonlaw24_ImageBurst.T11 := by kernel_rfl
theorem phaetonlaw24_ImageBurst.bits11 : waitsOk phaetonlaw24_ImageBurst.T11.2 phaetonlaw24_ImageBurst.B11 = true := by kernel_rfl
def phaetonlaw24_ImageBurst.T17 : Bool × List (List Nat × List Nat) := (true, [([], []), ([0], [0]), ([1], [1]), ([], []), ([3], [3]), ([4], [4]), ([2, 5], [2, 5]), ([], []), ([7], [7]), ([8], [8]), ([], []), ([10], [10]), ([11], [11]), ([9, 12], [9, 12]), ([13], [13]), ([14], [14]), ([15, 14], [14, 15]), ([16, 14], [14, 16]), ([14], [14]), ([18, 14], [14, 18]), ([19, 14], [14, 19]), ([17, 20, 14], [14, 17, 20]), ([14, 21], [14, 21]), ([6, 14, 0, 1, 2, 3, 4, 5, 6], [6]), ([22, 23, 0, 1, 2, 3, 4, 5, 6, 7, 8, 9, 10, 11, 12, 13, 14, 15, 16, 17, 18, 19, 20, 21, 22, 23], [22])])
def phaetonlaw24_ImageBurst.B17 : List Nat := [0, 1, 3, 0, 8, 24, 63, 0, 128, 384, 0, 1024, 3072, 8064, 16256, 32640, 65408, 130944, 32640, 294784, 819072, 2097024, 4194176, 32767, 16777215]
theorem phaetonlaw24_ImageBurst.tab17 : rtab .any (opsOf Try.f5 17) = phaetonlaw24_ImageBurst.T17 := by kernel_rfl
theorem phaetonlaw24_ImageBurst.bits17 : waitsOk phaetonlaw24_ImageBurst.T17.2 phaetonlaw24_ImageBurst.B17 = true := by kernel_rfl
def phaetonlaw24_ImageBurst.T18 : Bool × List (List Nat × List Nat) := (true, [([], []), ([0], [0]), ([1], [1]), ([], []), ([3], [3]), ([4], [4]), ([2, 5], [2, 5]), ([6, 0, 1, 2, 3, 4, 5, 6], [6])])
def phaetonlaw24_ImageBurst.B18 : List Nat := [0, 1, 3, 0, 8, 24, 63, 127]
theorem phaetonlaw24_ImageBurst.tab18 : rtab .any (opsOf Try.f5 18) = phaetonlaw24_ImageBurst.T18 := by kernel_rfl
theorem phaetonlaw24_ImageBurst.bits18 : waitsOk phaetonlaw24_ImageBurst.T18.2 phaetonlaw24_ImageBurst.B18 = true := by kernel_rfl
def phaetonlaw24_ImageBurst.T21 : Bool × List (List Nat × List Nat) := (true, [([], []), ([0], [0]), ([1], [1]), ([], []), ([3], [3]), ([4], [4]), ([2, 5], [2, 5]), ([6], [6]), ([7], [7]), ([8, 7], [7, 8]), ([9, 7], [7, 9]), ([7], [7]), ([11, 7], [7, 11]), ([12, 7], [7, 12]), ([10, 13, 7], [7, 10, 13]), ([7, 14], [7, 14]), ([15, 7], [15]), ([16], [16]), ([16, 17], [16, 17])])
def phaetonlaw24_ImageBurst.B21 : List Nat := [0, 1, 3, 0, 8, 24, 63, 127, 255, 511, 1023, 255, 2303, 6399, 16383, 32767, 65535, 131071, 262143]
theorem phaetonlaw24_ImageBurst.tab21 : rtab .any (opsOf Try.f5 21) = phaetonlaw24_ImageBurst.T21 := by kernel_rfl
theorem phaetonlaw24_ImageBurst.bits21 : waitsOk phaetonlaw24_ImageBurst.T21.2 phaetonlaw24_ImageBurst.B21 = true := by kernel_rfl
set_option maxHeartbeats 8000000 in
set_option maxRecDepth 100000 in
theorem phaetonlaw24_ImageBurst.calls (k : Nat) (a0_0 : Int) (A0_1 : Option Addr) (c0_1 : Nat) (l0_1 : List Int) (a1 : Int) (a2_0 : Int) (a2_1 : Int) (a2_2 : Int) (a2_3 : Int) (a2_4 : Int) (r : Bool) (w : World) (hr0_1 : Kd.C (Kd.int .u8) w A0_1 l0_1.length l0_1) (hc0_1 : l0_1.length ≤ c0_1) (h : phaetonlaw24_ImageBurst.f k a0_0 l0_1 a1 a2_0 a2_1 a2_2 a2_3 a2_4 = some r) :
  Calls Try.prog 5 #[.agg #[.int .i64 a0_0, .slice A0_1 l0_1.length c0_1], .int .i64 a1, .agg #[.int .u16 a2_0, .int .u8 a2_1, .int .u8 a2_2, .int .u8 a2_3, .int .u8 a2_4]] w fun e w' => e = .returned (.bool r) ∧ Below w.heap.size w w' := by
 have hu24 := Try.underlying24
 have hu43 := Try.underlying43
 have HR0_1 := Aside0.mk hr0_1
 have HC0_1 := Aside0.mk hc0_1
 clear hr0_1 hc0_1
 have HB := Aside0.mk (Below.refl w.heap.size w)
 have H : ((phaetonlaw24_head.f k).bind fun t260 => ((phaetonlaw24_Cut.f a0_0 l0_1).bind fun bt261 => ((image_Pack.f k bt261.1 bt261.2 a1).bind fun bt265 => (if bt265.2 = true then (phaetonlaw24_ImageBurst.j0 k a1 t260 bt265.1 bt265.2 (decide ((bt265.1.length : Int) < 19)) bt261.1 bt261.2 a2_0 a2_1 a2_2 a2_3 a2_4) else (phaetonlaw24_ImageBurst.j0 k a1 t260 bt265.1 bt265.2 true bt261.1 bt261.2 a2_0 a2_1 a2_2 a2_3 a2_4))))) = some r := h
 clear h
 replace H := Option.bind_eq_some_iff.mp H
 obtain ⟨t260, A40, H⟩ := H
 replace H : ((phaetonlaw24_Cut.f a0_0 l0_1).bind fun bt261 => ((image_Pack.f k bt261.1 bt261.2 a1).bind fun bt265 => (if bt265.2 = true then (phaetonlaw24_ImageBurst.j0 k a1 t260 bt265.1 bt265.2 (decide ((bt265.1.length : Int) < 19)) bt261.1 bt261.2 a2_0 a2_1 a2_2 a2_3 a2_4) else (phaetonlaw24_ImageBurst.j0 k a1 t260 bt265.1 bt265.2 true bt261.1 bt261.2 a2_0 a2_1 a2_2 a2_3 a2_4)))) = some r := H
 have A4 := Aside0.mk A40
 clear A40
 replace H := Option.bind_eq_some_iff.mp H
 obtain ⟨⟨t261, t262⟩, A50, H⟩ := H
 replace H : ((image_Pack.f k t261 t262 a1).bind fun bt265 => (if bt265.2 = true then (phaetonlaw24_ImageBurst.j0 k a1 t260 bt265.1 bt265.2 (decide ((bt265.1.length : Int) < 19)) t261 t262 a2_0 a2_1 a2_2 a2_3 a2_4) else (phaetonlaw24_ImageBurst.j0 k a1 t260 bt265.1 bt265.2 true t261 t262 a2_0 a2_1 a2_2 a2_3 a2_4))) = some r := H
 have A5 := Aside0.mk A50
 clear A50
 replace H := Option.bind_eq_some_iff.mp H
 obtain ⟨⟨t265, t268⟩, A60, H⟩ := H
 replace H : (if t268 = true then (phaetonlaw24_ImageBurst.j0 k a1 t260 t265 t268 (decide ((t265.length : Int) < 19)) t261 t262 a2_0 a2_1 a2_2 a2_3 a2_4) else (phaetonlaw24_ImageBurst.j0 k a1 t260 t265 t268 true t261 t262 a2_0 a2_1 a2_2 a2_3 a2_4)) = some r := H
 have A6 := Aside0.mk A60
 clear A60
 have HC7 := Aside0.mk H
 clear H
 go_enter Try.func5, Try.ntmps5
 (try simp only [List.append])
 go_upto_region 4 with (first | ((with_reducible refine gate_dst (N := 3) rfl ?_); (try (refine gate_guard (by rfl) ?_; dsimp only)); refine box_event ?hg (N := 3) ?hd (cs := #[.int .i64 a0_0, .slice A0_1 l0_1.length c0_1]) (t := 24) ?hr ?_; (case hd => rfl); (case hg => rfl); (case hr => first | (go_simp; done) | (go_simp; rfl)); intro gb258 hg w8 hbox hb; have n0_ := Aside0.mk (below_step (by repeat (first | (with_reducible first | exact HB.out | apply below_alloc | apply pw_below_drewN | apply below_drew1) | exact HB.out)) hb); have n1_ := Aside0.mk (hbox); have n2_ := Aside0.mk ((by rw [hg]; exact (below_size (by repeat (first | (with_reducible first | exact HB.out | apply below_alloc | apply pw_below_drewN | apply below_drew1) | exact HB.out))) : w.heap.size ≤ gb258)); have n3_ := Aside0.mk ((by rw [hg]; exact (below_size (by repeat (first | (with_reducible first | exact HB.out | apply below_alloc | apply pw_below_drewN | apply below_drew1) | exact HB.out))) : w.heap.size ≤ gb258)); clear HB; have HB := n0_; have BK258 := n1_; have GW258 := n2_; have GE258 := n3_; clear n0_ n1_ n2_ n3_; clear hb hbox hg) | ((with_reducible refine gate_dst (N := 5) rfl ?_); (try (refine gate_guard (by rfl) ?_; dsimp only)); refine box_event ?hg (N := 5) ?hd (cs := #[.int .u16 a2_0, .int .u8 a2_1, .int .u8 a2_2, .int .u8 a2_3, .int .u8 a2_4]) (t := 43) ?hr ?_; (case hd => rfl); (case hg => rfl); (case hr => first | (go_simp; done) | (go_simp; rfl)); intro gb259 hg w9 hbox hb; have n0_ := Aside0.mk (blk_below (g := gb258) (o := .cells #[.int .i64 a0_0, .slice A0_1 l0_1.length c0_1] 24 (0, 0)) (by (with_reducible repeat (first | refine blk_drewN ?_ _ | refine blk_drew ?_ | refine blk_alloc ?_ _)); exact BK258.out) hb); have n1_ := Aside0.mk (below_step (by repeat (first | (with_reducible first | exact HB.out | apply below_alloc | apply pw_below_drewN | apply below_drew1 | refine below_set ?_ GE258.out) | exact HB.out)) hb); have n2_ := Aside0.mk (hbox); have n3_ := Aside0.mk ((by rw [hg]; exact (below_size (by repeat (first | (with_reducible first | exact HB.out | apply below_alloc | apply pw_below_drewN | apply below_drew1 | refine below_set ?_ GE258.out) | exact HB.out))) : w.heap.size ≤ gb259)); have n4_ := Aside0.mk ((by rw [hg]; exact (below_size (by repeat (first | (with_reducible first | exact HB.out | apply below_alloc | apply pw_below_drewN | apply below_drew1 | refine below_set ?_ GE258.out) | exact HB.out))) : w.heap.size ≤ gb259)); have n5_ := Aside0.mk ((by rw [hg]; exact Nat.ne_of_lt (blk_lt (g := gb258) (o := .cells #[.int .i64 a0_0, .slice A0_1 l0_1.length c0_1] 24 (0, 0)) (by (with_reducible repeat (first | refine blk_drewN ?_ _ | refine blk_drew ?_ | refine blk_alloc ?_ _)); exact BK258.out)) : gb258 ≠ gb259)); have n6_ := Aside0.mk ((by rw [hg]; exact Nat.ne_of_gt (blk_lt (g := gb258) (o := .cells #[.int .i64 a0_0, .slice A0_1 l0_1.length c0_1] 24 (0, 0)) (by (with_reducible repeat (first | refine blk_drewN ?_ _ | refine blk_drew ?_ | refine blk_alloc ?_ _)); exact BK258.out)) : gb259 ≠ gb258)); clear BK258; clear HB; have BK258 := n0_; have HB := n1_; have BK259 := n2_; have GW259 := n3_; have GE259 := n4_; have NB258_259 := n5_; have NB259_258 := n6_; clear n0_ n1_ n2_ n3_ n4_ n5_ n6_; clear hb hbox hg) | ((with_reducible refine gate_callee (f := 11) rfl ?_); refine goesL_ (some 18) rfl rfl Try.func11 (by kernel_rfl) rfl #[] rfl (by (try simp only [List.map_toArray, List.map_cons, List.map_nil]); first | done | rfl | (simp only [List.length_drop, List.length_take]; rfl)) ?_; (with_reducible refine (phaetonlaw24_head.calls k  t260 _ A4.out).mono ?_); rintro e w10 ⟨rfl, hb⟩; refine ⟨_, rfl, ?_⟩; have n0_ := Aside0.mk (blk_below (g := gb258) (o := .cells #[.int .i64 a0_0, .slice A0_1 l0_1.length c0_1] 24 (0, 0)) (by (with_reducible repeat (first | refine blk_drewN ?_ _ | refine blk_drew ?_ | refine blk_alloc ?_ _)); exact BK258.out) hb); have n1_ := Aside0.mk (blk_below (g := gb259) (o := .cells #[.int .u16 a2_0, .int .u8 a2_1, .int .u8 a2_2, .int .u8 a2_3, .int .u8 a2_4] 43 (0, 0)) (by (with_reducible repeat (first | refine blk_drewN ?_ _ | refine blk_drew ?_ | refine blk_alloc ?_ _)); exact BK259.out) hb); have n2_ := Aside0.mk (below_step (by repeat (first | (with_reducible first | exact HB.out | apply below_alloc | apply pw_below_drewN | apply below_drew1 | refine below_set ?_ GE258.out | refine below_set ?_ GE259.out) | exact HB.out)) hb); clear BK258; clear BK259; clear HB; have BK258 := n0_; have BK259 := n1_; have HB := n2_; clear n0_ n1_ n2_; (try clear hb); (try clear hb2); (try clear hk); (try clear hi); have hnb11 := NB258_259.out; have hnc11 := NB259_258.out; have hcz12_0 : w10.cell? ⟨gb258, 0, none⟩ = some (.int .i64 a0_0) := (blk_cell BK258.out 0).trans rfl; have hcz12_1 : w10.cell? ⟨gb258, 1, none⟩ = some (.slice A0_1 l0_1.length c0_1) := (blk_cell BK258.out 1).trans rfl; have hfz12_0 := blk_frozen BK258.out 0; have hfz12_1 := blk_frozen BK258.out 1) | ((with_reducible refine gate_callee (f := 12) rfl ?_); refine goesL_ (some 20) rfl rfl Try.func12 (by kernel_rfl) rfl #[.agg #[.int .i64 a0_0, .slice A0_1 l0_1.length c0_1]] rfl (by (try simp only [List.map_toArray, List.map_cons, List.map_nil]); first | done | rfl | (simp only [List.length_drop, List.length_take]; rfl)) ?_; (with_reducible refine (phaetonlaw24_Cut.calls a0_0 _ _ l0_1 t261 t262 _ ?side1 ?side2 A5.out).mono ?_); (case side1 => repeat (first | exact (Kd.C_below HR0_1.out HB.out) | (with_reducible refine Kd.C_alloc ?_ _) | (with_reducible refine Kd.C_drewN ?_ _) | (with_reducible refine Kd.C_drew ?_))); (case side2 => exact HC0_1.out); rintro e w13 ⟨v263, rfl, ho0, hb⟩; refine ⟨_, rfl, ?_⟩; have n0_ := Aside0.mk (Kd.R_lower ho0 (below_size (by repeat (first | (with_reducible first | exact HB.out | apply below_alloc | apply pw_below_drewN | apply below_drew1 | refine below_set ?_ GE258.out | refine below_set ?_ GE259.out) | exact HB.out)))); have n1_ := Aside0.mk (blk_below (g := gb258) (o := .cells #[.int .i64 a0_0, .slice A0_1 l0_1.length c0_1] 24 (0, 0)) (by (with_reducible repeat (first | refine blk_drewN ?_ _ | refine blk_drew ?_ | refine blk_alloc ?_ _)); exact BK258.out) hb); have n2_ := Aside0.mk (blk_below (g := gb259) (o := .cells #[.int .u16 a2_0, .int .u8 a2_1, .int .u8 a2_2, .int .u8 a2_3, .int .u8 a2_4] 43 (0, 0)) (by (with_reducible repeat (first | refine blk_drewN ?_ _ | refine blk_drew ?_ | refine blk_alloc ?_ _)); exact BK259.out) hb); have n3_ := Aside0.mk (below_step (by repeat (first | (with_reducible first | exact HB.out | apply below_alloc | apply pw_below_drewN | apply below_drew1 | refine below_set ?_ GE258.out | refine below_set ?_ GE259.out) | exact HB.out)) hb); clear BK258; clear BK259; clear HB; have HO264 := n0_; have BK258 := n1_; have BK259 := n2_; have HB := n3_; clear n0_ n1_ n2_ n3_; (try clear hb); (try clear hb2); (try clear hk); (try clear hi); (try clear ho0); have hcz14_0 : w13.cell? ⟨gb258, 0, none⟩ = some (.int .i64 a0_0) := (blk_cell BK258.out 0).trans rfl; have hcz14_1 : w13.cell? ⟨gb258, 1, none⟩ = some (.slice A0_1 l0_1.length c0_1) := (blk_cell BK258.out 1).trans rfl; have hfz14_0 := blk_frozen BK258.out 0; have hfz14_1 := blk_frozen BK258.out 1; obtain ⟨Ao15, co15, eo15⟩ := Kd.R_slice HO264.out; subst eo15) | ((with_reducible refine gate_callee (f := 13) rfl ?_); refine goesL_ (some 24) rfl rfl Try.func13 (by kernel_rfl) rfl #[.agg #[.int .i64 t261, .slice Ao15 t262.length co15], .int .i64 a1] rfl (by (try simp only [List.map_toArray, List.map_cons, List.map_nil]); first | done | rfl | (simp only [List.length_drop, List.length_take]; rfl)) ?_; (with_reducible refine (image_Pack.calls k t261 _ _ t262 a1 t265 t268 _ ?side1 ?side2 A6.out).mono ?_); (case side1 => refine (Kd.R_reads' (e := 5) (base := w.heap.size) (ok := fun k_ => True) (n := t262.length) (c := co15) ?_).2.2; exact (by (with_reducible repeat (first | apply Kd.R_alloc | apply Kd.R_drewN | apply Kd.R_drew)); exact (Kd.R_mono (Kd.R_far (p := ⟨gb258, 1, none⟩) (Kd.R_far (p := ⟨gb258, 0, none⟩) (Kd.R_types HO264.out BK258.out (by decide)) (fun _ hk => hk.2) (.int .i64 t261)) (fun _ hk => hk.2) (.slice Ao15 t262.length co15)) (fun _ h_ => h_.1)))); (case side2 => exact (Kd.R_reads' HO264.out).2.1); rintro e w16 ⟨v266, rfl, ho0, hb⟩; refine ⟨_, rfl, ?_⟩; have n0_ := Aside0.mk (Kd.R_elder' (by (with_reducible repeat (first | apply Kd.R_alloc | apply Kd.R_drewN | apply Kd.R_drew)); exact (Kd.R_mono (Kd.R_far (p := ⟨gb258, 1, none⟩) (Kd.R_far (p := ⟨gb258, 0, none⟩) (Kd.R_types HO264.out BK258.out (by decide)) (fun _ hk => hk.2) (.int .i64 t261)) (fun _ hk => hk.2) (.slice Ao15 t262.length co15)) (fun _ h_ => h_.1))) (Kd.R_base ho0) hb); have n1_ := Aside0.mk (Kd.R_lower (Kd.R_new' ho0 (Kd.R_lt (by (with_reducible repeat (first | apply Kd.R_alloc | apply Kd.R_drewN | apply Kd.R_drew)); exact (Kd.R_mono (Kd.R_far (p := ⟨gb258, 1, none⟩) (Kd.R_far (p := ⟨gb258, 0, none⟩) (Kd.R_types HO264.out BK258.out (by decide)) (fun _ hk => hk.2) (.int .i64 t261)) (fun _ hk => hk.2) (.slice Ao15 t262.length co15)) (fun _ h_ => h_.1))))) (below_size (by repeat (first | (with_reducible first | exact HB.out | apply below_alloc | apply pw_below_drewN | apply below_drew1 | refine below_set ?_ GE258.out | refine below_set ?_ GE259.out) | exact HB.out)))); have n2_ := Aside0.mk (blk_below (g := gb258) (o := .cells #[.int .i64 t261, .slice Ao15 t262.length co15] 24 (0, 0)) (by (with_reducible repeat (first | refine blk_drewN ?_ _ | refine blk_drew ?_ | refine blk_alloc ?_ _)); refine blk_put (cs := #[.int .i64 t261, .slice A0_1 l0_1.length c0_1]) ?_ 1 _ rfl; (with_reducible repeat (first | refine blk_drewN ?_ _ | refine blk_drew ?_ | refine blk_alloc ?_ _)); refine blk_put (cs := #[.int .i64 a0_0, .slice A0_1 l0_1.length c0_1]) ?_ 0 _ rfl; (with_reducible repeat (first | refine blk_drewN ?_ _ | refine blk_drew ?_ | refine blk_alloc ?_ _)); exact BK258.out) hb); have n3_ := Aside0.mk (blk_below (g := gb259) (o := .cells #[.int .u16 a2_0, .int .u8 a2_1, .int .u8 a2_2, .int .u8 a2_3, .int .u8 a2_4] 43 (0, 0)) (by (with_reducible repeat (first | refine blk_drewN ?_ _ | refine blk_drew ?_ | refine blk_alloc ?_ _)); refine blk_far ?_ NB259_258.out _; (with_reducible repeat (first | refine blk_drewN ?_ _ | refine blk_drew ?_ | refine blk_alloc ?_ _)); refine blk_far ?_ NB259_258.out _; (with_reducible repeat (first | refine blk_drewN ?_ _ | refine blk_drew ?_ | refine blk_alloc ?_ _)); exact BK259.out) hb); have n4_ := Aside0.mk (below_step (by repeat (first | (with_reducible first | exact HB.out | apply below_alloc | apply pw_below_drewN | apply below_drew1 | refine below_set ?_ GE258.out | refine below_set ?_ GE259.out) | exact HB.out)) hb); clear HO264; clear BK258; clear BK259; clear HB; have HO264 := n0_; have HO267 := n1_; have BK258 := n2_; have BK259 := n3_; have HB := n4_; clear n0_ n1_ n2_ n3_ n4_; (try clear hb); (try clear hb2); (try clear hk); (try clear hi); (try clear ho0)))
 (try simp only [Act.put, List.setIfInBounds_toArray, List.set_cons_zero, List.set_cons_succ])
 go_cut [33] (fun v33 wc => ∃ (kq : Nat) (x33_6 : Bool), v33 = .bool x33_6 ∧ Aside0 (phaetonlaw24_ImageBurst.j0 kq a1 t260 t265 t268 x33_6 t261 t262 a2_0 a2_1 a2_2 a2_3 a2_4 = some r) ∧ Aside0 (kq ≤ k) ∧ Aside0 (Kd.R (Kd.int .u8) 5 wc w.heap.size (fun k_ => some k_ ≠ ((.slice Ao15 t262.length co15) : Value).ownBlock) v266 t265) ∧ Aside0 (Kd.R (Kd.int .u8) 5 wc w.heap.size (fun k_ => some k_ ≠ (v266 : Value).ownBlock) (.slice Ao15 t262.length co15) t262) ∧ Aside0 (wc.heap[gb258]? = some (.cells #[.int .i64 t261, (.slice Ao15 t262.length co15)] 24 (0, 0))) ∧ Aside0 (wc.heap[gb259]? = some (.cells #[.int .u16 a2_0, .int .u8 a2_1, .int .u8 a2_2, .int .u8 a2_3, .int .u8 a2_4] 43 (0, 0))) ∧ Aside0 (Below w.heap.size w wc))
 case first => as_aux_lemma =>
  have H := HC7.out
  clear HC7
  by_cases c17 : t268 = true
  ·subst c17
   have H1 : (phaetonlaw24_ImageBurst.j0 k a1 t260 t265 true (decide ((t265.length : Int) < 19)) t261 t262 a2_0 a2_1 a2_2 a2_3 a2_4) = some r := by rw [if_pos rfl] at H; exact H
   clear H
   have H := H1
   clear H1
   have H' := Aside0.mk H
   clear H
   obtain ⟨Ao18, co18, eo18⟩ := Kd.R_slice HO267.out
   subst eo18
   go_wp2
   go_meet
   case rel => exact ⟨_, (decide ((t265.length : Int) < 19)), (by first | rfl | (simp; done) | (simp [*]; done)), H', ⟨by first | omega | exact Nat.le_refl _⟩, ⟨by (with_reducible repeat (first | apply Kd.R_alloc | apply Kd.R_drewN | apply Kd.R_drew)); exact Kd.R_mono HO267.out (fun _ hk => hk.2)⟩, ⟨by (with_reducible repeat (first | apply Kd.R_alloc | apply Kd.R_drewN | apply Kd.R_drew)); exact Kd.R_mono HO264.out (fun _ hk => hk.2)⟩, ⟨by (with_reducible repeat (first | refine blk_drewN ?_ _ | refine blk_drew ?_ | refine blk_alloc ?_ _)); exact BK258.out⟩, ⟨by (with_reducible repeat (first | refine blk_drewN ?_ _ | refine blk_drew ?_ | refine blk_alloc ?_ _)); exact BK259.out⟩, ⟨by repeat (first | (with_reducible first | exact HB.out | apply below_alloc | apply pw_below_drewN | apply below_drew1 | refine below_set ?_ GE258.out | refine below_set ?_ GE259.out) | exact HB.out)⟩⟩
  ·replace c17 := Bool.eq_false_iff.mpr c17
   subst c17
   have H1 : (phaetonlaw24_ImageBurst.j0 k a1 t260 t265 false true t261 t262 a2_0 a2_1 a2_2 a2_3 a2_4) = some r := by rw [if_neg (show ¬ (false = true) by decide)] at H; exact H
   clear H
   have H := H1
   clear H1
   have H' := Aside0.mk H
   clear H
   go_wp2
   go_meet
   case rel => exact ⟨_, (true), (by first | rfl | (simp; done) | (simp [*]; done)), H', ⟨by first | omega | exact Nat.le_refl _⟩, ⟨by (with_reducible repeat (first | apply Kd.R_alloc | apply Kd.R_drewN | apply Kd.R_drew)); exact Kd.R_mono HO267.out (fun _ hk => hk.2)⟩, ⟨by (with_reducible repeat (first | apply Kd.R_alloc | apply Kd.R_drewN | apply Kd.R_drew)); exact Kd.R_mono HO264.out (fun _ hk => hk.2)⟩, ⟨by (with_reducible repeat (first | refine blk_drewN ?_ _ | refine blk_drew ?_ | refine blk_alloc ?_ _)); exact BK258.out⟩, ⟨by (with_reducible repeat (first | refine blk_drewN ?_ _ | refine blk_drew ?_ | refine blk_alloc ?_ _)); exact BK259.out⟩, ⟨by repeat (first | (with_reducible first | exact HB.out | apply below_alloc | apply pw_below_drewN | apply below_drew1 | refine below_set ?_ GE258.out | refine below_set ?_ GE259.out) | exact HB.out)⟩⟩
 case rest => as_aux_lemma =>
  clear HC7
  try clear c1
  try clear p2
  try clear c5
  try clear c11
  try clear c12
  try clear c13
  try clear c17
  try clear hcz12_0
  try clear hcz12_1
  try clear hcz14_0
  try clear hcz14_1
  try clear hfz12_0
  try clear hfz12_1
  try clear hfz14_0
  try clear hfz14_1
  obtain ⟨kq, x33_6, rfl, HA, HJ6, HO_8, HO_259001, BK258, BK259, HB⟩ := hcut
  cases kq with
  | zero => exact absurd HA.out (by simp [phaetonlaw24_ImageBurst.j0])
  | succ kj6 =>
   have H := HA.out
   clear HA
   simp only [phaetonlaw24_ImageBurst.j0] at H
   by_cases c19 : x33_6 = true
   ·subst c19
    have H1 : (if t268 = true then (none) else (if (t265.length : Int) = 0 then (if t260 = true then (some true) else (none)) else (none))) = some r := by rw [if_pos rfl] at H; exact H
    clear H
    have H := H1
    clear H1
    by_cases c20 : t268 = true
    ·subst c20
     have H1 : (none) = some r := by rw [if_pos rfl] at H; exact H
     clear H
     have H := H1
     clear H1
     exact absurd H (by simp)
    ·replace c20 := Bool.eq_false_iff.mpr c20
     subst c20
     have H1 : (if (t265.length : Int) = 0 then (if t260 = true then (some true) else (none)) else (none)) = some r := by rw [if_neg (show ¬ (false = true) by decide)] at H; exact H
     clear H
     have H := H1
     clear H1
     by_cases c21 : (t265.length : Int) = 0
     rotate_left
     ·rw [if_neg c21] at H
      exact absurd H (by simp)
     rw [if_pos c21] at H
     have c21b0 : ((t265.length : Int) == 0) = true := beq_iff_eq.mpr c21
     have c21b1 : ((t265.length : Int) != 0) = false := bne_eq_false_iff_eq.mpr c21
     clear c21
     by_cases c22 : t260 = true
     ·subst c22
      have H1 : (some true) = some r := by rw [if_pos rfl] at H; exact H
      clear H
      have H := H1
      clear H1
      obtain rfl := Option.some.inj H
      obtain ⟨Ao23, co23, eo23⟩ := Kd.R_slice HO_8.out
      subst eo23
      go_wp2
      go_ret
      exact ⟨by first | rfl | (simp [errW_none, errW_some] <;> rfl) | (simp [*, errW_none, errW_some] <;> rfl), by repeat (first | (with_reducible first | exact HB.out | apply below_alloc | apply pw_below_drewN | apply below_drew1 | refine below_set ?_ GE258.out | refine below_set ?_ GE259.out) | exact HB.out)⟩
     ·replace c22 := Bool.eq_false_iff.mpr c22
      subst c22
      have H1 : (none) = some r := by rw [if_neg (show ¬ (false = true) by decide)] at H; exact H
      clear H
      have H := H1
      clear H1
      exact absurd H (by simp)
   ·replace c19 := Bool.eq_false_iff.mpr c19
    subst c19
    have H1 : ((some (([] : List Int) : List Int)).bind fun y269 => (if y269.length + t265.length < 140737488355328 then ((some (y269 ++ t265 : List Int)).bind fun y272 => (if (y272.length : Int) = 0 then (none) else (phaetonlaw24_ImageBurst.l0 kj6 a1 t260 t265 y272 (Int.tmod (wrap64 (a2_0)) (y272.length : Int)) 0 t261 t262 a2_0 a2_1 a2_2 a2_3 a2_4))) else (none))) = some r := by rw [if_neg (show ¬ (false = true) by decide)] at H; exact H
    clear H
    have H := H1
    clear H1
    obtain ⟨y269, hy269⟩ : ∃ y_ : List Int, y_ = (([] : List Int)) := ⟨_, rfl⟩
    replace H : (if y269.length + t265.length < 140737488355328 then ((some (y269 ++ t265 : List Int)).bind fun y272 => (if (y272.length : Int) = 0 then (none) else (phaetonlaw24_ImageBurst.l0 kj6 a1 t260 t265 y272 (Int.tmod (wrap64 (a2_0)) (y272.length : Int)) 0 t261 t262 a2_0 a2_1 a2_2 a2_3 a2_4))) else (none)) = some r := by first | (rw [hy269]; with_reducible exact H) | (have H2_ := (Option.bind_some _ _).symm.trans H; rw [hy269]; with_reducible exact H2_) | (have H2_ := (Option.bind_some _ _).symm.trans H; with_reducible exact H2_) | with_reducible exact H | (rw [hy269]; exact H) | exact H
    have Ny269 := Aside0.mk hy269
    clear hy269
    by_cases c24 : y269.length + t265.length < 140737488355328
    rotate_left
    ·rw [if_neg c24] at H
     exact absurd H (by simp)

    rw [if_pos c24] at H
    have LMc24 := Aside0.mk c24
    clear c24
    obtain ⟨y272, hy272⟩ : ∃ y_ : List Int, y_ = (y269 ++ t265) := ⟨_, rfl⟩
    replace H : (if (y272.length : Int) = 0 then (none) else (phaetonlaw24_ImageBurst.l0 kj6 a1 t260 t265 y272 (Int.tmod (wrap64 (a2_0)) (y272.length : Int)) 0 t261 t262 a2_0 a2_1 a2_2 a2_3 a2_4)) = some r := by first | (rw [hy272]; with_reducible exact H) | (have H2_ := (Option.bind_some _ _).symm.trans H; rw [hy272]; with_reducible exact H2_) | (have H2_ := (Option.bind_some _ _).symm.trans H; with_reducible exact H2_) | with_reducible exact H | (rw [hy272]; exact H) | exact H
    have Ny272 := Aside0.mk hy272
    clear hy272
    by_cases c25 : (y272.length : Int) = 0
    ·rw [if_pos c25] at H
     exact absurd H (by simp)
    ·rw [if_neg c25] at H
     have c25b0 : ((y272.length : Int) == 0) = false := beq_eq_false_iff_ne.mpr c25
     have c25b1 : ((y272.length : Int) != 0) = true := bne_iff_ne.mpr c25
     have c25b2 : ¬ (y272 = []) := fun h_ => c25 (by rw [h_]; rfl)
     have HC26 := Aside0.mk H
     clear H
     go_upto_block 0 with (first | ((with_reducible refine gate_dst (N := 44) rfl ?_); (try (refine gate_guard (by rfl) ?_; dsimp only)); refine Kd.R_lit (Kd.int .u8) _ 5 ?hg (N := 44) ?hd (xs := ([] : List Int)) (inner := []) (ok := fun _ => True) (okp := fun _ => True) ?hr ?hp (fun _ hk => hk) trivial (Below.refl _ _) (Nat.le_refl _) (by simp) ?_; (case hd => rfl); (case hg => rfl); (case hr => first | (go_simp; done) | (go_simp; rfl)); (case hp => exact (Reps.none _ _)); intro v270 w27 ho28 hb hg_ hnew_; clear hg_ hnew_; (first | rw [← Ny269.out] at ho28 | (simp only [Int.reduceToNat] at ho28; rw [← Ny269.out] at ho28)); have n0_ := Aside0.mk (Kd.R_elder' (by (with_reducible repeat (first | apply Kd.R_alloc | apply Kd.R_drewN | apply Kd.R_drew)); exact HO_8.out) (Kd.R_base ho28) hb); have n1_ := Aside0.mk (Kd.R_elder' (by (with_reducible repeat (first | apply Kd.R_alloc | apply Kd.R_drewN | apply Kd.R_drew)); exact HO_259001.out) (Kd.R_base ho28) hb); have n2_ := Aside0.mk (Kd.R_lower (Kd.R_new' (Kd.R_new' ho28 (Kd.R_lt (by (with_reducible repeat (first | apply Kd.R_alloc | apply Kd.R_drewN | apply Kd.R_drew)); exact HO_8.out))) (Kd.R_lt (by (with_reducible repeat (first | apply Kd.R_alloc | apply Kd.R_drewN | apply Kd.R_drew)); exact HO_259001.out))) (below_size (by repeat (first | (with_reducible first | exact HB.out | apply below_alloc | apply pw_below_drewN | apply below_drew1 | refine below_set ?_ GE258.out | refine below_set ?_ GE259.out) | exact HB.out)))); have n3_ := Aside0.mk (blk_below (g := gb258) (o := .cells #[.int .i64 t261, .slice Ao15 t262.length co15] 24 (0, 0)) (by (with_reducible repeat (first | refine blk_drewN ?_ _ | refine blk_drew ?_ | refine blk_alloc ?_ _)); exact BK258.out) hb); have n4_ := Aside0.mk (blk_below (g := gb259) (o := .cells #[.int .u16 a2_0, .int .u8 a2_1, .int .u8 a2_2, .int .u8 a2_3, .int .u8 a2_4] 43 (0, 0)) (by (with_reducible repeat (first | refine blk_drewN ?_ _ | refine blk_drew ?_ | refine blk_alloc ?_ _)); exact BK259.out) hb); have n5_ := Aside0.mk (below_step (by repeat (first | (with_reducible first | exact HB.out | apply below_alloc | apply pw_below_drewN | apply below_drew1 | refine below_set ?_ GE258.out | refine below_set ?_ GE259.out) | exact HB.out)) hb); clear HO_8; clear HO_259001; clear BK258; clear BK259; clear HB; have HO_8 := n0_; have HO_259001 := n1_; have HO271 := n2_; have BK258 := n3_; have BK259 := n4_; have HB := n5_; clear n0_ n1_ n2_ n3_ n4_ n5_; clear hb ho28; obtain ⟨Ao30, co30, eo30⟩ := Kd.R_slice HO_8.out; subst eo30) | ((with_reducible refine gate_builtin (b := .append) (xs := #[.tmp 44, .tmp 45]) rfl ?_); (try (refine gate_guard (by rfl) ?_; dsimp only)); at_builtin; refine Kd.R_append_rows (Kd.int .u8) (w0 := w) w.heap.size rfl (.tmp 44) (.tmp 45) 22 5 (.int .u8 0) 1 rfl Try.underlying22 info5 rfl (by decide) (by omega) v270 y269 t265 _ _ _ (fun k_ => some k_ ≠ (.slice Ao30 t265.length co30 : Value).ownBlock ∧ some k_ ≠ (.slice Ao15 t262.length co15 : Value).ownBlock) (fun _ => False) rfl rfl ?aO ?aR (fun _ _ h => h) (fun _ h => h.elim) ?aF ?aB ?aS ?aL ?_; (case aR => repeat (first | exact (Kd.R_reads' HO_8.out).2.2 | (with_reducible refine Kd.C_alloc ?_ _) | (with_reducible refine Kd.C_drewN ?_ _) | (with_reducible refine Kd.C_drew ?_))); (case aB => exact (by repeat (first | (with_reducible first | exact HB.out | apply below_alloc | apply pw_below_drewN | apply below_drew1 | refine below_set ?_ GE258.out | refine below_set ?_ GE259.out) | exact HB.out))); (case aF => exact (fun k_ hk => ⟨Kd.fresh' (Kd.R_lt (by (with_reducible repeat (first | apply Kd.R_alloc | apply Kd.R_drewN | apply Kd.R_drew)); exact HO_8.out)) k_ hk, Kd.fresh' (Kd.R_lt (by (with_reducible repeat (first | apply Kd.R_alloc | apply Kd.R_drewN | apply Kd.R_drew)); exact HO_259001.out)) k_ hk⟩)); (case aO => exact (by (with_reducible repeat (first | apply Kd.R_alloc | apply Kd.R_drewN | apply Kd.R_drew)); exact Kd.R_mono HO271.out (fun k_ hk => by first | exact ⟨hk.1.2, hk.2⟩ | (refine ⟨?_, ?_⟩ <;> first | exact hk.1 | exact hk.2 | exact hk.1.2 | exact hk.2.2 | exact hk.1.1 | exact hk.2.1)))); (case aS => exact (below_size (by repeat (first | (with_reducible first | exact HB.out | apply below_alloc | apply pw_below_drewN | apply below_drew1 | refine below_set ?_ GE258.out | refine below_set ?_ GE259.out) | exact HB.out)))); (case aL => have := LMc24.out; omega); intro v273 w29 ho hb hg hat; rw [← Ny272.out] at ho; have n0_ := Aside0.mk (Kd.R_after (ok := (fun k_ => some k_ ≠ (.slice Ao15 t262.length co15 : Value).ownBlock)) (by (with_reducible repeat (first | apply Kd.R_alloc | apply Kd.R_drewN | apply Kd.R_drew)); exact HO_8.out) hg hat); have n1_ := Aside0.mk (Kd.R_after (ok := (fun k_ => some k_ ≠ (.slice Ao30 t265.length co30 : Value).ownBlock)) (by (with_reducible repeat (first | apply Kd.R_alloc | apply Kd.R_drewN | apply Kd.R_drew)); exact HO_259001.out) hg hat); have n2_ := Aside0.mk (blk_grown (g := gb258) (o := .cells #[.int .i64 t261, .slice Ao15 t262.length co15] 24 (0, 0)) (by (with_reducible repeat (first | refine blk_drewN ?_ _ | refine blk_drew ?_ | refine blk_alloc ?_ _)); exact BK258.out) hg (Kd.R_ne HO271.out BK258.out (by decide))); have n3_ := Aside0.mk (blk_grown (g := gb259) (o := .cells #[.int .u16 a2_0, .int .u8 a2_1, .int .u8 a2_2, .int .u8 a2_3, .int .u8 a2_4] 43 (0, 0)) (by (with_reducible repeat (first | refine blk_drewN ?_ _ | refine blk_drew ?_ | refine blk_alloc ?_ _)); exact BK259.out) hg (Kd.R_ne HO271.out BK259.out (by decide))); have n4_ := Aside0.mk (hb); have n5_ := Aside0.mk (ho); clear HO_8; clear HO_259001; clear BK258; clear BK259; clear HB; clear HO271; have HO_8 := n0_; have HO_259001 := n1_; have BK258 := n2_; have BK259 := n3_; have HB := n4_; have HO274 := n5_; clear n0_ n1_ n2_ n3_ n4_ n5_; clear ho hb hg hat; have hnb31 := NB259_258.out; have hnc31 := NB258_259.out; have hcz32_0 : w29.cell? ⟨gb259, 0, none⟩ = some (.int .u16 a2_0) := (blk_cell BK259.out 0).trans rfl; have hcz32_1 : w29.cell? ⟨gb259, 1, none⟩ = some (.int .u8 a2_1) := (blk_cell BK259.out 1).trans rfl; have hcz32_2 : w29.cell? ⟨gb259, 2, none⟩ = some (.int .u8 a2_2) := (blk_cell BK259.out 2).trans rfl; have hcz32_3 : w29.cell? ⟨gb259, 3, none⟩ = some (.int .u8 a2_3) := (blk_cell BK259.out 3).trans rfl; have hcz32_4 : w29.cell? ⟨gb259, 4, none⟩ = some (.int .u8 a2_4) := (blk_cell BK259.out 4).trans rfl; have hfz32_0 := blk_frozen BK259.out 0; have hfz32_1 := blk_frozen BK259.out 1; have hfz32_2 := blk_frozen BK259.out 2; have hfz32_3 := blk_frozen BK259.out 3; have hfz32_4 := blk_frozen BK259.out 4; obtain ⟨Ao33, co33, eo33⟩ := Kd.R_slice HO274.out; subst eo33))
     (try simp only [Act.put, List.setIfInBounds_toArray, List.set_cons_zero, List.set_cons_succ])
     go_cut [] (fun wc => ∃ (kq : Nat) (x10_25 : List Int), Aside0 (phaetonlaw24_ImageBurst.j2 kq a1 t260 t265 x10_25 t261 t262 = some r) ∧ Aside0 (kq ≤ kj6) ∧ Aside0 (Kd.R (Kd.int .u8) 5 wc w.heap.size (fun k_ => some k_ ≠ ((.slice Ao33 y272.length co33) : Value).ownBlock ∧ some k_ ≠ ((.slice Ao15 t262.length co15) : Value).ownBlock) (.slice Ao30 t265.length co30) t265) ∧ Aside0 (Kd.R (Kd.int .u8) 5 wc w.heap.size (fun k_ => some k_ ≠ ((.slice Ao30 t265.length co30) : Value).ownBlock ∧ some k_ ≠ ((.slice Ao15 t262.length co15) : Value).ownBlock) (.slice Ao33 y272.length co33) x10_25) ∧ Aside0 (Kd.R (Kd.int .u8) 5 wc w.heap.size (fun k_ => some k_ ≠ ((.slice Ao30 t265.length co30) : Value).ownBlock ∧ some k_ ≠ ((.slice Ao33 y272.length co33) : Value).ownBlock) (.slice Ao15 t262.length co15) t262) ∧ Aside0 (wc.heap[gb258]? = some (.cells #[.int .i64 t261, (.slice Ao15 t262.length co15)] 24 (0, 0))) ∧ Aside0 (wc.heap[gb259]? = some (.cells #[.int .u16 a2_0, .int .u8 a2_1, .int .u8 a2_2, .int .u8 a2_3, .int .u8 a2_4] 43 (0, 0))) ∧ Aside0 (Below w.heap.size w wc))
     case first => as_aux_lemma =>
      have H := HC26.out
      clear HC26
      have H' := Aside0.mk H
      clear H
      go_wp2
      go_loopg [12] kj6 (fun kq v12 w' => ∃ (x10_2 : List Int) (x12_2 : Int), v12 = .int .i64 x12_2 ∧ Aside0 (phaetonlaw24_ImageBurst.l0 kq a1 t260 t265 x10_2 (Int.tmod (wrap64 (a2_0)) (y272.length : Int)) x12_2 t261 t262 a2_0 a2_1 a2_2 a2_3 a2_4 = some r) ∧ Aside0 (kq ≤ kj6) ∧ Aside0 (Kd.R (Kd.int .u8) 5 w' w.heap.size (fun k_ => some k_ ≠ ((.slice Ao33 y272.length co33) : Value).ownBlock ∧ some k_ ≠ ((.slice Ao15 t262.length co15) : Value).ownBlock) (.slice Ao30 t265.length co30) t265) ∧ Aside0 (Kd.R (Kd.int .u8) 5 w' w.heap.size (fun k_ => some k_ ≠ ((.slice Ao30 t265.length co30) : Value).ownBlock ∧ some k_ ≠ ((.slice Ao15 t262.length co15) : Value).ownBlock) (.slice Ao33 y272.length co33) x10_2) ∧ Aside0 (Kd.R (Kd.int .u8) 5 w' w.heap.size (fun k_ => some k_ ≠ ((.slice Ao30 t265.length co30) : Value).ownBlock ∧ some k_ ≠ ((.slice Ao33 y272.length co33) : Value).ownBlock) (.slice Ao15 t262.length co15) t262) ∧ Aside0 (w'.heap[gb258]? = some (.cells #[.int .i64 t261, (.slice Ao15 t262.length co15)] 24 (0, 0))) ∧ Aside0 (w'.heap[gb259]? = some (.cells #[.int .u16 a2_0, .int .u8 a2_1, .int .u8 a2_2, .int .u8 a2_3, .int .u8 a2_4] 43 (0, 0))) ∧ Aside0 (Below w.heap.size w w') ∧ Aside0 (0 ≤ x12_2))
      case atStart => exact ⟨(y272), (0), (by first | rfl | (simp; done) | (simp [*]; done)), H', ⟨Nat.le_refl _⟩, ⟨by (with_reducible repeat (first | apply Kd.R_alloc | apply Kd.R_drewN | apply Kd.R_drew)); exact Kd.R_mono HO_8.out (fun _ hk => ⟨hk.2, hk.1⟩)⟩, ⟨by (with_reducible repeat (first | apply Kd.R_alloc | apply Kd.R_drewN | apply Kd.R_drew)); exact HO274.out⟩, ⟨by (with_reducible repeat (first | apply Kd.R_alloc | apply Kd.R_drewN | apply Kd.R_drew)); exact HO_259001.out⟩, ⟨by (with_reducible repeat (first | refine blk_drewN ?_ _ | refine blk_drew ?_ | refine blk_alloc ?_ _)); exact BK258.out⟩, ⟨by (with_reducible repeat (first | refine blk_drewN ?_ _ | refine blk_drew ?_ | refine blk_alloc ?_ _)); exact BK259.out⟩, ⟨by repeat (first | (with_reducible first | exact HB.out | apply below_alloc | apply pw_below_drewN | apply below_drew1 | refine below_set ?_ GE258.out | refine below_set ?_ GE259.out) | exact HB.out)⟩, ⟨by decide⟩⟩
      case round =>
       clear H'
       try clear c1
       try clear c2
       try clear p2
       try clear c3
       try clear c5
       try clear p6
       try clear c11
       try clear c12
       try clear c13
       try clear c17
       try clear c19
       try clear c20
       try clear c21
       try clear c21b0
       try clear c21b1
       try clear c22
       try clear c24
       try clear c25
       try clear c25b0
       try clear c25b1
       try clear c25b2
       try clear c31
       try clear hcz12_0
       try clear hcz12_1
       try clear hcz14_0
       try clear hcz14_1
       try clear hcz32_0
       try clear hcz32_1
       try clear hcz32_2
       try clear hcz32_3
       try clear hcz32_4
       try clear hfz12_0
       try clear hfz12_1
       try clear hfz14_0
       try clear hfz14_1
       try clear hfz32_0
       try clear hfz32_1
       try clear hfz32_2
       try clear hfz32_3
       try clear hfz32_4
       try clear p2
       obtain ⟨x10_2, x12_2, rfl, HA, HK2, HO_8, HO_10, HO_259001, BK258, BK259, HB, HI0_⟩ := hrel
       have hl10_2 := (Kd.R_reads' HO_10.out).1
       rw [hl10_2] at HO_10
       (try simp only [hl10_2])
       (try simp only [hl10_2] at BK258)
       (try simp only [hl10_2] at BK259)
       (try simp only [hl10_2] at HO_8)
       (try simp only [hl10_2] at HO_259001)
       cases gk with
       | zero => exact absurd HA.out (by simp [phaetonlaw24_ImageBurst.l0])
       | succ k2 =>
        have H := HA.out
        clear HA
        simp only [phaetonlaw24_ImageBurst.l0] at H
        by_cases c34 : x12_2 < 4
        ·rw [if_pos c34] at H
         have c34b0 : decide (x12_2 < 4) = true := decide_eq_true c34
         clear c34
         (first | rw [c34b0] | (simp only [i64_w, i32_w]; rw [c34b0]) | skip)
         by_cases c35 : (wrap64 ((Int.tmod (wrap64 (a2_0)) (y272.length : Int)) + x12_2)) < (x10_2.length : Int)
         ·rw [if_pos c35] at H
          have c35b0 : decide ((wrap64 ((Int.tmod (wrap64 (a2_0)) (y272.length : Int)) + x12_2)) < (x10_2.length : Int)) = true := decide_eq_true c35
          clear c35
          obtain ⟨ji36, hji36⟩ : ∃ j_ : Int, (wrap64 ((Int.tmod (wrap64 (a2_0)) (y272.length : Int)) + x12_2)) = j_ := ⟨_, rfl⟩
          replace H : (if 0 ≤ (ji36) then (phaetonlaw24_ImageBurst.l0 k2 a1 t260 t265 (x10_2.set ((ji36) : Int).toNat (Go.bits .xor .u8 (rd x10_2 (ji36)) (HW.pick4 a2_1 a2_2 a2_3 a2_4 x12_2))) (Int.tmod (wrap64 (a2_0)) (y272.length : Int)) (wrap64 (x12_2 + 1)) t261 t262 a2_0 a2_1 a2_2 a2_3 a2_4) else (none)) = some r := by first | (rw [hji36] at H; exact H) | (simp only [hji36] at H ⊢; exact H)
          (try rw [hji36] at c35b0)
          have hji36w : (IntKind.i64.wrap ((Int.tmod (wrap64 (a2_0)) (y272.length : Int)) + x12_2)) = ji36 := (i64_w _).trans hji36
          (try simp only [hl10_2] at hji36w)
          by_cases c37 : 0 ≤ (ji36)
          rotate_left
          ·rw [if_neg c37] at H
           exact absurd H (by simp)
          rw [if_pos c37] at H
          have c37b0 : decide (0 ≤ (ji36)) = true := decide_eq_true c37
          clear c37
          obtain ⟨y276, hy276⟩ : ∃ y_ : List Int, y_ = (x10_2.set ((ji36) : Int).toNat (Go.bits .xor .u8 (rd x10_2 (ji36)) (HW.pick4 a2_1 a2_2 a2_3 a2_4 x12_2))) := ⟨_, rfl⟩
          replace H : (phaetonlaw24_ImageBurst.l0 k2 a1 t260 t265 y276 (Int.tmod (wrap64 (a2_0)) (y272.length : Int)) (wrap64 (x12_2 + 1)) t261 t262 a2_0 a2_1 a2_2 a2_3 a2_4) = some r := by first | (rw [hy276]; with_reducible exact H) | (have H2_ := (Option.bind_some _ _).symm.trans H; rw [hy276]; with_reducible exact H2_) | (have H2_ := (Option.bind_some _ _).symm.trans H; with_reducible exact H2_) | with_reducible exact H | (rw [hy276]; exact H) | exact H
          have Ny276 := Aside0.mk hy276
          clear hy276
          have H' := Aside0.mk H
          clear H
          try go_wp2
          have n0_ := Aside0.mk (Kd.R_drew HO_8.out)
          have n1_ := Aside0.mk (Kd.R_drew HO_10.out)
          have n2_ := Aside0.mk (Kd.R_drew HO_259001.out)
          have n3_ := Aside0.mk (blk_drew BK258.out)
          have n4_ := Aside0.mk (blk_drew BK259.out)
          have n5_ := Aside0.mk (below_drew1 HB.out)
          clear HO_8
          clear HO_10
          clear HO_259001
          clear BK258
          clear BK259
          clear HB
          have HO_8 := n0_
          have HO_10 := n1_
          have HO_259001 := n2_
          have BK258 := n3_
          have BK259 := n4_
          have HB := n5_
          clear n0_ n1_ n2_ n3_ n4_ n5_
          have p275 : 0 ≤ ((ji36) : Int) := of_decide_eq_true (by first | (with_reducible assumption) | assumption)
          have q275 : (ji36) < (x10_2.length : Int) := of_decide_eq_true (by first | (with_reducible assumption) | assumption)
          obtain ⟨ad275, e275, hx275_0⟩ := Kd.at_int (Kd.R_reads' HO_10.out).2.2 (ji36) p275 q275
          cases e275
          replace p275 := eq_true p275
          replace q275 := eq_true q275
          have p38 : 0 ≤ ((ji36) : Int) := of_decide_eq_true (by first | (with_reducible assumption) | assumption)
          have q38 : ((ji36) : Int) < ((x10_2.length : Int) : Int) := of_decide_eq_true (by first | (with_reducible assumption) | assumption)
          obtain ⟨go38, co38, eo38, gb38, gl38, cl38, HG38⟩ := Kd.R_form HO_10.out (by omega)
          (first | cases eo38 | (injection eo38 with ea_ en_ ec_; (first | subst ea_ | (injection ea_ with ea_; subst ea_)); subst ec_; clear en_))
          have GB38 := Aside0.mk gb38
          have GG38 := Aside0.mk HG38
          clear gb38 gl38 HG38
          (first | simp only [add_plain] at hx275_0 | skip)
          obtain ⟨hx38_0, hf38_0⟩ := Kd.R_celln 0 HO_10.out ((ji36) : Int) p38 q38
          replace p38 := eq_true p38
          replace q38 := eq_true q38
          have HP40 := Kd.R_putn HO_10.out ((ji36) : Int) (Go.bits .xor .u8 (rd x10_2 (ji36)) (HW.pick4 a2_1 a2_2 a2_3 a2_4 x12_2))
          rw [← Ny276.out] at HP40
          have HQ40 := Aside0.mk HP40
          clear HP40
          have hi4_ : x12_2 < 4 := of_decide_eq_true (by first | (with_reducible assumption) | assumption)
          have hi0_ : (0 ≤ x12_2) = True := eq_true HI0_.out
          have hi5_ : (x12_2 < 4) = True := eq_true hi4_
          refine start_ (n := 17) (S := fun w' => w'.cell? ⟨gb259, 0, none⟩ = some (.int .u16 a2_0) ∧ w'.cell? ⟨gb259, 1, none⟩ = some (.int .u8 a2_1) ∧ w'.cell? ⟨gb259, 2, none⟩ = some (.int .u8 a2_2) ∧ w'.cell? ⟨gb259, 3, none⟩ = some (.int .u8 a2_3) ∧ w'.cell? ⟨gb259, 4, none⟩ = some (.int .u8 a2_4) ∧ w'.cell? ⟨go38, ((ji36)).toNat, none⟩ = some (.int .u8 (rd x10_2 (ji36))) ∧ w'.cell? ⟨gb259, 1 + (x12_2).toNat, none⟩ = some (.int .u8 (HW.pick4 a2_1 a2_2 a2_3 a2_4 x12_2))) (ds := [16]) #[false, false, false, false, false, false, false, false, false, false, false, false, false, false, false, false, false] (by kernel_rfl) rfl rfl ⟨(blk_cell BK259.out 0).trans rfl, (blk_cell BK259.out 1).trans rfl, (blk_cell BK259.out 2).trans rfl, (blk_cell BK259.out 3).trans rfl, (blk_cell BK259.out 4).trans rfl, hx275_0, HW.pick4_cell BK259.out HI0_.out hi4_⟩ (fun hHeld => ?_); refine with_tabW phaetonlaw24_ImageBurst.tab11 phaetonlaw24_ImageBurst.bits11 (fun HT_ HW_ => ?_)
          generalize wr.drew = w39 at HO_8 HO_10 HO_259001 BK258 BK259 HB GG38 HQ40 hf38_0 hx275_0 hx38_0 hHeld ⊢
          refine pure_ (i := 0) (N := some 65) (v := ?_) (a' := ?_) #[true, false, false, false, false, false, false, false, false, false, false, false, false, false, false, false, false] rfl rfl (any_of HT_.out (by kernel_rfl)) (fun _ _ _ h => h) (Or.inl ⟨by rfl, ?_⟩) ?_ ?_
          rotate_left
          ·intro w'
           go_simp
           with_reducible rfl
          rotate_left
          ·simp only [Act.put, HW.LA, HW.LZ, HW.LS, i64_w, i32_w]
           rfl
          refine pure_ (i := 1) (N := some 66) (v := ?_) (a' := ?_) #[true, true, false, false, false, false, false, false, false, false, false, false, false, false, false, false, false] rfl rfl (any_of HT_.out (by kernel_rfl)) (fun _ _ _ h => h) (Or.inl ⟨by rfl, ?_⟩) ?_ ?_
          rotate_left
          ·intro w'
           go_simp
           with_reducible rfl
          rotate_left
          ·simp only [Act.put, HW.LA, HW.LZ, HW.LS, i64_w, i32_w]
           rfl
          refine pure_ (i := 2) (N := some 67) (v := ?_) (a' := ?_) #[true, true, true, false, false, false, false, false, false, false, false, false, false, false, false, false, false] rfl rfl (any_of HT_.out (by kernel_rfl)) (fun _ _ _ h => h) (Or.inl ⟨by rfl, ?_⟩) ?_ ?_
          rotate_left
          ·intro w'
           go_simp
           with_reducible rfl
          rotate_left
          ·simp only [Act.put, HW.LA, HW.LZ, HW.LS, i64_w, i32_w]
           rfl
          refine pure_ (i := 3) (N := some 68) (v := ?_) (a' := ?_) #[true, true, true, true, false, false, false, false, false, false, false, false, false, false, false, false, false] rfl rfl (any_of HT_.out (by kernel_rfl)) (fun _ _ _ h => h) (Or.inl ⟨by rfl, ?_⟩) ?_ ?_
          rotate_left
          ·intro w'
           go_simp
           with_reducible rfl
          rotate_left
          ·simp only [Act.put, HW.LA, HW.LZ, HW.LS, i64_w, i32_w]
           rfl
          refine pure_ (i := 4) (N := some 69) (v := ?_) (a' := ?_) #[true, true, true, true, true, false, false, false, false, false, false, false, false, false, false, false, false] rfl rfl (any_of HT_.out (by kernel_rfl)) (fun _ _ _ h => h) (Or.inl ⟨by rfl, ?_⟩) ?_ ?_
          rotate_left
          ·intro w'
           go_simp
           with_reducible rfl
          rotate_left
          ·simp only [Act.put, HW.LA, HW.LZ, HW.LS, i64_w, i32_w]
           rfl
          refine pure_ (i := 5) (N := some 70) (v := ?_) (a' := ?_) #[true, true, true, true, true, true, false, false, false, false, false, false, false, false, false, false, false] rfl rfl (any_of HT_.out (by kernel_rfl)) (fun _ _ _ h => h) (Or.inl ⟨by rfl, ?_⟩) ?_ ?_
          rotate_left
          ·intro w'
           go_simp
           with_reducible rfl
          rotate_left
          ·simp only [Act.put, HW.LA, HW.LZ, HW.LS, i64_w, i32_w]
           rfl
          refine pure_ (i := 6) (N := some 71) (v := ?_) (a' := ?_) #[true, true, true, true, true, true, true, false, false, false, false, false, false, false, false, false, false] rfl rfl (any_of HT_.out (by kernel_rfl)) (fun _ _ _ h => h) (Or.inl ⟨by rfl, ?_⟩) ?_ ?_
          rotate_left
          ·intro w'
           go_simp
           with_reducible rfl
          rotate_left
          ·simp only [Act.put, HW.LA, HW.LZ, HW.LS, i64_w, i32_w]
           rfl
          refine pure_ (i := 7) (N := some 72) (v := ?_) (a' := ?_) #[true, true, true, true, true, true, true, true, false, false, false, false, false, false, false, false, false] rfl rfl (any_of HT_.out (by kernel_rfl)) (fun _ _ _ h => h) (Or.inl ⟨by rfl, ?_⟩) ?_ ?_
          rotate_left
          ·intro w'
           go_simp
           with_reducible rfl
          rotate_left
          ·simp only [Act.put, HW.LA, HW.LZ, HW.LS, i64_w, i32_w]
           rfl
          refine pure_ (i := 8) (N := some 73) (v := ?_) (a' := ?_) #[true, true, true, true, true, true, true, true, true, false, false, false, false, false, false, false, false] rfl rfl (any_of HT_.out (by kernel_rfl)) (fun _ _ _ h => h) (Or.inl ⟨by rfl, ?_⟩) ?_ ?_
          rotate_left
          ·intro w'
           go_simp
           with_reducible rfl
          rotate_left
          ·simp only [Act.put, HW.LA, HW.LZ, HW.LS, i64_w, i32_w]
           rfl
          refine pure_ (i := 10) (N := some 75) (v := ?_) (a' := ?_) #[true, true, true, true, true, true, true, true, true, false, true, false, false, false, false, false, false] rfl rfl (any_of HT_.out (by kernel_rfl)) (fun _ _ _ h => h) (Or.inl ⟨by rfl, ?_⟩) ?_ ?_
          rotate_left
          ·intro w'
           go_simp
           with_reducible rfl
          rotate_left
          ·simp only [Act.put, HW.LA, HW.LZ, HW.LS, i64_w, i32_w]
           rfl
          refine pure_ (i := 11) (N := some 76) (v := ?_) (a' := ?_) #[true, true, true, true, true, true, true, true, true, false, true, true, false, false, false, false, false] rfl rfl (any_of HT_.out (by kernel_rfl)) (fun _ _ _ h => h) (Or.inl ⟨by rfl, ?_⟩) ?_ ?_
          rotate_left
          ·intro w'
           go_simp
           with_reducible rfl
          rotate_left
          ·simp only [Act.put, HW.LA, HW.LZ, HW.LS, i64_w, i32_w]
           rfl
          refine pure_ (i := 12) (N := some 77) (v := ?_) (a' := ?_) #[true, true, true, true, true, true, true, true, true, false, true, true, true, false, false, false, false] rfl rfl (any_of HT_.out (by kernel_rfl)) (fun _ _ _ h => h) (Or.inl ⟨by rfl, ?_⟩) ?_ ?_
          rotate_left
          ·intro w'
           go_simp
           with_reducible rfl
          rotate_left
          ·simp only [Act.put, HW.LA, HW.LZ, HW.LS, i64_w, i32_w]
           rfl
          refine take_ (i := 9) (N := some 74) (v := ?_) (a' := ?_) #[true, true, true, true, true, true, true, true, true, true, true, true, true, false, false, false, false] rfl rfl (take_ofW HT_.out HW_.out (by kernel_rfl)) (fun _ _ _ h => h) (Or.inl ⟨by rfl, ?_⟩) hHeld ?_ ?_
          rotate_left
          ·rintro w' ⟨s0, s1, s2, s3, s4, s5, s6⟩
           go_simp
           with_reducible rfl
          rotate_left
          ·simp only [Act.put, HW.LA, HW.LZ, HW.LS, i64_w, i32_w]
           rfl
          refine take_ (i := 13) (N := some 78) (v := ?_) (a' := ?_) #[true, true, true, true, true, true, true, true, true, true, true, true, true, true, false, false, false] rfl rfl (take_ofW HT_.out HW_.out (by kernel_rfl)) (fun _ _ _ h => h) (Or.inl ⟨by rfl, ?_⟩) hHeld ?_ ?_
          rotate_left
          ·rintro w' ⟨s0, s1, s2, s3, s4, s5, s6⟩
           go_simp
           with_reducible rfl
          rotate_left
          ·simp only [Act.put, HW.LA, HW.LZ, HW.LS, i64_w, i32_w]
           rfl
          refine pure_ (i := 14) (N := some 79) (v := ?_) (a' := ?_) #[true, true, true, true, true, true, true, true, true, true, true, true, true, true, true, false, false] rfl rfl (any_of HT_.out (by kernel_rfl)) (fun _ _ _ h => h) (Or.inl ⟨by rfl, ?_⟩) ?_ ?_
          rotate_left
          ·intro w'
           go_simp
           with_reducible rfl
          rotate_left
          ·simp only [Act.put, HW.LA, HW.LZ, HW.LS, i64_w, i32_w]
           rfl
          refine pure_ (i := 15) (N := some 80) (v := ?_) (a' := ?_) #[true, true, true, true, true, true, true, true, true, true, true, true, true, true, true, true, false] rfl rfl (any_of HT_.out (by kernel_rfl)) (fun _ _ _ h => h) (Or.inl ⟨by rfl, ?_⟩) ?_ ?_
          rotate_left
          ·intro w'
           go_simp
           with_reducible rfl
          rotate_left
          ·simp only [Act.put, HW.LA, HW.LZ, HW.LS, i64_w, i32_w]
           rfl
          refine last_ (i := 16) (N := none) #[true, true, true, true, true, true, true, true, true, true, true, true, true, true, true, true, true] rfl rfl (one_of HT_.out (by kernel_rfl)) (by decide) (fun K hK => ?_)
          refine skip_ (w1 := ?_) (by rfl) rfl ?_ ?_
          rotate_left
          ·go_simp
           rfl
          refine hK.out _ _ ?_
          clear hK K
          refine done_ (done_of HT_.out (by kernel_rfl)) ?_
          try go_wp2
          (try simp only [← hl10_2])
          go_roundg k2
          case measure => have := HJ6.out; have := HK2.out; omega
          case rel => exact ⟨(y276), (wrap64 (x12_2 + 1)), (by first | rfl | (simp; done) | (simp [*]; done)), H', ⟨by have := HJ6.out; have := HK2.out; omega⟩, ⟨by (try simp only [hl10_2]); (with_reducible repeat (first | apply Kd.R_alloc | apply Kd.R_drewN | apply Kd.R_drew)); exact Kd.R_mono (Kd.R_far (p := ⟨go38, ((ji36) : Int).toNat, none⟩) (Kd.R_mono HO_8.out (fun k_ hk => (⟨hk, fun e_ => hk.1 (by rw [e_]; rfl)⟩ : _ ∧ k_ ≠ go38))) (fun _ hk => hk.2) (.int .u8 (Go.bits .xor .u8 (rd x10_2 (ji36)) (HW.pick4 a2_1 a2_2 a2_3 a2_4 x12_2)))) (fun _ hk => ⟨hk.1.1, hk.1.2⟩)⟩, ⟨by (try simp only [hl10_2]); (with_reducible repeat (first | apply Kd.R_alloc | apply Kd.R_drewN | apply Kd.R_drew)); exact HQ40.out⟩, ⟨by (try simp only [hl10_2]); (with_reducible repeat (first | apply Kd.R_alloc | apply Kd.R_drewN | apply Kd.R_drew)); exact Kd.R_mono (Kd.R_far (p := ⟨go38, ((ji36) : Int).toNat, none⟩) (Kd.R_mono HO_259001.out (fun k_ hk => (⟨hk, fun e_ => hk.2 (by rw [e_]; rfl)⟩ : _ ∧ k_ ≠ go38))) (fun _ hk => hk.2) (.int .u8 (Go.bits .xor .u8 (rd x10_2 (ji36)) (HW.pick4 a2_1 a2_2 a2_3 a2_4 x12_2)))) (fun _ hk => ⟨hk.1.1, hk.1.2⟩)⟩, ⟨by (try simp only [hl10_2]); (with_reducible repeat (first | refine blk_drewN ?_ _ | refine blk_drew ?_ | refine blk_alloc ?_ _)); refine blk_far ?_ (by have h_ := Kd.R_ne HO_10.out BK258.out (by decide); intro e_; exact h_ (by rw [e_]; rfl)) _; (with_reducible repeat (first | refine blk_drewN ?_ _ | refine blk_drew ?_ | refine blk_alloc ?_ _)); exact BK258.out⟩, ⟨by (try simp only [hl10_2]); (with_reducible repeat (first | refine blk_drewN ?_ _ | refine blk_drew ?_ | refine blk_alloc ?_ _)); refine blk_far ?_ (by have h_ := Kd.R_ne HO_10.out BK259.out (by decide); intro e_; exact h_ (by rw [e_]; rfl)) _; (with_reducible repeat (first | refine blk_drewN ?_ _ | refine blk_drew ?_ | refine blk_alloc ?_ _)); exact BK259.out⟩, ⟨by repeat (first | (with_reducible first | exact HB.out | apply below_alloc | apply pw_below_drewN | apply below_drew1 | refine below_set ?_ GB38.out | refine below_set ?_ GE258.out | refine below_set ?_ GE259.out) | exact HB.out)⟩, ⟨HW.pick4_next HI0_.out hi4_⟩⟩
         ·rw [if_neg c35] at H
          have c35b0 : decide ((wrap64 ((Int.tmod (wrap64 (a2_0)) (y272.length : Int)) + x12_2)) < (x10_2.length : Int)) = false := decide_eq_false c35
          (try simp only [hl10_2] at c35b0)
          clear c35
          have H' := Aside0.mk H
          clear H
          go_wp2
          (try simp only [← hl10_2])
          go_meet
          case rel => exact ⟨_, (x10_2), H', ⟨by have := HJ6.out; have := HK2.out; first | omega | exact Nat.le_refl _⟩, ⟨by (try simp only [hl10_2]); (with_reducible repeat (first | apply Kd.R_alloc | apply Kd.R_drewN | apply Kd.R_drew)); exact HO_8.out⟩, ⟨by (try simp only [hl10_2]); (with_reducible repeat (first | apply Kd.R_alloc | apply Kd.R_drewN | apply Kd.R_drew)); exact HO_10.out⟩, ⟨by (try simp only [hl10_2]); (with_reducible repeat (first | apply Kd.R_alloc | apply Kd.R_drewN | apply Kd.R_drew)); exact HO_259001.out⟩, ⟨by (try simp only [hl10_2]); (with_reducible repeat (first | refine blk_drewN ?_ _ | refine blk_drew ?_ | refine blk_alloc ?_ _)); exact BK258.out⟩, ⟨by (try simp only [hl10_2]); (with_reducible repeat (first | refine blk_drewN ?_ _ | refine blk_drew ?_ | refine blk_alloc ?_ _)); exact BK259.out⟩, ⟨by repeat (first | (with_reducible first | exact HB.out | apply below_alloc | apply pw_below_drewN | apply below_drew1 | refine below_set ?_ GE258.out | refine below_set ?_ GE259.out) | exact HB.out)⟩⟩
        ·rw [if_neg c34] at H
         have c34b0 : decide (x12_2 < 4) = false := decide_eq_false c34
         clear c34
         (first | rw [c34b0] | (simp only [i64_w, i32_w]; rw [c34b0]) | skip)
         have H' := Aside0.mk H
         clear H
         go_wp2
         (try simp only [← hl10_2])
         go_meet
         case rel => exact ⟨_, (x10_2), H', ⟨by have := HJ6.out; have := HK2.out; first | omega | exact Nat.le_refl _⟩, ⟨by (try simp only [hl10_2]); (with_reducible repeat (first | apply Kd.R_alloc | apply Kd.R_drewN | apply Kd.R_drew)); exact HO_8.out⟩, ⟨by (try simp only [hl10_2]); (with_reducible repeat (first | apply Kd.R_alloc | apply Kd.R_drewN | apply Kd.R_drew)); exact HO_10.out⟩, ⟨by (try simp only [hl10_2]); (with_reducible repeat (first | apply Kd.R_alloc | apply Kd.R_drewN | apply Kd.R_drew)); exact HO_259001.out⟩, ⟨by (try simp only [hl10_2]); (with_reducible repeat (first | refine blk_drewN ?_ _ | refine blk_drew ?_ | refine blk_alloc ?_ _)); exact BK258.out⟩, ⟨by (try simp only [hl10_2]); (with_reducible repeat (first | refine blk_drewN ?_ _ | refine blk_drew ?_ | refine blk_alloc ?_ _)); exact BK259.out⟩, ⟨by repeat (first | (with_reducible first | exact HB.out | apply below_alloc | apply pw_below_drewN | apply below_drew1 | refine below_set ?_ GE258.out | refine below_set ?_ GE259.out) | exact HB.out)⟩⟩
     case rest => as_aux_lemma =>
      clear HC26
      try clear c1
      try clear c2
      try clear p2
      try clear q2
      try clear hx2
      try clear c3
      try clear p3
      try clear q3
      try clear hx3
      try clear hf3
      try clear c5
      try clear p6
      try clear c11
      try clear c12
      try clear c13
      try clear c17
      try clear c19
      try clear c20
      try clear c21
      try clear c21b0
      try clear c21b1
      try clear c22
      try clear c24
      try clear c25
      try clear c25b0
      try clear c25b1
      try clear c25b2
      try clear p27
      try clear q27
      try clear hx27
      try clear c31
      try clear c34
      try clear c34b0
      try clear c35
      try clear c35b0
      try clear c37
      try clear c37b0
      try clear p38
      try clear q38
      try clear hx38
      try clear hf38
      try clear hcz12_0
      try clear hcz12_1
      try clear hcz14_0
      try clear hcz14_1
      try clear hcz32_0
      try clear hcz32_1
      try clear hcz32_2
      try clear hcz32_3
      try clear hcz32_4
      try clear hfz12_0
      try clear hfz12_1
      try clear hfz14_0
      try clear hfz14_1
      try clear hfz32_0
      try clear hfz32_1
      try clear hfz32_2
      try clear hfz32_3
      try clear hfz32_4
      try clear hx275_0
      try clear hx38_0
      try clear p2
      try clear p275
      try clear p38
      try clear p6
      try clear q275
      try clear q38
      obtain ⟨kq, x10_25, HA, HJ25, HO_8, HO_10, HO_259001, BK258, BK259, HB⟩ := hcut
      have hl10_25 := (Kd.R_reads' HO_10.out).1
      rw [hl10_25] at HO_10
      (try simp only [hl10_25])
      (try simp only [hl10_25] at BK258)
      (try simp only [hl10_25] at BK259)
      (try simp only [hl10_25] at HO_8)
      (try simp only [hl10_25] at HO_259001)
      cases kq with
      | zero => exact absurd HA.out (by simp [phaetonlaw24_ImageBurst.j2])
      | succ kj25 =>
       have H := HA.out
       clear HA
       simp only [phaetonlaw24_ImageBurst.j2] at H
       replace H := Option.bind_eq_some_iff.mp H
       obtain ⟨⟨t277, t278, t281⟩, A410, H⟩ := H
       replace H : (if (strOfNums x10_25).toList = (strOfNums t265).toList then (if t281 = 0 then ((phaetonref24_Same.f t277 t278 t261 t262).bind fun t283 => (if t283 = true then (if t260 = true then (some true) else (none)) else (none))) else (none)) else (if t281 = 0 then (phaetonlaw24_ImageBurst.j3 kj25 t260 t265 x10_25 t281 true) else (phaetonlaw24_ImageBurst.j3 kj25 t260 t265 x10_25 t281 (decide ((t278.length : Int) > 0))))) = some r := H
       have A41 := Aside0.mk A410
       clear A410
       by_cases c42 : (strOfNums x10_25).toList = (strOfNums t265).toList
       ·rw [if_pos c42] at H
        have c42b0 : ((strOfNums x10_25).toList == (strOfNums t265).toList) = true := beq_iff_eq.mpr c42
        have c42b1 : ((strOfNums x10_25).toList != (strOfNums t265).toList) = false := bne_eq_false_iff_eq.mpr c42
        clear c42
        by_cases c43 : t281 = 0
        rotate_left
        ·rw [if_neg c43] at H
         exact absurd H (by simp)
        rw [if_pos c43] at H
        have c43b0 : (t281 == 0) = true := beq_iff_eq.mpr c43
        have c43b1 : (t281 != 0) = false := bne_eq_false_iff_eq.mpr c43
        clear c43
        replace H := Option.bind_eq_some_iff.mp H
        obtain ⟨t283, A440, H⟩ := H
        replace H : (if t283 = true then (if t260 = true then (some true) else (none)) else (none)) = some r := H
        have A44 := Aside0.mk A440
        clear A440
        by_cases c45 : t283 = true
        rotate_left
        ·replace c45 := Bool.eq_false_iff.mpr c45
         subst c45
         have H1 : (none) = some r := by rw [if_neg (show ¬ (false = true) by decide)] at H; exact H
         clear H
         have H := H1
         clear H1
         exact absurd H (by simp)
        subst c45
        have H1 : (if t260 = true then (some true) else (none)) = some r := by rw [if_pos rfl] at H; exact H
        clear H
        have H := H1
        clear H1
        by_cases c46 : t260 = true
        ·subst c46
         have H1 : (some true) = some r := by rw [if_pos rfl] at H; exact H
         clear H
         have H := H1
         clear H1
         obtain rfl := Option.some.inj H
         go_wp2_with (first | ((with_reducible refine gate_store (t := 24) (p := 13) rfl ?_); refine HW.store_box2 rfl rfl 24 _ _ rfl rfl rfl BK282.out rfl (by kernel_rfl) (by intro q hq; simp only [List.mem_cons, List.not_mem_nil, or_false] at hq; rcases hq with rfl | rfl <;> rfl) ?_; intro w1_ hw1_ hk1_; simp only [List.toList_toArray, World.setCells, Nat.zero_add, Nat.reduceAdd] at hw1_; subst hw1_; have hcb282_0 := (blk_cell hk1_ 0).trans rfl; have hfb282_0 := blk_frozen hk1_ 0; have hcb282_1 := (blk_cell hk1_ 1).trans rfl; have hfb282_1 := blk_frozen hk1_ 1; have hcvSHO_10 := fun (v0_ v1_ : Value) => own_string (P := Try.prog) Try.underlying22 Try.underlying5 Try.underlying9 (Kd.own_of_R (Kd.R_far (p := ⟨gb282, 1, none⟩) (Kd.R_far (p := ⟨gb282, 0, none⟩) (Kd.R_types HO_10.out BK282.out (by decide)) (fun _ hk => hk.2) v0_) (fun _ hk => hk.2) v1_)); have hcvSHO_8 := fun (v0_ v1_ : Value) => own_string (P := Try.prog) Try.underlying22 Try.underlying5 Try.underlying9 (Kd.own_of_R (Kd.R_far (p := ⟨gb282, 1, none⟩) (Kd.R_far (p := ⟨gb282, 0, none⟩) (Kd.R_types HO_8.out BK282.out (by decide)) (fun _ hk => hk.2) v0_) (fun _ hk => hk.2) v1_)); clear hk1_) | ((with_reducible refine gate_store (t := 43) (p := 5) rfl ?_); refine HW.store_box5 rfl rfl 43 _ _ rfl rfl rfl BK259.out rfl (by kernel_rfl) rfl rfl rfl rfl rfl ?_; intro w1_ hw1_ hk1_; subst hw1_; have hcb259_0 := (blk_cell hk1_ 0).trans rfl; have hfb259_0 := blk_frozen hk1_ 0; have hcb259_1 := (blk_cell hk1_ 1).trans rfl; have hfb259_1 := blk_frozen hk1_ 1; have hcb259_2 := (blk_cell hk1_ 2).trans rfl; have hfb259_2 := blk_frozen hk1_ 2; have hcb259_3 := (blk_cell hk1_ 3).trans rfl; have hfb259_3 := blk_frozen hk1_ 3; have hcb259_4 := (blk_cell hk1_ 4).trans rfl; have hfb259_4 := blk_frozen hk1_ 4; clear hk1_) | ((with_reducible refine gate_store (t := 24) (p := 3) rfl ?_); refine HW.store_box2 rfl rfl 24 _ _ rfl rfl rfl BK258.out rfl (by kernel_rfl) (by intro q hq; simp only [List.mem_cons, List.not_mem_nil, or_false] at hq; rcases hq with rfl | rfl <;> rfl) ?_; intro w1_ hw1_ hk1_; simp only [List.toList_toArray, World.setCells, Nat.zero_add, Nat.reduceAdd] at hw1_; subst hw1_; have hcb258_0 := (blk_cell hk1_ 0).trans rfl; have hfb258_0 := blk_frozen hk1_ 0; have hcb258_1 := (blk_cell hk1_ 1).trans rfl; have hfb258_1 := blk_frozen hk1_ 1; clear hk1_) | ((with_reducible refine gate_callee (f := 15) rfl ?_); refine goesL_ (some 84) rfl rfl Try.func15 (by kernel_rfl) rfl #[.slice Ao33 x10_25.length co33, .int .i64 a1] rfl (by (try simp only [List.map_toArray, List.map_cons, List.map_nil]); first | done | rfl | (simp only [List.length_drop, List.length_take]; rfl)) ?_; (with_reducible refine (image_Read.calls kj25 _ _ x10_25 a1 t277 t278 t281 _ ?side1 ?side2 A41.out).mono ?_); (case side1 => repeat (first | exact (Kd.R_reads' HO_10.out).2.2 | (with_reducible refine Kd.C_alloc ?_ _) | (with_reducible refine Kd.C_drewN ?_ _) | (with_reducible refine Kd.C_drew ?_))); (case side2 => exact (Kd.R_reads' HO_10.out).2.1); rintro e w47 ⟨v279, rfl, ho0, hb⟩; refine ⟨_, rfl, ?_⟩; have n0_ := Aside0.mk (Kd.R_elder' (by (with_reducible repeat (first | apply Kd.R_alloc | apply Kd.R_drewN | apply Kd.R_drew)); exact HO_8.out) (Kd.R_base ho0) hb); have n1_ := Aside0.mk (Kd.R_elder' (by (with_reducible repeat (first | apply Kd.R_alloc | apply Kd.R_drewN | apply Kd.R_drew)); exact HO_10.out) (Kd.R_base ho0) hb); have n2_ := Aside0.mk (Kd.R_elder' (by (with_reducible repeat (first | apply Kd.R_alloc | apply Kd.R_drewN | apply Kd.R_drew)); exact HO_259001.out) (Kd.R_base ho0) hb); have n3_ := Aside0.mk (Kd.R_lower (Kd.R_new' (Kd.R_new' (Kd.R_new' ho0 (Kd.R_lt (by (with_reducible repeat (first | apply Kd.R_alloc | apply Kd.R_drewN | apply Kd.R_drew)); exact HO_8.out))) (Kd.R_lt (by (with_reducible repeat (first | apply Kd.R_alloc | apply Kd.R_drewN | apply Kd.R_drew)); exact HO_10.out))) (Kd.R_lt (by (with_reducible repeat (first | apply Kd.R_alloc | apply Kd.R_drewN | apply Kd.R_drew)); exact HO_259001.out))) (below_size (by repeat (first | (with_reducible first | exact HB.out | apply below_alloc | apply pw_below_drewN | apply below_drew1 | refine below_set ?_ GE258.out | refine below_set ?_ GE259.out) | exact HB.out)))); have n4_ := Aside0.mk (blk_below (g := gb258) (o := .cells #[.int .i64 t261, .slice Ao15 t262.length co15] 24 (0, 0)) (by (with_reducible repeat (first | refine blk_drewN ?_ _ | refine blk_drew ?_ | refine blk_alloc ?_ _)); exact BK258.out) hb); have n5_ := Aside0.mk (blk_below (g := gb259) (o := .cells #[.int .u16 a2_0, .int .u8 a2_1, .int .u8 a2_2, .int .u8 a2_3, .int .u8 a2_4] 43 (0, 0)) (by (with_reducible repeat (first | refine blk_drewN ?_ _ | refine blk_drew ?_ | refine blk_alloc ?_ _)); exact BK259.out) hb); have n6_ := Aside0.mk (below_step (by repeat (first | (with_reducible first | exact HB.out | apply below_alloc | apply pw_below_drewN | apply below_drew1 | refine below_set ?_ GE258.out | refine below_set ?_ GE259.out) | exact HB.out)) hb); clear HO_8; clear HO_10; clear HO_259001; clear BK258; clear BK259; clear HB; have HO_8 := n0_; have HO_10 := n1_; have HO_259001 := n2_; have HO280 := n3_; have BK258 := n4_; have BK259 := n5_; have HB := n6_; clear n0_ n1_ n2_ n3_ n4_ n5_ n6_; (try clear hb); (try clear hb2); (try clear hk); (try clear hi); (try clear ho0)) | ((with_reducible refine gate_dst (N := 13) rfl ?_); (try (refine gate_guard (by rfl) ?_; dsimp only)); refine box_event ?hg (N := 13) ?hd (cs := #[.int .i64 0, .slice none 0 0]) (t := 24) ?hr ?_; (case hd => rfl); (case hg => rfl); (case hr => first | (go_simp; done) | (go_simp; rfl)); intro gb282 hg w48 hbox hb; have n0_ := Aside0.mk (Kd.R_below (by (with_reducible repeat (first | apply Kd.R_alloc | apply Kd.R_drewN | apply Kd.R_drew)); exact HO_8.out) hb); have n1_ := Aside0.mk (Kd.R_below (by (with_reducible repeat (first | apply Kd.R_alloc | apply Kd.R_drewN | apply Kd.R_drew)); exact HO_10.out) hb); have n2_ := Aside0.mk (Kd.R_below (by (with_reducible repeat (first | apply Kd.R_alloc | apply Kd.R_drewN | apply Kd.R_drew)); exact HO_259001.out) hb); have n3_ := Aside0.mk (Kd.R_below (by (with_reducible repeat (first | apply Kd.R_alloc | apply Kd.R_drewN | apply Kd.R_drew)); exact HO280.out) hb); have n4_ := Aside0.mk (blk_below (g := gb258) (o := .cells #[.int .i64 t261, .slice Ao15 t262.length co15] 24 (0, 0)) (by (with_reducible repeat (first | refine blk_drewN ?_ _ | refine blk_drew ?_ | refine blk_alloc ?_ _)); exact BK258.out) hb); have n5_ := Aside0.mk (blk_below (g := gb259) (o := .cells #[.int .u16 a2_0, .int .u8 a2_1, .int .u8 a2_2, .int .u8 a2_3, .int .u8 a2_4] 43 (0, 0)) (by (with_reducible repeat (first | refine blk_drewN ?_ _ | refine blk_drew ?_ | refine blk_alloc ?_ _)); exact BK259.out) hb); have n6_ := Aside0.mk (below_step (by repeat (first | (with_reducible first | exact HB.out | apply below_alloc | apply pw_below_drewN | apply below_drew1 | refine below_set ?_ GE258.out | refine below_set ?_ GE259.out) | exact HB.out)) hb); have n7_ := Aside0.mk (hbox); have n8_ := Aside0.mk ((by rw [hg]; exact (below_size (by repeat (first | (with_reducible first | exact HB.out | apply below_alloc | apply pw_below_drewN | apply below_drew1 | refine below_set ?_ GE258.out | refine below_set ?_ GE259.out) | exact HB.out))) : w.heap.size ≤ gb282)); have n9_ := Aside0.mk ((by rw [hg]; exact (below_size (by repeat (first | (with_reducible first | exact HB.out | apply below_alloc | apply pw_below_drewN | apply below_drew1 | refine below_set ?_ GE258.out | refine below_set ?_ GE259.out) | exact HB.out))) : w.heap.size ≤ gb282)); have n10_ := Aside0.mk ((by rw [hg]; exact Nat.ne_of_lt (blk_lt (g := gb258) (o := .cells #[.int .i64 t261, .slice Ao15 t262.length co15] 24 (0, 0)) (by (with_reducible repeat (first | refine blk_drewN ?_ _ | refine blk_drew ?_ | refine blk_alloc ?_ _)); exact BK258.out)) : gb258 ≠ gb282)); have n11_ := Aside0.mk ((by rw [hg]; exact Nat.ne_of_gt (blk_lt (g := gb258) (o := .cells #[.int .i64 t261, .slice Ao15 t262.length co15] 24 (0, 0)) (by (with_reducible repeat (first | refine blk_drewN ?_ _ | refine blk_drew ?_ | refine blk_alloc ?_ _)); exact BK258.out)) : gb282 ≠ gb258)); have n12_ := Aside0.mk ((by rw [hg]; exact Nat.ne_of_lt (blk_lt (g := gb259) (o := .cells #[.int .u16 a2_0, .int .u8 a2_1, .int .u8 a2_2, .int .u8 a2_3, .int .u8 a2_4] 43 (0, 0)) (by (with_reducible repeat (first | refine blk_drewN ?_ _ | refine blk_drew ?_ | refine blk_alloc ?_ _)); exact BK259.out)) : gb259 ≠ gb282)); have n13_ := Aside0.mk ((by rw [hg]; exact Nat.ne_of_gt (blk_lt (g := gb259) (o := .cells #[.int .u16 a2_0, .int .u8 a2_1, .int .u8 a2_2, .int .u8 a2_3, .int .u8 a2_4] 43 (0, 0)) (by (with_reducible repeat (first | refine blk_drewN ?_ _ | refine blk_drew ?_ | refine blk_alloc ?_ _)); exact BK259.out)) : gb282 ≠ gb259)); clear HO_8; clear HO_10; clear HO_259001; clear HO280; clear BK258; clear BK259; clear HB; have HO_8 := n0_; have HO_10 := n1_; have HO_259001 := n2_; have HO280 := n3_; have BK258 := n4_; have BK259 := n5_; have HB := n6_; have BK282 := n7_; have GW282 := n8_; have GE282 := n9_; have NB258_282 := n10_; have NB282_258 := n11_; have NB259_282 := n12_; have NB282_259 := n13_; clear n0_ n1_ n2_ n3_ n4_ n5_ n6_ n7_ n8_ n9_ n10_ n11_ n12_ n13_; clear hb hbox hg; have hnb49 := NB282_258.out; have hnc49 := NB258_282.out; have hnb50 := NB282_259.out; have hnc50 := NB259_282.out; have hcz51_0 : w48.cell? ⟨gb282, 0, none⟩ = some (.int .i64 0) := (blk_cell BK282.out 0).trans rfl; have hcz51_1 : w48.cell? ⟨gb282, 1, none⟩ = some (.slice none 0 0) := (blk_cell BK282.out 1).trans rfl; have hfz51_0 := blk_frozen BK282.out 0; have hfz51_1 := blk_frozen BK282.out 1; obtain ⟨Ao52, co52, eo52⟩ := Kd.R_slice HO280.out; subst eo52; have hcv53 := own_string (P := Try.prog) Try.underlying22 Try.underlying5 Try.underlying9 (Kd.own_of_R HO_10.out); have hcv54 := own_string (P := Try.prog) Try.underlying22 Try.underlying5 Try.underlying9 (Kd.own_of_R HO_8.out); have hnb55 := NB258_259.out; have hnc55 := NB259_258.out; have hcz56_0 : w48.cell? ⟨gb258, 0, none⟩ = some (.int .i64 t261) := (blk_cell BK258.out 0).trans rfl; have hcz56_1 : w48.cell? ⟨gb258, 1, none⟩ = some (.slice Ao15 t262.length co15) := (blk_cell BK258.out 1).trans rfl; have hfz56_0 := blk_frozen BK258.out 0; have hfz56_1 := blk_frozen BK258.out 1) | (go_at_call 19; (with_reducible refine (phaetonref24_Same.calls t277 _ _ t278 t261 _ _ t262 true _ ?side1 ?side2 ?side3 ?side4 A44.out).mono ?_); (case side1 => refine (Kd.R_reads' (e := 5) (base := w.heap.size) (ok := fun k_ => (((True ∧ some k_ ≠ (.slice Ao30 t265.length co30 : Value).ownBlock) ∧ some k_ ≠ (.slice Ao33 x10_25.length co33 : Value).ownBlock) ∧ some k_ ≠ (.slice Ao15 t262.length co15 : Value).ownBlock)) (n := t278.length) (c := co52) ?_).2.2; exact (by (with_reducible repeat (first | apply Kd.R_alloc | apply Kd.R_drewN | apply Kd.R_drew)); exact (Kd.R_mono (Kd.R_far (p := ⟨gb282, 1, none⟩) (Kd.R_far (p := ⟨gb282, 0, none⟩) (Kd.R_types HO280.out BK282.out (by decide)) (fun _ hk => hk.2) (.int .i64 t277)) (fun _ hk => hk.2) (.slice Ao52 t278.length co52)) (fun _ h_ => h_.1)))); (case side2 => exact (Kd.R_reads' HO280.out).2.1); (case side3 => refine (Kd.R_reads' (e := 5) (base := w.heap.size) (ok := fun k_ => ((some k_ ≠ (.slice Ao30 t265.length co30 : Value).ownBlock ∧ some k_ ≠ (.slice Ao33 x10_25.length co33 : Value).ownBlock) ∧ some k_ ≠ (.slice Ao52 t278.length co52 : Value).ownBlock)) (n := t262.length) (c := co15) ?_).2.2; exact (by (with_reducible repeat (first | apply Kd.R_alloc | apply Kd.R_drewN | apply Kd.R_drew)); exact (Kd.R_mono (Kd.R_far (p := ⟨gb282, 1, none⟩) (Kd.R_far (p := ⟨gb282, 0, none⟩) (Kd.R_types HO_259001.out BK282.out (by decide)) (fun _ hk => hk.2) (.int .i64 t277)) (fun _ hk => hk.2) (.slice Ao52 t278.length co52)) (fun _ h_ => h_.1)))); (case side4 => exact (Kd.R_reads' HO_259001.out).2.1); rintro e w57 ⟨rfl, hb⟩; have n0_ := Aside0.mk (Kd.R_below (by (with_reducible repeat (first | apply Kd.R_alloc | apply Kd.R_drewN | apply Kd.R_drew)); exact (Kd.R_mono (Kd.R_far (p := ⟨gb282, 1, none⟩) (Kd.R_far (p := ⟨gb282, 0, none⟩) (Kd.R_types HO_8.out BK282.out (by decide)) (fun _ hk => hk.2) (.int .i64 t277)) (fun _ hk => hk.2) (.slice Ao52 t278.length co52)) (fun _ h_ => h_.1))) hb); have n1_ := Aside0.mk (Kd.R_below (by (with_reducible repeat (first | apply Kd.R_alloc | apply Kd.R_drewN | apply Kd.R_drew)); exact (Kd.R_mono (Kd.R_far (p := ⟨gb282, 1, none⟩) (Kd.R_far (p := ⟨gb282, 0, none⟩) (Kd.R_types HO_10.out BK282.out (by decide)) (fun _ hk => hk.2) (.int .i64 t277)) (fun _ hk => hk.2) (.slice Ao52 t278.length co52)) (fun _ h_ => h_.1))) hb); have n2_ := Aside0.mk (Kd.R_below (by (with_reducible repeat (first | apply Kd.R_alloc | apply Kd.R_drewN | apply Kd.R_drew)); exact (Kd.R_mono (Kd.R_far (p := ⟨gb282, 1, none⟩) (Kd.R_far (p := ⟨gb282, 0, none⟩) (Kd.R_types HO_259001.out BK282.out (by decide)) (fun _ hk => hk.2) (.int .i64 t277)) (fun _ hk => hk.2) (.slice Ao52 t278.length co52)) (fun _ h_ => h_.1))) hb); have n3_ := Aside0.mk (Kd.R_below (by (with_reducible repeat (first | apply Kd.R_alloc | apply Kd.R_drewN | apply Kd.R_drew)); exact (Kd.R_mono (Kd.R_far (p := ⟨gb282, 1, none⟩) (Kd.R_far (p := ⟨gb282, 0, none⟩) (Kd.R_types HO280.out BK282.out (by decide)) (fun _ hk => hk.2) (.int .i64 t277)) (fun _ hk => hk.2) (.slice Ao52 t278.length co52)) (fun _ h_ => h_.1))) hb); have n4_ := Aside0.mk (blk_below (g := gb258) (o := .cells #[.int .i64 t261, .slice Ao15 t262.length co15] 24 (0, 0)) (by (with_reducible repeat (first | refine blk_drewN ?_ _ | refine blk_drew ?_ | refine blk_alloc ?_ _)); refine blk_far ?_ NB258_282.out _; (with_reducible repeat (first | refine blk_drewN ?_ _ | refine blk_drew ?_ | refine blk_alloc ?_ _)); refine blk_far ?_ NB258_282.out _; (with_reducible repeat (first | refine blk_drewN ?_ _ | refine blk_drew ?_ | refine blk_alloc ?_ _)); exact BK258.out) hb); have n5_ := Aside0.mk (blk_below (g := gb259) (o := .cells #[.int .u16 a2_0, .int .u8 a2_1, .int .u8 a2_2, .int .u8 a2_3, .int .u8 a2_4] 43 (0, 0)) (by (with_reducible repeat (first | refine blk_drewN ?_ _ | refine blk_drew ?_ | refine blk_alloc ?_ _)); refine blk_far ?_ NB259_282.out _; (with_reducible repeat (first | refine blk_drewN ?_ _ | refine blk_drew ?_ | refine blk_alloc ?_ _)); refine blk_far ?_ NB259_282.out _; (with_reducible repeat (first | refine blk_drewN ?_ _ | refine blk_drew ?_ | refine blk_alloc ?_ _)); exact BK259.out) hb); have n6_ := Aside0.mk (blk_below (g := gb282) (o := .cells #[.int .i64 t277, .slice Ao52 t278.length co52] 24 (0, 0)) (by (with_reducible repeat (first | refine blk_drewN ?_ _ | refine blk_drew ?_ | refine blk_alloc ?_ _)); refine blk_put (cs := #[.int .i64 t277, .slice none 0 0]) ?_ 1 _ rfl; (with_reducible repeat (first | refine blk_drewN ?_ _ | refine blk_drew ?_ | refine blk_alloc ?_ _)); refine blk_put (cs := #[.int .i64 0, .slice none 0 0]) ?_ 0 _ rfl; (with_reducible repeat (first | refine blk_drewN ?_ _ | refine blk_drew ?_ | refine blk_alloc ?_ _)); exact BK282.out) hb); have n7_ := Aside0.mk (below_step (by repeat (first | (with_reducible first | exact HB.out | apply below_alloc | apply pw_below_drewN | apply below_drew1 | refine below_set ?_ GE258.out | refine below_set ?_ GE259.out | refine below_set ?_ GE282.out) | exact HB.out)) hb); clear HO_8; clear HO_10; clear HO_259001; clear HO280; clear BK258; clear BK259; clear BK282; clear HB; have HO_8 := n0_; have HO_10 := n1_; have HO_259001 := n2_; have HO280 := n3_; have BK258 := n4_; have BK259 := n5_; have BK282 := n6_; have HB := n7_; clear n0_ n1_ n2_ n3_ n4_ n5_ n6_ n7_; (try clear hb); (try clear hb2); (try clear hk); (try clear hi)))
         go_ret
         exact ⟨by first | rfl | (simp [errW_none, errW_some] <;> rfl) | (simp [*, errW_none, errW_some] <;> rfl), by repeat (first | (with_reducible first | exact HB.out | apply below_alloc | apply pw_below_drewN | apply below_drew1 | refine below_set ?_ GE258.out | refine below_set ?_ GE259.out | refine below_set ?_ GE282.out) | exact HB.out)⟩
        ·replace c46 := Bool.eq_false_iff.mpr c46
         subst c46
         have H1 : (none) = some r := by rw [if_neg (show ¬ (false = true) by decide)] at H; exact H
         clear H
         have H := H1
         clear H1
         exact absurd H (by simp)
       ·rw [if_neg c42] at H
        have c42b0 : ((strOfNums x10_25).toList == (strOfNums t265).toList) = false := beq_eq_false_iff_ne.mpr c42
        have c42b1 : ((strOfNums x10_25).toList != (strOfNums t265).toList) = true := bne_iff_ne.mpr c42
        have HC58 := Aside0.mk H
        clear H
        go_upto_region 15 with (first | ((with_reducible refine gate_callee (f := 15) rfl ?_); refine goesL_ (some 84) rfl rfl Try.func15 (by kernel_rfl) rfl #[.slice Ao33 x10_25.length co33, .int .i64 a1] rfl (by (try simp only [List.map_toArray, List.map_cons, List.map_nil]); first | done | rfl | (simp only [List.length_drop, List.length_take]; rfl)) ?_; (with_reducible refine (image_Read.calls kj25 _ _ x10_25 a1 t277 t278 t281 _ ?side1 ?side2 A41.out).mono ?_); (case side1 => repeat (first | exact (Kd.R_reads' HO_10.out).2.2 | (with_reducible refine Kd.C_alloc ?_ _) | (with_reducible refine Kd.C_drewN ?_ _) | (with_reducible refine Kd.C_drew ?_))); (case side2 => exact (Kd.R_reads' HO_10.out).2.1); rintro e w59 ⟨v279, rfl, ho0, hb⟩; refine ⟨_, rfl, ?_⟩; have n0_ := Aside0.mk (Kd.R_elder' (by (with_reducible repeat (first | apply Kd.R_alloc | apply Kd.R_drewN | apply Kd.R_drew)); exact HO_8.out) (Kd.R_base ho0) hb); have n1_ := Aside0.mk (Kd.R_elder' (by (with_reducible repeat (first | apply Kd.R_alloc | apply Kd.R_drewN | apply Kd.R_drew)); exact HO_10.out) (Kd.R_base ho0) hb); have n2_ := Aside0.mk (Kd.R_elder' (by (with_reducible repeat (first | apply Kd.R_alloc | apply Kd.R_drewN | apply Kd.R_drew)); exact HO_259001.out) (Kd.R_base ho0) hb); have n3_ := Aside0.mk (Kd.R_lower (Kd.R_new' (Kd.R_new' (Kd.R_new' ho0 (Kd.R_lt (by (with_reducible repeat (first | apply Kd.R_alloc | apply Kd.R_drewN | apply Kd.R_drew)); exact HO_8.out))) (Kd.R_lt (by (with_reducible repeat (first | apply Kd.R_alloc | apply Kd.R_drewN | apply Kd.R_drew)); exact HO_10.out))) (Kd.R_lt (by (with_reducible repeat (first | apply Kd.R_alloc | apply Kd.R_drewN | apply Kd.R_drew)); exact HO_259001.out))) (below_size (by repeat (first | (with_reducible first | exact HB.out | apply below_alloc | apply pw_below_drewN | apply below_drew1 | refine below_set ?_ GE258.out | refine below_set ?_ GE259.out) | exact HB.out)))); have n4_ := Aside0.mk (blk_below (g := gb258) (o := .cells #[.int .i64 t261, .slice Ao15 t262.length co15] 24 (0, 0)) (by (with_reducible repeat (first | refine blk_drewN ?_ _ | refine blk_drew ?_ | refine blk_alloc ?_ _)); exact BK258.out) hb); have n5_ := Aside0.mk (blk_below (g := gb259) (o := .cells #[.int .u16 a2_0, .int .u8 a2_1, .int .u8 a2_2, .int .u8 a2_3, .int .u8 a2_4] 43 (0, 0)) (by (with_reducible repeat (first | refine blk_drewN ?_ _ | refine blk_drew ?_ | refine blk_alloc ?_ _)); exact BK259.out) hb); have n6_ := Aside0.mk (below_step (by repeat (first | (with_reducible first | exact HB.out | apply below_alloc | apply pw_below_drewN | apply below_drew1 | refine below_set ?_ GE258.out | refine below_set ?_ GE259.out) | exact HB.out)) hb); clear HO_8; clear HO_10; clear HO_259001; clear BK258; clear BK259; clear HB; have HO_8 := n0_; have HO_10 := n1_; have HO_259001 := n2_; have HO280 := n3_; have BK258 := n4_; have BK259 := n5_; have HB := n6_; clear n0_ n1_ n2_ n3_ n4_ n5_ n6_; (try clear hb); (try clear hb2); (try clear hk); (try clear hi); (try clear ho0)) | ((with_reducible refine gate_dst (N := 13) rfl ?_); (try (refine gate_guard (by rfl) ?_; dsimp only)); refine box_event ?hg (N := 13) ?hd (cs := #[.int .i64 0, .slice none 0 0]) (t := 24) ?hr ?_; (case hd => rfl); (case hg => rfl); (case hr => first | (go_simp; done) | (go_simp; rfl)); intro gb282 hg w60 hbox hb; have n0_ := Aside0.mk (Kd.R_below (by (with_reducible repeat (first | apply Kd.R_alloc | apply Kd.R_drewN | apply Kd.R_drew)); exact HO_8.out) hb); have n1_ := Aside0.mk (Kd.R_below (by (with_reducible repeat (first | apply Kd.R_alloc | apply Kd.R_drewN | apply Kd.R_drew)); exact HO_10.out) hb); have n2_ := Aside0.mk (Kd.R_below (by (with_reducible repeat (first | apply Kd.R_alloc | apply Kd.R_drewN | apply Kd.R_drew)); exact HO_259001.out) hb); have n3_ := Aside0.mk (Kd.R_below (by (with_reducible repeat (first | apply Kd.R_alloc | apply Kd.R_drewN | apply Kd.R_drew)); exact HO280.out) hb); have n4_ := Aside0.mk (blk_below (g := gb258) (o := .cells #[.int .i64 t261, .slice Ao15 t262.length co15] 24 (0, 0)) (by (with_reducible repeat (first | refine blk_drewN ?_ _ | refine blk_drew ?_ | refine blk_alloc ?_ _)); exact BK258.out) hb); have n5_ := Aside0.mk (blk_below (g := gb259) (o := .cells #[.int .u16 a2_0, .int .u8 a2_1, .int .u8 a2_2, .int .u8 a2_3, .int .u8 a2_4] 43 (0, 0)) (by (with_reducible repeat (first | refine blk_drewN ?_ _ | refine blk_drew ?_ | refine blk_alloc ?_ _)); exact BK259.out) hb); have n6_ := Aside0.mk (below_step (by repeat (first | (with_reducible first | exact HB.out | apply below_alloc | apply pw_below_drewN | apply below_drew1 | refine below_set ?_ GE258.out | refine below_set ?_ GE259.out) | exact HB.out)) hb); have n7_ := Aside0.mk (hbox); have n8_ := Aside0.mk ((by rw [hg]; exact (below_size (by repeat (first | (with_reducible first | exact HB.out | apply below_alloc | apply pw_below_drewN | apply below_drew1 | refine below_set ?_ GE258.out | refine below_set ?_ GE259.out) | exact HB.out))) : w.heap.size ≤ gb282)); have n9_ := Aside0.mk ((by rw [hg]; exact (below_size (by repeat (first | (with_reducible first | exact HB.out | apply below_alloc | apply pw_below_drewN | apply below_drew1 | refine below_set ?_ GE258.out | refine below_set ?_ GE259.out) | exact HB.out))) : w.heap.size ≤ gb282)); have n10_ := Aside0.mk ((by rw [hg]; exact Nat.ne_of_lt (blk_lt (g := gb258) (o := .cells #[.int .i64 t261, .slice Ao15 t262.length co15] 24 (0, 0)) (by (with_reducible repeat (first | refine blk_drewN ?_ _ | refine blk_drew ?_ | refine blk_alloc ?_ _)); exact BK258.out)) : gb258 ≠ gb282)); have n11_ := Aside0.mk ((by rw [hg]; exact Nat.ne_of_gt (blk_lt (g := gb258) (o := .cells #[.int .i64 t261, .slice Ao15 t262.length co15] 24 (0, 0)) (by (with_reducible repeat (first | refine blk_drewN ?_ _ | refine blk_drew ?_ | refine blk_alloc ?_ _)); exact BK258.out)) : gb282 ≠ gb258)); have n12_ := Aside0.mk ((by rw [hg]; exact Nat.ne_of_lt (blk_lt (g := gb259) (o := .cells #[.int .u16 a2_0, .int .u8 a2_1, .int .u8 a2_2, .int .u8 a2_3, .int .u8 a2_4] 43 (0, 0)) (by (with_reducible repeat (first | refine blk_drewN ?_ _ | refine blk_drew ?_ | refine blk_alloc ?_ _)); exact BK259.out)) : gb259 ≠ gb282)); have n13_ := Aside0.mk ((by rw [hg]; exact Nat.ne_of_gt (blk_lt (g := gb259) (o := .cells #[.int .u16 a2_0, .int .u8 a2_1, .int .u8 a2_2, .int .u8 a2_3, .int .u8 a2_4] 43 (0, 0)) (by (with_reducible repeat (first | refine blk_drewN ?_ _ | refine blk_drew ?_ | refine blk_alloc ?_ _)); exact BK259.out)) : gb282 ≠ gb259)); clear HO_8; clear HO_10; clear HO_259001; clear HO280; clear BK258; clear BK259; clear HB; have HO_8 := n0_; have HO_10 := n1_; have HO_259001 := n2_; have HO280 := n3_; have BK258 := n4_; have BK259 := n5_; have HB := n6_; have BK282 := n7_; have GW282 := n8_; have GE282 := n9_; have NB258_282 := n10_; have NB282_258 := n11_; have NB259_282 := n12_; have NB282_259 := n13_; clear n0_ n1_ n2_ n3_ n4_ n5_ n6_ n7_ n8_ n9_ n10_ n11_ n12_ n13_; have hcvSHO_10 := fun (v0_ v1_ : Value) => own_string (P := Try.prog) Try.underlying22 Try.underlying5 Try.underlying9 (Kd.own_of_R (Kd.R_far (p := ⟨gb282, 1, none⟩) (Kd.R_far (p := ⟨gb282, 0, none⟩) (Kd.R_types HO_10.out BK282.out (by decide)) (fun _ hk => hk.2) v0_) (fun _ hk => hk.2) v1_)); have hcvSHO_8 := fun (v0_ v1_ : Value) => own_string (P := Try.prog) Try.underlying22 Try.underlying5 Try.underlying9 (Kd.own_of_R (Kd.R_far (p := ⟨gb282, 1, none⟩) (Kd.R_far (p := ⟨gb282, 0, none⟩) (Kd.R_types HO_8.out BK282.out (by decide)) (fun _ hk => hk.2) v0_) (fun _ hk => hk.2) v1_)); clear hb hbox hg; have hnb61 := NB282_258.out; have hnc61 := NB258_282.out; have hnb62 := NB282_259.out; have hnc62 := NB259_282.out; have hcz63_0 : w60.cell? ⟨gb282, 0, none⟩ = some (.int .i64 0) := (blk_cell BK282.out 0).trans rfl; have hcz63_1 : w60.cell? ⟨gb282, 1, none⟩ = some (.slice none 0 0) := (blk_cell BK282.out 1).trans rfl; have hfz63_0 := blk_frozen BK282.out 0; have hfz63_1 := blk_frozen BK282.out 1; obtain ⟨Ao64, co64, eo64⟩ := Kd.R_slice HO280.out; subst eo64; have hcv65 := own_string (P := Try.prog) Try.underlying22 Try.underlying5 Try.underlying9 (Kd.own_of_R HO_10.out); have hcv66 := own_string (P := Try.prog) Try.underlying22 Try.underlying5 Try.underlying9 (Kd.own_of_R HO_8.out)))
        (try simp only [Act.put, List.setIfInBounds_toArray, List.set_cons_zero, List.set_cons_succ])
        go_cut [109] (fun v109 wc => ∃ (kq : Nat) (x109_57 : Bool), v109 = .bool x109_57 ∧ Aside0 (phaetonlaw24_ImageBurst.j3 kq t260 t265 x10_25 t281 x109_57 = some r) ∧ Aside0 (kq ≤ kj25) ∧ Aside0 (Kd.R (Kd.int .u8) 5 wc w.heap.size (fun k_ => some k_ ≠ ((.slice Ao33 x10_25.length co33) : Value).ownBlock ∧ some k_ ≠ ((.slice Ao15 t262.length co15) : Value).ownBlock ∧ some k_ ≠ ((.slice Ao64 t278.length co64) : Value).ownBlock) (.slice Ao30 t265.length co30) t265) ∧ Aside0 (Kd.R (Kd.int .u8) 5 wc w.heap.size (fun k_ => some k_ ≠ ((.slice Ao30 t265.length co30) : Value).ownBlock ∧ some k_ ≠ ((.slice Ao15 t262.length co15) : Value).ownBlock ∧ some k_ ≠ ((.slice Ao64 t278.length co64) : Value).ownBlock) (.slice Ao33 x10_25.length co33) x10_25) ∧ Aside0 (Kd.R (Kd.int .u8) 5 wc w.heap.size (fun k_ => some k_ ≠ ((.slice Ao30 t265.length co30) : Value).ownBlock ∧ some k_ ≠ ((.slice Ao33 x10_25.length co33) : Value).ownBlock ∧ some k_ ≠ ((.slice Ao64 t278.length co64) : Value).ownBlock) (.slice Ao15 t262.length co15) t262) ∧ Aside0 (Kd.R (Kd.int .u8) 5 wc w.heap.size (fun k_ => some k_ ≠ ((.slice Ao30 t265.length co30) : Value).ownBlock ∧ some k_ ≠ ((.slice Ao33 x10_25.length co33) : Value).ownBlock ∧ some k_ ≠ ((.slice Ao15 t262.length co15) : Value).ownBlock) (.slice Ao64 t278.length co64) t278) ∧ Aside0 (wc.heap[gb258]? = some (.cells #[.int .i64 t261, (.slice Ao15 t262.length co15)] 24 (0, 0))) ∧ Aside0 (wc.heap[gb259]? = some (.cells #[.int .u16 a2_0, .int .u8 a2_1, .int .u8 a2_2, .int .u8 a2_3, .int .u8 a2_4] 43 (0, 0))) ∧ Aside0 (wc.heap[gb282]? = some (.cells #[.int .i64 t277, (.slice Ao64 t278.length co64)] 24 (0, 0))) ∧ Aside0 (Below w.heap.size w wc))
        case first => as_aux_lemma =>
         have H := HC58.out
         clear HC58
         by_cases c67 : t281 = 0
         ·rw [if_pos c67] at H
          have c67b0 : (t281 == 0) = true := beq_iff_eq.mpr c67
          have c67b1 : (t281 != 0) = false := bne_eq_false_iff_eq.mpr c67
          clear c67
          (first | rw [c67b0] | (simp only [i64_w, i32_w]; rw [c67b0]) | skip)
          have H' := Aside0.mk H
          clear H
          go_wp2
          go_meet
          case rel => exact ⟨_, (true), (by first | rfl | (simp; done) | (simp [*]; done)), H', ⟨by have := HJ6.out; have := HJ25.out; first | omega | exact Nat.le_refl _⟩, ⟨by (try simp only [hl10_25]); (with_reducible repeat (first | apply Kd.R_alloc | apply Kd.R_drewN | apply Kd.R_drew)); exact Kd.R_mono (Kd.R_far (p := ⟨gb282, 1, none⟩) (Kd.R_far (p := ⟨gb282, 0, none⟩) (Kd.R_types HO_8.out BK282.out (by decide)) (fun _ hk => hk.2) (.int .i64 t277)) (fun _ hk => hk.2) (.slice Ao64 t278.length co64)) (fun _ hk => ⟨hk.1.1.1, ⟨hk.1.1.2, hk.1.2⟩⟩)⟩, ⟨by (try simp only [hl10_25]); (with_reducible repeat (first | apply Kd.R_alloc | apply Kd.R_drewN | apply Kd.R_drew)); exact Kd.R_mono (Kd.R_far (p := ⟨gb282, 1, none⟩) (Kd.R_far (p := ⟨gb282, 0, none⟩) (Kd.R_types HO_10.out BK282.out (by decide)) (fun _ hk => hk.2) (.int .i64 t277)) (fun _ hk => hk.2) (.slice Ao64 t278.length co64)) (fun _ hk => ⟨hk.1.1.1, ⟨hk.1.1.2, hk.1.2⟩⟩)⟩, ⟨by (try simp only [hl10_25]); (with_reducible repeat (first | apply Kd.R_alloc | apply Kd.R_drewN | apply Kd.R_drew)); exact Kd.R_mono (Kd.R_far (p := ⟨gb282, 1, none⟩) (Kd.R_far (p := ⟨gb282, 0, none⟩) (Kd.R_types HO_259001.out BK282.out (by decide)) (fun _ hk => hk.2) (.int .i64 t277)) (fun _ hk => hk.2) (.slice Ao64 t278.length co64)) (fun _ hk => ⟨hk.1.1.1, ⟨hk.1.1.2, hk.1.2⟩⟩)⟩, ⟨by (try simp only [hl10_25]); (with_reducible repeat (first | apply Kd.R_alloc | apply Kd.R_drewN | apply Kd.R_drew)); exact Kd.R_mono (Kd.R_far (p := ⟨gb282, 1, none⟩) (Kd.R_far (p := ⟨gb282, 0, none⟩) (Kd.R_types HO280.out BK282.out (by decide)) (fun _ hk => hk.2) (.int .i64 t277)) (fun _ hk => hk.2) (.slice Ao64 t278.length co64)) (fun _ hk => ⟨hk.1.1.1.2, ⟨hk.1.1.2, hk.1.2⟩⟩)⟩, ⟨by (try simp only [hl10_25]); (with_reducible repeat (first | refine blk_drewN ?_ _ | refine blk_drew ?_ | refine blk_alloc ?_ _)); refine blk_far ?_ NB258_282.out _; (with_reducible repeat (first | refine blk_drewN ?_ _ | refine blk_drew ?_ | refine blk_alloc ?_ _)); refine blk_far ?_ NB258_282.out _; (with_reducible repeat (first | refine blk_drewN ?_ _ | refine blk_drew ?_ | refine blk_alloc ?_ _)); exact BK258.out⟩, ⟨by (try simp only [hl10_25]); (with_reducible repeat (first | refine blk_drewN ?_ _ | refine blk_drew ?_ | refine blk_alloc ?_ _)); refine blk_far ?_ NB259_282.out _; (with_reducible repeat (first | refine blk_drewN ?_ _ | refine blk_drew ?_ | refine blk_alloc ?_ _)); refine blk_far ?_ NB259_282.out _; (with_reducible repeat (first | refine blk_drewN ?_ _ | refine blk_drew ?_ | refine blk_alloc ?_ _)); exact BK259.out⟩, ⟨by (try simp only [hl10_25]); (with_reducible repeat (first | refine blk_drewN ?_ _ | refine blk_drew ?_ | refine blk_alloc ?_ _)); refine blk_put (cs := #[.int .i64 t277, .slice none 0 0]) ?_ 1 _ rfl; (with_reducible repeat (first | refine blk_drewN ?_ _ | refine blk_drew ?_ | refine blk_alloc ?_ _)); refine blk_put (cs := #[.int .i64 0, .slice none 0 0]) ?_ 0 _ rfl; (with_reducible repeat (first | refine blk_drewN ?_ _ | refine blk_drew ?_ | refine blk_alloc ?_ _)); exact BK282.out⟩, ⟨by repeat (first | (with_reducible first | exact HB.out | apply below_alloc | apply pw_below_drewN | apply below_drew1 | refine below_set ?_ GE258.out | refine below_set ?_ GE259.out | refine below_set ?_ GE282.out) | exact HB.out)⟩⟩
         ·rw [if_neg c67] at H
          have c67b0 : (t281 == 0) = false := beq_eq_false_iff_ne.mpr c67
          have c67b1 : (t281 != 0) = true := bne_iff_ne.mpr c67
          (first | rw [c67b0] | (simp only [i64_w, i32_w]; rw [c67b0]) | skip)
          have H' := Aside0.mk H
          clear H
          have hnb68 := NB282_258.out
          have hnc68 := NB258_282.out
          have hnb69 := NB282_259.out
          have hnc69 := NB259_282.out
          have hcz70_0 : w60.cell? ⟨gb282, 0, none⟩ = some (.int .i64 0) := (blk_cell BK282.out 0).trans rfl
          have hcz70_1 : w60.cell? ⟨gb282, 1, none⟩ = some (.slice none 0 0) := (blk_cell BK282.out 1).trans rfl
          have hfz70_0 := blk_frozen BK282.out 0
          have hfz70_1 := blk_frozen BK282.out 1
          go_wp2
          go_meet
          case rel => exact ⟨_, (decide ((t278.length : Int) > 0)), (by first | rfl | (simp; done) | (simp [*]; done)), H', ⟨by have := HJ6.out; have := HJ25.out; first | omega | exact Nat.le_refl _⟩, ⟨by (try simp only [hl10_25]); (with_reducible repeat (first | apply Kd.R_alloc | apply Kd.R_drewN | apply Kd.R_drew)); exact Kd.R_mono (Kd.R_far (p := ⟨gb282, 1, none⟩) (Kd.R_far (p := ⟨gb282, 0, none⟩) (Kd.R_types HO_8.out BK282.out (by decide)) (fun _ hk => hk.2) (.int .i64 t277)) (fun _ hk => hk.2) (.slice Ao64 t278.length co64)) (fun _ hk => ⟨hk.1.1.1, ⟨hk.1.1.2, hk.1.2⟩⟩)⟩, ⟨by (try simp only [hl10_25]); (with_reducible repeat (first | apply Kd.R_alloc | apply Kd.R_drewN | apply Kd.R_drew)); exact Kd.R_mono (Kd.R_far (p := ⟨gb282, 1, none⟩) (Kd.R_far (p := ⟨gb282, 0, none⟩) (Kd.R_types HO_10.out BK282.out (by decide)) (fun _ hk => hk.2) (.int .i64 t277)) (fun _ hk => hk.2) (.slice Ao64 t278.length co64)) (fun _ hk => ⟨hk.1.1.1, ⟨hk.1.1.2, hk.1.2⟩⟩)⟩, ⟨by (try simp only [hl10_25]); (with_reducible repeat (first | apply Kd.R_alloc | apply Kd.R_drewN | apply Kd.R_drew)); exact Kd.R_mono (Kd.R_far (p := ⟨gb282, 1, none⟩) (Kd.R_far (p := ⟨gb282, 0, none⟩) (Kd.R_types HO_259001.out BK282.out (by decide)) (fun _ hk => hk.2) (.int .i64 t277)) (fun _ hk => hk.2) (.slice Ao64 t278.length co64)) (fun _ hk => ⟨hk.1.1.1, ⟨hk.1.1.2, hk.1.2⟩⟩)⟩, ⟨by (try simp only [hl10_25]); (with_reducible repeat (first | apply Kd.R_alloc | apply Kd.R_drewN | apply Kd.R_drew)); exact Kd.R_mono (Kd.R_far (p := ⟨gb282, 1, none⟩) (Kd.R_far (p := ⟨gb282, 0, none⟩) (Kd.R_types HO280.out BK282.out (by decide)) (fun _ hk => hk.2) (.int .i64 t277)) (fun _ hk => hk.2) (.slice Ao64 t278.length co64)) (fun _ hk => ⟨hk.1.1.1.2, ⟨hk.1.1.2, hk.1.2⟩⟩)⟩, ⟨by (try simp only [hl10_25]); (with_reducible repeat (first | refine blk_drewN ?_ _ | refine blk_drew ?_ | refine blk_alloc ?_ _)); refine blk_far ?_ NB258_282.out _; (with_reducible repeat (first | refine blk_drewN ?_ _ | refine blk_drew ?_ | refine blk_alloc ?_ _)); refine blk_far ?_ NB258_282.out _; (with_reducible repeat (first | refine blk_drewN ?_ _ | refine blk_drew ?_ | refine blk_alloc ?_ _)); exact BK258.out⟩, ⟨by (try simp only [hl10_25]); (with_reducible repeat (first | refine blk_drewN ?_ _ | refine blk_drew ?_ | refine blk_alloc ?_ _)); refine blk_far ?_ NB259_282.out _; (with_reducible repeat (first | refine blk_drewN ?_ _ | refine blk_drew ?_ | refine blk_alloc ?_ _)); refine blk_far ?_ NB259_282.out _; (with_reducible repeat (first | refine blk_drewN ?_ _ | refine blk_drew ?_ | refine blk_alloc ?_ _)); exact BK259.out⟩, ⟨by (try simp only [hl10_25]); (with_reducible repeat (first | refine blk_drewN ?_ _ | refine blk_drew ?_ | refine blk_alloc ?_ _)); refine blk_put (cs := #[.int .i64 t277, .slice none 0 0]) ?_ 1 _ rfl; (with_reducible repeat (first | refine blk_drewN ?_ _ | refine blk_drew ?_ | refine blk_alloc ?_ _)); refine blk_put (cs := #[.int .i64 0, .slice none 0 0]) ?_ 0 _ rfl; (with_reducible repeat (first | refine blk_drewN ?_ _ | refine blk_drew ?_ | refine blk_alloc ?_ _)); exact BK282.out⟩, ⟨by repeat (first | (with_reducible first | exact HB.out | apply below_alloc | apply pw_below_drewN | apply below_drew1 | refine below_set ?_ GE258.out | refine below_set ?_ GE259.out | refine below_set ?_ GE282.out) | exact HB.out)⟩⟩
        case rest => as_aux_lemma =>
         clear HC58
         try clear c1
         try clear c2
         try clear p2
         try clear q2
         try clear hx2
         try clear c3
         try clear p3
         try clear q3
         try clear hx3
         try clear hf3
         try clear c4
         try clear c5
         try clear hcv5
         try clear c6
         try clear p6
         try clear hcv6
         try clear c11
         try clear c12
         try clear c13
         try clear c15
         try clear c17
         try clear c19
         try clear c20
         try clear c21
         try clear c21b0
         try clear c21b1
         try clear c22
         try clear c24
         try clear c25
         try clear c25b0
         try clear c25b1
         try clear c25b2
         try clear p27
         try clear q27
         try clear hx27
         try clear c31
         try clear c34
         try clear c34b0
         try clear c35
         try clear c35b0
         try clear c37
         try clear c37b0
         try clear p38
         try clear q38
         try clear hx38
         try clear hf38
         try clear c42
         try clear c42b0
         try clear c42b1
         try clear c43
         try clear c43b0
         try clear c43b1
         try clear c45
         try clear c46
         try clear c49
         try clear c50
         try clear hcv53
         try clear hcv54
         try clear c55
         try clear c61
         try clear c62
         try clear p64
         try clear hcv65
         try clear hcv66
         try clear c67
         try clear c67b0
         try clear c67b1
         try clear c68
         try clear c69
         try clear hcz12_0
         try clear hcz12_1
         try clear hcz14_0
         try clear hcz14_1
         try clear hcz32_0
         try clear hcz32_1
         try clear hcz32_2
         try clear hcz32_3
         try clear hcz32_4
         try clear hcz51_0
         try clear hcz51_1
         try clear hcz56_0
         try clear hcz56_1
         try clear hcz63_0
         try clear hcz63_1
         try clear hcz70_0
         try clear hcz70_1
         try clear hfz12_0
         try clear hfz12_1
         try clear hfz14_0
         try clear hfz14_1
         try clear hfz32_0
         try clear hfz32_1
         try clear hfz32_2
         try clear hfz32_3
         try clear hfz32_4
         try clear hfz51_0
         try clear hfz51_1
         try clear hfz56_0
         try clear hfz56_1
         try clear hfz63_0
         try clear hfz63_1
         try clear hfz70_0
         try clear hfz70_1
         try clear hx275_0
         try clear hx38_0
         try clear p2
         try clear p27
         try clear p275
         try clear p3
         try clear p38
         try clear p6
         try clear q2
         try clear q27
         try clear q275
         try clear q3
         try clear q38
         obtain ⟨kq, x109_57, rfl, HA, HJ57, HO_8, HO_10, HO_259001, HO_283001, BK258, BK259, BK282, HB⟩ := hcut
         cases kq with
         | zero => exact absurd HA.out (by simp [phaetonlaw24_ImageBurst.j3])
         | succ kj57 =>
          have H := HA.out
          clear HA
          simp only [phaetonlaw24_ImageBurst.j3] at H
          by_cases c71 : x109_57 = true
          ·subst c71
           have H1 : (none) = some r := by rw [if_pos rfl] at H; exact H
           clear H
           have H := H1
           clear H1
           exact absurd H (by simp)
          ·replace c71 := Bool.eq_false_iff.mpr c71
           subst c71
           have H1 : (if 14 ≤ (x10_25.length : Int) then ((some (x10_25.take 14 : List Int)).bind fun y284 => (if 14 ≤ (t265.length : Int) then ((some (t265.take 14 : List Int)).bind fun y288 => (if 2 ≤ (x10_25.length : Int) then (if 2 ≤ (t265.length : Int) then (if (strOfNums (x10_25.take 2)).toList = (strOfNums (t265.take 2)).toList then (if 6 ≤ 10 then (if 10 ≤ (x10_25.length : Int) then (if 10 ≤ (t265.length : Int) then (phaetonlaw24_ImageBurst.j4 kj57 t260 t265 x10_25 t281 ((strOfNums y284).toList == (strOfNums y288).toList) ((strOfNums ((x10_25.take 10).drop 6)).toList == (strOfNums ((t265.take 10).drop 6)).toList)) else (none)) else (none)) else (none)) else (phaetonlaw24_ImageBurst.j4 kj57 t260 t265 x10_25 t281 ((strOfNums y284).toList == (strOfNums y288).toList) false)) else (none)) else (none))) else (none))) else (none)) = some r := by rw [if_neg (show ¬ (false = true) by decide)] at H; exact H
           clear H
           have H := H1
           clear H1
           have HC72 := Aside0.mk H
           clear H
           go_upto_region 17 with (fail)
           go_cut [15, 16] (fun v15 v16 wc => ∃ (kq : Nat) (x15_71 : Bool) (x16_71 : Bool), v15 = .bool x15_71 ∧ v16 = .bool x16_71 ∧ Aside0 (phaetonlaw24_ImageBurst.j4 kq t260 t265 x10_25 t281 x15_71 x16_71 = some r) ∧ Aside0 (kq ≤ kj57) ∧ Aside0 (Kd.R (Kd.int .u8) 5 wc w.heap.size (fun k_ => some k_ ≠ ((.slice Ao33 x10_25.length co33) : Value).ownBlock ∧ some k_ ≠ ((.slice Ao15 t262.length co15) : Value).ownBlock ∧ some k_ ≠ ((.slice Ao64 t278.length co64) : Value).ownBlock) (.slice Ao30 t265.length co30) t265) ∧ Aside0 (Kd.R (Kd.int .u8) 5 wc w.heap.size (fun k_ => some k_ ≠ ((.slice Ao30 t265.length co30) : Value).ownBlock ∧ some k_ ≠ ((.slice Ao15 t262.length co15) : Value).ownBlock ∧ some k_ ≠ ((.slice Ao64 t278.length co64) : Value).ownBlock) (.slice Ao33 x10_25.length co33) x10_25) ∧ Aside0 (Kd.R (Kd.int .u8) 5 wc w.heap.size (fun k_ => some k_ ≠ ((.slice Ao30 t265.length co30) : Value).ownBlock ∧ some k_ ≠ ((.slice Ao33 x10_25.length co33) : Value).ownBlock ∧ some k_ ≠ ((.slice Ao64 t278.length co64) : Value).ownBlock) (.slice Ao15 t262.length co15) t262) ∧ Aside0 (Kd.R (Kd.int .u8) 5 wc w.heap.size (fun k_ => some k_ ≠ ((.slice Ao30 t265.length co30) : Value).ownBlock ∧ some k_ ≠ ((.slice Ao33 x10_25.length co33) : Value).ownBlock ∧ some k_ ≠ ((.slice Ao15 t262.length co15) : Value).ownBlock) (.slice Ao64 t278.length co64) t278) ∧ Aside0 (wc.heap[gb258]? = some (.cells #[.int .i64 t261, (.slice Ao15 t262.length co15)] 24 (0, 0))) ∧ Aside0 (wc.heap[gb259]? = some (.cells #[.int .u16 a2_0, .int .u8 a2_1, .int .u8 a2_2, .int .u8 a2_3, .int .u8 a2_4] 43 (0, 0))) ∧ Aside0 (wc.heap[gb282]? = some (.cells #[.int .i64 t277, (.slice Ao64 t278.length co64)] 24 (0, 0))) ∧ Aside0 (Below w.heap.size w wc))
           case first => as_aux_lemma =>
            have H := HC72.out
            clear HC72
            by_cases c73 : 14 ≤ (x10_25.length : Int)
            rotate_left
            ·rw [if_neg c73] at H
             exact absurd H (by simp)
            rw [if_pos c73] at H
            have c73b0 := eq_true c73
            have c73b1 : decide (14 ≤ (x10_25.length : Int)) = true := decide_eq_true c73
            clear c73
            obtain ⟨y284, hy284⟩ : ∃ y_ : List Int, y_ = (x10_25.take 14) := ⟨_, rfl⟩
            replace H : (if 14 ≤ (t265.length : Int) then ((some (t265.take 14 : List Int)).bind fun y288 => (if 2 ≤ (x10_25.length : Int) then (if 2 ≤ (t265.length : Int) then (if (strOfNums (x10_25.take 2)).toList = (strOfNums (t265.take 2)).toList then (if 6 ≤ 10 then (if 10 ≤ (x10_25.length : Int) then (if 10 ≤ (t265.length : Int) then (phaetonlaw24_ImageBurst.j4 kj57 t260 t265 x10_25 t281 ((strOfNums y284).toList == (strOfNums y288).toList) ((strOfNums ((x10_25.take 10).drop 6)).toList == (strOfNums ((t265.take 10).drop 6)).toList)) else (none)) else (none)) else (none)) else (phaetonlaw24_ImageBurst.j4 kj57 t260 t265 x10_25 t281 ((strOfNums y284).toList == (strOfNums y288).toList) false)) else (none)) else (none))) else (none)) = some r := by first | (rw [hy284]; with_reducible exact H) | (have H2_ := (Option.bind_some _ _).symm.trans H; rw [hy284]; with_reducible exact H2_) | (have H2_ := (Option.bind_some _ _).symm.trans H; with_reducible exact H2_) | with_reducible exact H | (rw [hy284]; exact H) | exact H
            have Ny284 := Aside0.mk hy284
            clear hy284
            by_cases c74 : 14 ≤ (t265.length : Int)
            rotate_left
            ·rw [if_neg c74] at H
             exact absurd H (by simp)
            rw [if_pos c74] at H
            have c74b0 := eq_true c74
            have c74b1 : decide (14 ≤ (t265.length : Int)) = true := decide_eq_true c74
            clear c74
            obtain ⟨y288, hy288⟩ : ∃ y_ : List Int, y_ = (t265.take 14) := ⟨_, rfl⟩
            replace H : (if 2 ≤ (x10_25.length : Int) then (if 2 ≤ (t265.length : Int) then (if (strOfNums (x10_25.take 2)).toList = (strOfNums (t265.take 2)).toList then (if 6 ≤ 10 then (if 10 ≤ (x10_25.length : Int) then (if 10 ≤ (t265.length : Int) then (phaetonlaw24_ImageBurst.j4 kj57 t260 t265 x10_25 t281 ((strOfNums y284).toList == (strOfNums y288).toList) ((strOfNums ((x10_25.take 10).drop 6)).toList == (strOfNums ((t265.take 10).drop 6)).toList)) else (none)) else (none)) else (none)) else (phaetonlaw24_ImageBurst.j4 kj57 t260 t265 x10_25 t281 ((strOfNums y284).toList == (strOfNums y288).toList) false)) else (none)) else (none)) = some r := by first | (rw [hy288]; with_reducible exact H) | (have H2_ := (Option.bind_some _ _).symm.trans H; rw [hy288]; with_reducible exact H2_) | (have H2_ := (Option.bind_some _ _).symm.trans H; with_reducible exact H2_) | with_reducible exact H | (rw [hy288]; exact H) | exact H
            have Ny288 := Aside0.mk hy288
            clear hy288
            by_cases c75 : 2 ≤ (x10_25.length : Int)
            rotate_left
            ·rw [if_neg c75] at H
             exact absurd H (by simp)
            rw [if_pos c75] at H
            have c75b0 := eq_true c75
            have c75b1 : decide (2 ≤ (x10_25.length : Int)) = true := decide_eq_true c75
            clear c75
            obtain ⟨y292, hy292⟩ : ∃ y_ : List Int, y_ = (x10_25.take 2) := ⟨_, rfl⟩
            replace H : (if 2 ≤ (t265.length : Int) then (if (strOfNums y292).toList = (strOfNums (t265.take 2)).toList then (if 6 ≤ 10 then (if 10 ≤ (x10_25.length : Int) then (if 10 ≤ (t265.length : Int) then (phaetonlaw24_ImageBurst.j4 kj57 t260 t265 x10_25 t281 ((strOfNums y284).toList == (strOfNums y288).toList) ((strOfNums ((x10_25.take 10).drop 6)).toList == (strOfNums ((t265.take 10).drop 6)).toList)) else (none)) else (none)) else (none)) else (phaetonlaw24_ImageBurst.j4 kj57 t260 t265 x10_25 t281 ((strOfNums y284).toList == (strOfNums y288).toList) false)) else (none)) = some r := by first | (rw [hy292]; with_reducible exact H) | (have H2_ := (Option.bind_some _ _).symm.trans H; rw [hy292]; with_reducible exact H2_) | (have H2_ := (Option.bind_some _ _).symm.trans H; with_reducible exact H2_) | with_reducible exact H | (rw [hy292]; exact H) | exact H
            have Ny292 := Aside0.mk hy292
            clear hy292
            by_cases c76 : 2 ≤ (t265.length : Int)
            rotate_left
            ·rw [if_neg c76] at H
             exact absurd H (by simp)
            rw [if_pos c76] at H
            have c76b0 := eq_true c76
            have c76b1 : decide (2 ≤ (t265.length : Int)) = true := decide_eq_true c76
            clear c76
            obtain ⟨y296, hy296⟩ : ∃ y_ : List Int, y_ = (t265.take 2) := ⟨_, rfl⟩
            replace H : (if (strOfNums y292).toList = (strOfNums y296).toList then (if 6 ≤ 10 then (if 10 ≤ (x10_25.length : Int) then (if 10 ≤ (t265.length : Int) then (phaetonlaw24_ImageBurst.j4 kj57 t260 t265 x10_25 t281 ((strOfNums y284).toList == (strOfNums y288).toList) ((strOfNums ((x10_25.take 10).drop 6)).toList == (strOfNums ((t265.take 10).drop 6)).toList)) else (none)) else (none)) else (none)) else (phaetonlaw24_ImageBurst.j4 kj57 t260 t265 x10_25 t281 ((strOfNums y284).toList == (strOfNums y288).toList) false)) = some r := by first | (rw [hy296]; with_reducible exact H) | (have H2_ := (Option.bind_some _ _).symm.trans H; rw [hy296]; with_reducible exact H2_) | (have H2_ := (Option.bind_some _ _).symm.trans H; with_reducible exact H2_) | with_reducible exact H | (rw [hy296]; exact H) | exact H
            have Ny296 := Aside0.mk hy296
            clear hy296
            by_cases c77 : (strOfNums y292).toList = (strOfNums y296).toList
            ·rw [if_pos c77] at H
             have c77b0 : ((strOfNums y292).toList == (strOfNums y296).toList) = true := beq_iff_eq.mpr c77
             have c77b1 : ((strOfNums y292).toList != (strOfNums y296).toList) = false := bne_eq_false_iff_eq.mpr c77
             clear c77
             (first | rw [c77b0] | (simp only [i64_w, i32_w]; rw [c77b0]) | skip)
             by_cases c78 : 6 ≤ 10
             rotate_left
             ·rw [if_neg c78] at H
              exact absurd H (by simp)
             rw [if_pos c78] at H
             have c78b0 := eq_true c78
             have c78b1 : decide (6 ≤ 10) = true := decide_eq_true c78
             clear c78
             by_cases c79 : 10 ≤ (x10_25.length : Int)
             rotate_left
             ·rw [if_neg c79] at H
              exact absurd H (by simp)
             rw [if_pos c79] at H
             have c79b0 := eq_true c79
             have c79b1 : decide (10 ≤ (x10_25.length : Int)) = true := decide_eq_true c79
             clear c79
             obtain ⟨y300, hy300⟩ : ∃ y_ : List Int, y_ = ((x10_25.take 10).drop 6) := ⟨_, rfl⟩
             replace H : (if 10 ≤ (t265.length : Int) then (phaetonlaw24_ImageBurst.j4 kj57 t260 t265 x10_25 t281 ((strOfNums y284).toList == (strOfNums y288).toList) ((strOfNums y300).toList == (strOfNums ((t265.take 10).drop 6)).toList)) else (none)) = some r := by first | (rw [hy300]; with_reducible exact H) | (have H2_ := (Option.bind_some _ _).symm.trans H; rw [hy300]; with_reducible exact H2_) | (have H2_ := (Option.bind_some _ _).symm.trans H; with_reducible exact H2_) | with_reducible exact H | (rw [hy300]; exact H) | exact H
             have Ny300 := Aside0.mk hy300
             clear hy300
             have c80b0 := eq_true (of_decide_eq_true (by first | (with_reducible assumption) | assumption) : 6 ≤ 10)
             by_cases c81 : 10 ≤ (t265.length : Int)
             rotate_left
             ·rw [if_neg c81] at H
              exact absurd H (by simp)
             rw [if_pos c81] at H
             have c81b0 := eq_true c81
             have c81b1 : decide (10 ≤ (t265.length : Int)) = true := decide_eq_true c81
             clear c81
             obtain ⟨y304, hy304⟩ : ∃ y_ : List Int, y_ = ((t265.take 10).drop 6) := ⟨_, rfl⟩
             replace H : (phaetonlaw24_ImageBurst.j4 kj57 t260 t265 x10_25 t281 ((strOfNums y284).toList == (strOfNums y288).toList) ((strOfNums y300).toList == (strOfNums y304).toList)) = some r := by first | (rw [hy304]; with_reducible exact H) | (have H2_ := (Option.bind_some _ _).symm.trans H; rw [hy304]; with_reducible exact H2_) | (have H2_ := (Option.bind_some _ _).symm.trans H; with_reducible exact H2_) | with_reducible exact H | (rw [hy304]; exact H) | exact H
             have Ny304 := Aside0.mk hy304
             clear hy304
             have H' := Aside0.mk H
             clear H
             try go_wp2
             have n0_ := Aside0.mk (Kd.R_drew HO_8.out)
             have n1_ := Aside0.mk (Kd.R_drew HO_10.out)
             have n2_ := Aside0.mk (Kd.R_drew HO_259001.out)
             have n3_ := Aside0.mk (Kd.R_drew HO_283001.out)
             have n4_ := Aside0.mk (blk_drew BK258.out)
             have n5_ := Aside0.mk (blk_drew BK259.out)
             have n6_ := Aside0.mk (blk_drew BK282.out)
             have n7_ := Aside0.mk (below_drew1 HB.out)
             clear HO_8
             clear HO_10
             clear HO_259001
             clear HO_283001
             clear BK258
             clear BK259
             clear BK282
             clear HB
             have HO_8 := n0_
             have HO_10 := n1_
             have HO_259001 := n2_
             have HO_283001 := n3_
             have BK258 := n4_
             have BK259 := n5_
             have BK282 := n6_
             have HB := n7_
             clear n0_ n1_ n2_ n3_ n4_ n5_ n6_ n7_
             have q83 : (14 : Int) ≤ ((x10_25.length : Int) : Int) := of_decide_eq_true (by first | (with_reducible assumption) | assumption)
             obtain ⟨i083, hi083, _, hsz83, _⟩ := info_parts info5
             have hroom83 : x10_25.length ≤ co33 := (Kd.R_reads' HO_10.out).2.1
             have hC83 : Kd.C (Kd.int .u8) _ Ao33 x10_25.length x10_25 := (Kd.R_reads' HO_10.out).2.2
             have hcut83 := cut_to (P := Try.prog) 22 5 .i64 Try.underlying22 hi083 Ao33 x10_25.length co33 14 (by omega) q83 hroom83
             have hr83 := Kd.C_take (m := 14) hC83 (by omega)
             have hy83 : y284.length = (14 : Int).toNat := (by rw [Ny284.out, List.length_take]; omega)
             rw [← Ny284.out] at hr83
             rw [← hy83] at hcut83
             have HR287 := Aside0.mk hr83
             have HC287 := Aside0.mk (show y284.length ≤ co33 from by omega)
             clear hr83 hC83 hroom83 hi083 hsz83
             have KY83 := Aside0.mk hy83
             clear hy83
             have KL83 := Aside0.mk (show 14 ≤ x10_25.length from by omega)
             replace q83 := eq_true q83
             have q84 : (14 : Int) ≤ ((t265.length : Int) : Int) := of_decide_eq_true (by first | (with_reducible assumption) | assumption)
             obtain ⟨i084, hi084, _, hsz84, _⟩ := info_parts info5
             have hroom84 : t265.length ≤ co30 := (Kd.R_reads' HO_8.out).2.1
             have hC84 : Kd.C (Kd.int .u8) _ Ao30 t265.length t265 := (Kd.R_reads' HO_8.out).2.2
             have hcut84 := cut_to (P := Try.prog) 22 5 .i64 Try.underlying22 hi084 Ao30 t265.length co30 14 (by omega) q84 hroom84
             have hr84 := Kd.C_take (m := 14) hC84 (by omega)
             have hy84 : y288.length = (14 : Int).toNat := (by rw [Ny288.out, List.length_take]; omega)
             rw [← Ny288.out] at hr84
             rw [← hy84] at hcut84
             have HR291 := Aside0.mk hr84
             have HC291 := Aside0.mk (show y288.length ≤ co30 from by omega)
             clear hr84 hC84 hroom84 hi084 hsz84
             have KY84 := Aside0.mk hy84
             clear hy84
             have KL84 := Aside0.mk (show 14 ≤ t265.length from by omega)
             replace q84 := eq_true q84
             have q85 : (2 : Int) ≤ ((x10_25.length : Int) : Int) := of_decide_eq_true (by first | (with_reducible assumption) | assumption)
             obtain ⟨i085, hi085, _, hsz85, _⟩ := info_parts info5
             have hroom85 : x10_25.length ≤ co33 := (Kd.R_reads' HO_10.out).2.1
             have hC85 : Kd.C (Kd.int .u8) _ Ao33 x10_25.length x10_25 := (Kd.R_reads' HO_10.out).2.2
             have hcut85 := cut_to (P := Try.prog) 22 5 .i64 Try.underlying22 hi085 Ao33 x10_25.length co33 2 (by omega) q85 hroom85
             have hr85 := Kd.C_take (m := 2) hC85 (by omega)
             have hy85 : y292.length = (2 : Int).toNat := (by rw [Ny292.out, List.length_take]; omega)
             rw [← Ny292.out] at hr85
             rw [← hy85] at hcut85
             have HR295 := Aside0.mk hr85
             have HC295 := Aside0.mk (show y292.length ≤ co33 from by omega)
             clear hr85 hC85 hroom85 hi085 hsz85
             have KY85 := Aside0.mk hy85
             clear hy85
             have KL85 := Aside0.mk (show 2 ≤ x10_25.length from by omega)
             replace q85 := eq_true q85
             have q86 : (2 : Int) ≤ ((t265.length : Int) : Int) := of_decide_eq_true (by first | (with_reducible assumption) | assumption)
             obtain ⟨i086, hi086, _, hsz86, _⟩ := info_parts info5
             have hroom86 : t265.length ≤ co30 := (Kd.R_reads' HO_8.out).2.1
             have hC86 : Kd.C (Kd.int .u8) _ Ao30 t265.length t265 := (Kd.R_reads' HO_8.out).2.2
             have hcut86 := cut_to (P := Try.prog) 22 5 .i64 Try.underlying22 hi086 Ao30 t265.length co30 2 (by omega) q86 hroom86
             have hr86 := Kd.C_take (m := 2) hC86 (by omega)
             have hy86 : y296.length = (2 : Int).toNat := (by rw [Ny296.out, List.length_take]; omega)
             rw [← Ny296.out] at hr86
             rw [← hy86] at hcut86
             have HR299 := Aside0.mk hr86
             have HC299 := Aside0.mk (show y296.length ≤ co30 from by omega)
             clear hr86 hC86 hroom86 hi086 hsz86
             have KY86 := Aside0.mk hy86
             clear hy86
             have KL86 := Aside0.mk (show 2 ≤ t265.length from by omega)
             replace q86 := eq_true q86
             have qM91 : (10 : Int) ≤ ((x10_25.length : Int) : Int) := of_decide_eq_true (by first | (with_reducible assumption) | assumption)
             obtain ⟨i0M91, hi0M91, _, hszM91, _⟩ := info_parts info5
             have hroomM91 : x10_25.length ≤ co33 := (Kd.R_reads' HO_10.out).2.1
             have hCM91 : Kd.C (Kd.int .u8) _ Ao33 x10_25.length x10_25 := (Kd.R_reads' HO_10.out).2.2
             have hcutM91 := cut_mid (P := Try.prog) 22 5 .i64 .i64 Try.underlying22 hi0M91 1 hszM91 Ao33 x10_25.length co33 6 10 (by omega) (by omega) qM91 hroomM91
             have hrM91 := Kd.C_mid (lo := (6 : Int).toNat) (hi := (10 : Int).toNat) (c := co33) hCM91 (by omega) (by omega) hroomM91
             obtain ⟨A303, hAM91⟩ : ∃ A1, A1 = (if co33 = (6 : Int).toNat then Ao33 else (Ao33 : Option Addr).map (·.add ((6 : Int).toNat * 1))) := ⟨_, rfl⟩
             obtain ⟨c303, hcM91⟩ : ∃ c1, c1 = co33 - (6 : Int).toNat := ⟨_, rfl⟩
             have hyM91 : y300.length = (10 : Int).toNat - (6 : Int).toNat := (by rw [Ny300.out, List.length_drop, List.length_take] <;> omega)
             rw [show ((x10_25).take (10 : Int).toNat).drop (6 : Int).toNat = y300 from Ny300.out.symm] at hrM91
             replace hrM91 : Kd.C (Kd.int .u8) _ A303 y300.length y300 := (by rw [hAM91]; exact hrM91)
             rw [← hyM91, ← hAM91, ← hcM91] at hcutM91
             have HR303 := Aside0.mk hrM91
             have KYM91 := Aside0.mk hyM91
             have KAM91 := Aside0.mk hAM91
             clear hrM91 hCM91 hroomM91 hi0M91 hszM91 hcM91 hyM91 hAM91
             replace qM91 := eq_true qM91
             have qM92 : (10 : Int) ≤ ((t265.length : Int) : Int) := of_decide_eq_true (by first | (with_reducible assumption) | assumption)
             obtain ⟨i0M92, hi0M92, _, hszM92, _⟩ := info_parts info5
             have hroomM92 : t265.length ≤ co30 := (Kd.R_reads' HO_8.out).2.1
             have hCM92 : Kd.C (Kd.int .u8) _ Ao30 t265.length t265 := (Kd.R_reads' HO_8.out).2.2
             have hcutM92 := cut_mid (P := Try.prog) 22 5 .i64 .i64 Try.underlying22 hi0M92 1 hszM92 Ao30 t265.length co30 6 10 (by omega) (by omega) qM92 hroomM92
             have hrM92 := Kd.C_mid (lo := (6 : Int).toNat) (hi := (10 : Int).toNat) (c := co30) hCM92 (by omega) (by omega) hroomM92
             obtain ⟨A307, hAM92⟩ : ∃ A1, A1 = (if co30 = (6 : Int).toNat then Ao30 else (Ao30 : Option Addr).map (·.add ((6 : Int).toNat * 1))) := ⟨_, rfl⟩
             obtain ⟨c307, hcM92⟩ : ∃ c1, c1 = co30 - (6 : Int).toNat := ⟨_, rfl⟩
             have hyM92 : y304.length = (10 : Int).toNat - (6 : Int).toNat := (by rw [Ny304.out, List.length_drop, List.length_take] <;> omega)
             rw [show ((t265).take (10 : Int).toNat).drop (6 : Int).toNat = y304 from Ny304.out.symm] at hrM92
             replace hrM92 : Kd.C (Kd.int .u8) _ A307 y304.length y304 := (by rw [hAM92]; exact hrM92)
             rw [← hyM92, ← hAM92, ← hcM92] at hcutM92
             have HR307 := Aside0.mk hrM92
             have KYM92 := Aside0.mk hyM92
             have KAM92 := Aside0.mk hAM92
             clear hrM92 hCM92 hroomM92 hi0M92 hszM92 hcM92 hyM92 hAM92
             replace qM92 := eq_true qM92
             have hrc87_ := HW.keepC (w := wc.drew) (by repeat (first | (with_reducible exact HR287.out) | (with_reducible refine Kd.C_alloc ?_ _) | (with_reducible refine Kd.C_drewN ?_ _) | (with_reducible refine Kd.C_drew ?_) | exact HR287.out))
             have hrc88_ := HW.keepC (w := wc.drew) (by repeat (first | (with_reducible exact HR291.out) | (with_reducible refine Kd.C_alloc ?_ _) | (with_reducible refine Kd.C_drewN ?_ _) | (with_reducible refine Kd.C_drew ?_) | exact HR291.out))
             have hrc89_ := HW.keepC (w := wc.drew) (by repeat (first | (with_reducible exact HR295.out) | (with_reducible refine Kd.C_alloc ?_ _) | (with_reducible refine Kd.C_drewN ?_ _) | (with_reducible refine Kd.C_drew ?_) | exact HR295.out))
             have hrc90_ := HW.keepC (w := wc.drew) (by repeat (first | (with_reducible exact HR299.out) | (with_reducible refine Kd.C_alloc ?_ _) | (with_reducible refine Kd.C_drewN ?_ _) | (with_reducible refine Kd.C_drew ?_) | exact HR299.out))
             have hrc91_ := HW.keepC (w := wc.drew) (by repeat (first | (with_reducible exact HR303.out) | (with_reducible refine Kd.C_alloc ?_ _) | (with_reducible refine Kd.C_drewN ?_ _) | (with_reducible refine Kd.C_drew ?_) | exact HR303.out))
             have hrc92_ := HW.keepC (w := wc.drew) (by repeat (first | (with_reducible exact HR307.out) | (with_reducible refine Kd.C_alloc ?_ _) | (with_reducible refine Kd.C_drewN ?_ _) | (with_reducible refine Kd.C_drew ?_) | exact HR307.out))
             refine start_ (n := 25) (S := fun w' => ∀ (A_ : Option Addr) (n_ : Nat) (x_ : List Int), Kd.C (Kd.int .u8) wc.drew A_ n_ x_ → Kd.C (Kd.int .u8) w' A_ n_ x_) (ds := []) #[false, false, false, false, false, false, false, false, false, false, false, false, false, false, false, false, false, false, false, false, false, false, false, false, false] (by kernel_rfl) rfl rfl (fun _ _ _ h_ => h_) (fun hHeld => ?_); refine with_tabW phaetonlaw24_ImageBurst.tab17 phaetonlaw24_ImageBurst.bits17 (fun HT_ HW_ => ?_)
             generalize wc.drew = w82 at HO_8 HO_10 HO_259001 HO_283001 BK258 BK259 BK282 HB HR287 HR291 HR295 HR299 hrc87_ hrc88_ hrc89_ hrc90_ hrc91_ hrc92_ hHeld ⊢
             refine pure_ (i := 0) (N := some 110) (v := ?_) (a' := ?_) #[true, false, false, false, false, false, false, false, false, false, false, false, false, false, false, false, false, false, false, false, false, false, false, false, false] rfl rfl (any_of HT_.out (by kernel_rfl)) (fun _ _ _ h => h) (Or.inl ⟨by rfl, ?_⟩) ?_ ?_
             rotate_left
             ·intro w'
              go_simp
              with_reducible rfl
             rotate_left
             ·simp only [Act.put, HW.LA, HW.LZ, HW.LS, i64_w, i32_w]
              rfl
             refine pure_ (i := 1) (N := some 111) (v := ?_) (a' := ?_) #[true, true, false, false, false, false, false, false, false, false, false, false, false, false, false, false, false, false, false, false, false, false, false, false, false] rfl rfl (any_of HT_.out (by kernel_rfl)) (fun _ _ _ h => h) (Or.inl ⟨by rfl, ?_⟩) ?_ ?_
             rotate_left
             ·intro w'
              go_simp
              with_reducible rfl
             rotate_left
             ·simp only [Act.put, HW.LA, HW.LZ, HW.LS, i64_w, i32_w]
              rfl
             refine take_ (i := 2) (N := some 112) (v := ?_) (a' := ?_) #[true, true, true, false, false, false, false, false, false, false, false, false, false, false, false, false, false, false, false, false, false, false, false, false, false] rfl rfl (take_ofW HT_.out HW_.out (by kernel_rfl)) (fun _ _ _ h => h) (Or.inl ⟨by rfl, ?_⟩) hHeld ?_ ?_
             rotate_left
             ·intro w' hS_
              have hcv87 := Kd.C_string (P := Try.prog) (A := Ao33) (c := co33) Try.underlying22 Try.underlying5 Try.underlying9 (hS_ _ _ _ hrc87_)
              have hcv88 := Kd.C_string (P := Try.prog) (A := Ao30) (c := co30) Try.underlying22 Try.underlying5 Try.underlying9 (hS_ _ _ _ hrc88_)
              have hcv89 := Kd.C_string (P := Try.prog) (A := Ao33) (c := co33) Try.underlying22 Try.underlying5 Try.underlying9 (hS_ _ _ _ hrc89_)
              have hcv90 := Kd.C_string (P := Try.prog) (A := Ao30) (c := co30) Try.underlying22 Try.underlying5 Try.underlying9 (hS_ _ _ _ hrc90_)
              have hcv91 := Kd.C_string (P := Try.prog) (A := A303) (c := c303) Try.underlying22 Try.underlying5 Try.underlying9 (hS_ _ _ _ hrc91_)
              have hcv92 := Kd.C_string (P := Try.prog) (A := A307) (c := c307) Try.underlying22 Try.underlying5 Try.underlying9 (hS_ _ _ _ hrc92_)
              go_simp
              with_reducible rfl
             rotate_left
             ·simp only [Act.put, HW.LA, HW.LZ, HW.LS, i64_w, i32_w]
              rfl
             refine pure_ (i := 3) (N := some 113) (v := ?_) (a' := ?_) #[true, true, true, true, false, false, false, false, false, false, false, false, false, false, false, false, false, false, false, false, false, false, false, false, false] rfl rfl (any_of HT_.out (by kernel_rfl)) (fun _ _ _ h => h) (Or.inl ⟨by rfl, ?_⟩) ?_ ?_
             rotate_left
             ·intro w'
              go_simp
              with_reducible rfl
             rotate_left
             ·simp only [Act.put, HW.LA, HW.LZ, HW.LS, i64_w, i32_w]
              rfl
             refine pure_ (i := 4) (N := some 114) (v := ?_) (a' := ?_) #[true, true, true, true, true, false, false, false, false, false, false, false, false, false, false, false, false, false, false, false, false, false, false, false, false] rfl rfl (any_of HT_.out (by kernel_rfl)) (fun _ _ _ h => h) (Or.inl ⟨by rfl, ?_⟩) ?_ ?_
             rotate_left
             ·intro w'
              go_simp
              with_reducible rfl
             rotate_left
             ·simp only [Act.put, HW.LA, HW.LZ, HW.LS, i64_w, i32_w]
              rfl
             refine take_ (i := 5) (N := some 115) (v := ?_) (a' := ?_) #[true, true, true, true, true, true, false, false, false, false, false, false, false, false, false, false, false, false, false, false, false, false, false, false, false] rfl rfl (take_ofW HT_.out HW_.out (by kernel_rfl)) (fun _ _ _ h => h) (Or.inl ⟨by rfl, ?_⟩) hHeld ?_ ?_
             rotate_left
             ·intro w' hS_
              have hcv87 := Kd.C_string (P := Try.prog) (A := Ao33) (c := co33) Try.underlying22 Try.underlying5 Try.underlying9 (hS_ _ _ _ hrc87_)
              have hcv88 := Kd.C_string (P := Try.prog) (A := Ao30) (c := co30) Try.underlying22 Try.underlying5 Try.underlying9 (hS_ _ _ _ hrc88_)
              have hcv89 := Kd.C_string (P := Try.prog) (A := Ao33) (c := co33) Try.underlying22 Try.underlying5 Try.underlying9 (hS_ _ _ _ hrc89_)
              have hcv90 := Kd.C_string (P := Try.prog) (A := Ao30) (c := co30) Try.underlying22 Try.underlying5 Try.underlying9 (hS_ _ _ _ hrc90_)
              have hcv91 := Kd.C_string (P := Try.prog) (A := A303) (c := c303) Try.underlying22 Try.underlying5 Try.underlying9 (hS_ _ _ _ hrc91_)
              have hcv92 := Kd.C_string (P := Try.prog) (A := A307) (c := c307) Try.underlying22 Try.underlying5 Try.underlying9 (hS_ _ _ _ hrc92_)
              go_simp
              with_reducible rfl
             rotate_left
             ·simp only [Act.put, HW.LA, HW.LZ, HW.LS, i64_w, i32_w]
              rfl
             refine pure_ (i := 6) (N := some 116) (v := ?_) (a' := ?_) #[true, true, true, true, true, true, true, false, false, false, false, false, false, false, false, false, false, false, false, false, false, false, false, false, false] rfl rfl (any_of HT_.out (by kernel_rfl)) (fun _ _ _ h => h) (Or.inl ⟨by rfl, ?_⟩) ?_ ?_
             rotate_left
             ·intro w'
              go_simp
              with_reducible rfl
             rotate_left
             ·simp only [Act.put, HW.LA, HW.LZ, HW.LS, i64_w, i32_w]
              rfl
             refine pure_ (i := 7) (N := some 117) (v := ?_) (a' := ?_) #[true, true, true, true, true, true, true, true, false, false, false, false, false, false, false, false, false, false, false, false, false, false, false, false, false] rfl rfl (any_of HT_.out (by kernel_rfl)) (fun _ _ _ h => h) (Or.inl ⟨by rfl, ?_⟩) ?_ ?_
             rotate_left
             ·intro w'
              go_simp
              with_reducible rfl
             rotate_left
             ·simp only [Act.put, HW.LA, HW.LZ, HW.LS, i64_w, i32_w]
              rfl
             refine pure_ (i := 8) (N := some 118) (v := ?_) (a' := ?_) #[true, true, true, true, true, true, true, true, true, false, false, false, false, false, false, false, false, false, false, false, false, false, false, false, false] rfl rfl (any_of HT_.out (by kernel_rfl)) (fun _ _ _ h => h) (Or.inl ⟨by rfl, ?_⟩) ?_ ?_
             rotate_left
             ·intro w'
              go_simp
              with_reducible rfl
             rotate_left
             ·simp only [Act.put, HW.LA, HW.LZ, HW.LS, i64_w, i32_w]
              rfl
             refine take_ (i := 9) (N := some 119) (v := ?_) (a' := ?_) #[true, true, true, true, true, true, true, true, true, true, false, false, false, false, false, false, false, false, false, false, false, false, false, false, false] rfl rfl (take_ofW HT_.out HW_.out (by kernel_rfl)) (fun _ _ _ h => h) (Or.inl ⟨by rfl, ?_⟩) hHeld ?_ ?_
             rotate_left
             ·intro w' hS_
              have hcv87 := Kd.C_string (P := Try.prog) (A := Ao33) (c := co33) Try.underlying22 Try.underlying5 Try.underlying9 (hS_ _ _ _ hrc87_)
              have hcv88 := Kd.C_string (P := Try.prog) (A := Ao30) (c := co30) Try.underlying22 Try.underlying5 Try.underlying9 (hS_ _ _ _ hrc88_)
              have hcv89 := Kd.C_string (P := Try.prog) (A := Ao33) (c := co33) Try.underlying22 Try.underlying5 Try.underlying9 (hS_ _ _ _ hrc89_)
              have hcv90 := Kd.C_string (P := Try.prog) (A := Ao30) (c := co30) Try.underlying22 Try.underlying5 Try.underlying9 (hS_ _ _ _ hrc90_)
              have hcv91 := Kd.C_string (P := Try.prog) (A := A303) (c := c303) Try.underlying22 Try.underlying5 Try.underlying9 (hS_ _ _ _ hrc91_)
              have hcv92 := Kd.C_string (P := Try.prog) (A := A307) (c := c307) Try.underlying22 Try.underlying5 Try.underlying9 (hS_ _ _ _ hrc92_)
              go_simp
              with_reducible rfl
             rotate_left
             ·simp only [Act.put, HW.LA, HW.LZ, HW.LS, i64_w, i32_w]
              rfl
             refine pure_ (i := 10) (N := some 120) (v := ?_) (a' := ?_) #[true, true, true, true, true, true, true, true, true, true, true, false, false, false, false, false, false, false, false, false, false, false, false, false, false] rfl rfl (any_of HT_.out (by kernel_rfl)) (fun _ _ _ h => h) (Or.inl ⟨by rfl, ?_⟩) ?_ ?_
             rotate_left
             ·intro w'
              go_simp
              with_reducible rfl
             rotate_left
             ·simp only [Act.put, HW.LA, HW.LZ, HW.LS, i64_w, i32_w]
              rfl
             refine pure_ (i := 11) (N := some 121) (v := ?_) (a' := ?_) #[true, true, true, true, true, true, true, true, true, true, true, true, false, false, false, false, false, false, false, false, false, false, false, false, false] rfl rfl (any_of HT_.out (by kernel_rfl)) (fun _ _ _ h => h) (Or.inl ⟨by rfl, ?_⟩) ?_ ?_
             rotate_left
             ·intro w'
              go_simp
              with_reducible rfl
             rotate_left
             ·simp only [Act.put, HW.LA, HW.LZ, HW.LS, i64_w, i32_w]
              rfl
             refine take_ (i := 12) (N := some 122) (v := ?_) (a' := ?_) #[true, true, true, true, true, true, true, true, true, true, true, true, true, false, false, false, false, false, false, false, false, false, false, false, false] rfl rfl (take_ofW HT_.out HW_.out (by kernel_rfl)) (fun _ _ _ h => h) (Or.inl ⟨by rfl, ?_⟩) hHeld ?_ ?_
             rotate_left
             ·intro w' hS_
              have hcv87 := Kd.C_string (P := Try.prog) (A := Ao33) (c := co33) Try.underlying22 Try.underlying5 Try.underlying9 (hS_ _ _ _ hrc87_)
              have hcv88 := Kd.C_string (P := Try.prog) (A := Ao30) (c := co30) Try.underlying22 Try.underlying5 Try.underlying9 (hS_ _ _ _ hrc88_)
              have hcv89 := Kd.C_string (P := Try.prog) (A := Ao33) (c := co33) Try.underlying22 Try.underlying5 Try.underlying9 (hS_ _ _ _ hrc89_)
              have hcv90 := Kd.C_string (P := Try.prog) (A := Ao30) (c := co30) Try.underlying22 Try.underlying5 Try.underlying9 (hS_ _ _ _ hrc90_)
              have hcv91 := Kd.C_string (P := Try.prog) (A := A303) (c := c303) Try.underlying22 Try.underlying5 Try.underlying9 (hS_ _ _ _ hrc91_)
              have hcv92 := Kd.C_string (P := Try.prog) (A := A307) (c := c307) Try.underlying22 Try.underlying5 Try.underlying9 (hS_ _ _ _ hrc92_)
              go_simp
              with_reducible rfl
             rotate_left
             ·simp only [Act.put, HW.LA, HW.LZ, HW.LS, i64_w, i32_w]
              rfl
             refine pure_ (i := 13) (N := some 123) (v := ?_) (a' := ?_) #[true, true, true, true, true, true, true, true, true, true, true, true, true, true, false, false, false, false, false, false, false, false, false, false, false] rfl rfl (any_of HT_.out (by kernel_rfl)) (fun _ _ _ h => h) (Or.inl ⟨by rfl, ?_⟩) ?_ ?_
             rotate_left
             ·intro w'
              go_simp
              with_reducible rfl
             rotate_left
             ·simp only [Act.put, HW.LA, HW.LZ, HW.LS, i64_w, i32_w]
              rfl
             refine pure_ (i := 14) (N := some 124) (v := ?_) (a' := ?_) #[true, true, true, true, true, true, true, true, true, true, true, true, true, true, true, false, false, false, false, false, false, false, false, false, false] rfl rfl (any_of HT_.out (by kernel_rfl)) (fun _ _ _ h => h) (Or.inl ⟨by rfl, ?_⟩) ?_ ?_
             rotate_left
             ·intro w'
              go_simp
              with_reducible rfl
             rotate_left
             ·simp only [Act.put, HW.LA, HW.LZ, HW.LS, i64_w, i32_w]
              rfl
             refine pure_ (i := 15) (N := some 125) (v := ?_) (a' := ?_) #[true, true, true, true, true, true, true, true, true, true, true, true, true, true, true, true, false, false, false, false, false, false, false, false, false] rfl rfl (any_of HT_.out (by kernel_rfl)) (fun _ _ _ h => h) (Or.inl ⟨by rfl, ?_⟩) ?_ ?_
             rotate_left
             ·intro w'
              go_simp
              with_reducible rfl
             rotate_left
             ·simp only [Act.put, HW.LA, HW.LZ, HW.LS, i64_w, i32_w]
              rfl
             refine pure_ (i := 16) (N := some 126) (v := ?_) (a' := ?_) #[true, true, true, true, true, true, true, true, true, true, true, true, true, true, true, true, true, false, false, false, false, false, false, false, false] rfl rfl (any_of HT_.out (by kernel_rfl)) (fun _ _ _ h => h) (Or.inl ⟨by rfl, ?_⟩) ?_ ?_
             rotate_left
             ·intro w'
              go_simp
              with_reducible rfl
             rotate_left
             ·simp only [Act.put, HW.LA, HW.LZ, HW.LS, i64_w, i32_w]
              rfl
             refine take_ (i := 17) (N := some 127) (v := ?_) (a' := ?_) #[true, true, true, true, true, true, true, true, true, true, true, true, true, true, true, true, true, true, false, false, false, false, false, false, false] rfl rfl (take_ofW HT_.out HW_.out (by kernel_rfl)) (fun _ _ _ h => h) (Or.inl ⟨by rfl, ?_⟩) hHeld ?_ ?_
             rotate_left
             ·intro w' hS_
              have hcv87 := Kd.C_string (P := Try.prog) (A := Ao33) (c := co33) Try.underlying22 Try.underlying5 Try.underlying9 (hS_ _ _ _ hrc87_)
              have hcv88 := Kd.C_string (P := Try.prog) (A := Ao30) (c := co30) Try.underlying22 Try.underlying5 Try.underlying9 (hS_ _ _ _ hrc88_)
              have hcv89 := Kd.C_string (P := Try.prog) (A := Ao33) (c := co33) Try.underlying22 Try.underlying5 Try.underlying9 (hS_ _ _ _ hrc89_)
              have hcv90 := Kd.C_string (P := Try.prog) (A := Ao30) (c := co30) Try.underlying22 Try.underlying5 Try.underlying9 (hS_ _ _ _ hrc90_)
              have hcv91 := Kd.C_string (P := Try.prog) (A := A303) (c := c303) Try.underlying22 Try.underlying5 Try.underlying9 (hS_ _ _ _ hrc91_)
              have hcv92 := Kd.C_string (P := Try.prog) (A := A307) (c := c307) Try.underlying22 Try.underlying5 Try.underlying9 (hS_ _ _ _ hrc92_)
              go_simp
              with_reducible rfl
             rotate_left
             ·simp only [Act.put, HW.LA, HW.LZ, HW.LS, i64_w, i32_w]
              rfl
             refine pure_ (i := 18) (N := some 128) (v := ?_) (a' := ?_) #[true, true, true, true, true, true, true, true, true, true, true, true, true, true, true, true, true, true, true, false, false, false, false, false, false] rfl rfl (any_of HT_.out (by kernel_rfl)) (fun _ _ _ h => h) (Or.inl ⟨by rfl, ?_⟩) ?_ ?_
             rotate_left
             ·intro w'
              go_simp
              with_reducible rfl
             rotate_left
             ·simp only [Act.put, HW.LA, HW.LZ, HW.LS, i64_w, i32_w]
              rfl
             refine pure_ (i := 19) (N := some 129) (v := ?_) (a' := ?_) #[true, true, true, true, true, true, true, true, true, true, true, true, true, true, true, true, true, true, true, true, false, false, false, false, false] rfl rfl (any_of HT_.out (by kernel_rfl)) (fun _ _ _ h => h) (Or.inl ⟨by rfl, ?_⟩) ?_ ?_
             rotate_left
             ·intro w'
              go_simp
              with_reducible rfl
             rotate_left
             ·simp only [Act.put, HW.LA, HW.LZ, HW.LS, i64_w, i32_w]
              rfl
             refine take_ (i := 20) (N := some 130) (v := ?_) (a' := ?_) #[true, true, true, true, true, true, true, true, true, true, true, true, true, true, true, true, true, true, true, true, true, false, false, false, false] rfl rfl (take_ofW HT_.out HW_.out (by kernel_rfl)) (fun _ _ _ h => h) (Or.inl ⟨by rfl, ?_⟩) hHeld ?_ ?_
             rotate_left
             ·intro w' hS_
              have hcv87 := Kd.C_string (P := Try.prog) (A := Ao33) (c := co33) Try.underlying22 Try.underlying5 Try.underlying9 (hS_ _ _ _ hrc87_)
              have hcv88 := Kd.C_string (P := Try.prog) (A := Ao30) (c := co30) Try.underlying22 Try.underlying5 Try.underlying9 (hS_ _ _ _ hrc88_)
              have hcv89 := Kd.C_string (P := Try.prog) (A := Ao33) (c := co33) Try.underlying22 Try.underlying5 Try.underlying9 (hS_ _ _ _ hrc89_)
              have hcv90 := Kd.C_string (P := Try.prog) (A := Ao30) (c := co30) Try.underlying22 Try.underlying5 Try.underlying9 (hS_ _ _ _ hrc90_)
              have hcv91 := Kd.C_string (P := Try.prog) (A := A303) (c := c303) Try.underlying22 Try.underlying5 Try.underlying9 (hS_ _ _ _ hrc91_)
              have hcv92 := Kd.C_string (P := Try.prog) (A := A307) (c := c307) Try.underlying22 Try.underlying5 Try.underlying9 (hS_ _ _ _ hrc92_)
              go_simp
              with_reducible rfl
             rotate_left
             ·simp only [Act.put, HW.LA, HW.LZ, HW.LS, i64_w, i32_w]
              rfl
             refine pure_ (i := 21) (N := some 131) (v := ?_) (a' := ?_) #[true, true, true, true, true, true, true, true, true, true, true, true, true, true, true, true, true, true, true, true, true, true, false, false, false] rfl rfl (any_of HT_.out (by kernel_rfl)) (fun _ _ _ h => h) (Or.inl ⟨by rfl, ?_⟩) ?_ ?_
             rotate_left
             ·intro w'
              go_simp
              with_reducible rfl
             rotate_left
             ·simp only [Act.put, HW.LA, HW.LZ, HW.LS, i64_w, i32_w]
              rfl
             refine pure_ (i := 22) (N := some 132) (v := ?_) (a' := ?_) #[true, true, true, true, true, true, true, true, true, true, true, true, true, true, true, true, true, true, true, true, true, true, true, false, false] rfl rfl (any_of HT_.out (by kernel_rfl)) (fun _ _ _ h => h) (Or.inl ⟨by rfl, ?_⟩) ?_ ?_
             rotate_left
             ·intro w'
              go_simp
              with_reducible rfl
             rotate_left
             ·simp only [Act.put, HW.LA, HW.LZ, HW.LS, i64_w, i32_w]
              rfl
             refine pure_ (i := 23) (N := some 15) (v := ?_) (a' := ?_) #[true, true, true, true, true, true, true, true, true, true, true, true, true, true, true, true, true, true, true, true, true, true, true, true, false] rfl rfl (any_of HT_.out (by kernel_rfl)) (fun _ _ _ h => h) (Or.inl ⟨by rfl, ?_⟩) ?_ ?_
             rotate_left
             ·intro w'
              go_simp
              with_reducible rfl
             rotate_left
             ·simp only [Act.put, HW.LA, HW.LZ, HW.LS, i64_w, i32_w]
              rfl
             refine pure_ (i := 24) (N := some 16) (v := ?_) (a' := ?_) #[true, true, true, true, true, true, true, true, true, true, true, true, true, true, true, true, true, true, true, true, true, true, true, true, true] rfl rfl (any_of HT_.out (by kernel_rfl)) (fun _ _ _ h => h) (Or.inl ⟨by rfl, ?_⟩) ?_ ?_
             rotate_left
             ·intro w'
              go_simp
              with_reducible rfl
             rotate_left
             ·simp only [Act.put, HW.LA, HW.LZ, HW.LS, i64_w, i32_w]
              rfl
             refine done_ (done_of HT_.out (by kernel_rfl)) ?_
             try go_wp2
             go_meet
             case rel => exact ⟨_, (((strOfNums y284).toList == (strOfNums y288).toList)), (((strOfNums y300).toList == (strOfNums y304).toList)), (by first | rfl | (simp; done) | (simp [*]; done)), (by first | rfl | (simp; done) | (simp [*]; done)), H', ⟨by have := HJ6.out; have := HJ25.out; have := HJ57.out; first | omega | exact Nat.le_refl _⟩, ⟨by (try simp only [hl10_25]); (with_reducible repeat (first | apply Kd.R_alloc | apply Kd.R_drewN | apply Kd.R_drew)); exact HO_8.out⟩, ⟨by (try simp only [hl10_25]); (with_reducible repeat (first | apply Kd.R_alloc | apply Kd.R_drewN | apply Kd.R_drew)); first | exact HO_10.out | exact Kd.R_mono HO_10.out (fun _ hk => ⟨hk.2.2, ⟨hk.1, hk.2.1⟩⟩) | exact Kd.R_mono HO_10.out (fun _ hk => HW.two_of hk)⟩, ⟨by (try simp only [hl10_25]); (with_reducible repeat (first | apply Kd.R_alloc | apply Kd.R_drewN | apply Kd.R_drew)); first | exact HO_259001.out | exact Kd.R_mono HO_259001.out (fun _ hk => ⟨hk.2.2, ⟨hk.1, hk.2.1⟩⟩) | exact Kd.R_mono HO_259001.out (fun _ hk => HW.two_of hk)⟩, ⟨by (try simp only [hl10_25]); (with_reducible repeat (first | apply Kd.R_alloc | apply Kd.R_drewN | apply Kd.R_drew)); first | exact HO_283001.out | exact Kd.R_mono HO_283001.out (fun _ hk => ⟨hk.2.2, ⟨hk.1, hk.2.1⟩⟩) | exact Kd.R_mono HO_283001.out (fun _ hk => HW.two_of hk)⟩, ⟨by (try simp only [hl10_25]); (with_reducible repeat (first | refine blk_drewN ?_ _ | refine blk_drew ?_ | refine blk_alloc ?_ _)); exact BK258.out⟩, ⟨by (try simp only [hl10_25]); (with_reducible repeat (first | refine blk_drewN ?_ _ | refine blk_drew ?_ | refine blk_alloc ?_ _)); exact BK259.out⟩, ⟨by (try simp only [hl10_25]); (with_reducible repeat (first | refine blk_drewN ?_ _ | refine blk_drew ?_ | refine blk_alloc ?_ _)); exact BK282.out⟩, ⟨by repeat (first | (with_reducible first | exact HB.out | apply below_alloc | apply pw_below_drewN | apply below_drew1 | refine below_set ?_ GE258.out | refine below_set ?_ GE259.out | refine below_set ?_ GE282.out) | exact HB.out)⟩⟩
            ·rw [if_neg c77] at H
             have c77b0 : ((strOfNums y292).toList == (strOfNums y296).toList) = false := beq_eq_false_iff_ne.mpr c77
             have c77b1 : ((strOfNums y292).toList != (strOfNums y296).toList) = true := bne_iff_ne.mpr c77
             (first | rw [c77b0] | (simp only [i64_w, i32_w]; rw [c77b0]) | skip)
             have H' := Aside0.mk H
             clear H
             try go_wp2
             have n0_ := Aside0.mk (Kd.R_drew HO_8.out)
             have n1_ := Aside0.mk (Kd.R_drew HO_10.out)
             have n2_ := Aside0.mk (Kd.R_drew HO_259001.out)
             have n3_ := Aside0.mk (Kd.R_drew HO_283001.out)
             have n4_ := Aside0.mk (blk_drew BK258.out)
             have n5_ := Aside0.mk (blk_drew BK259.out)
             have n6_ := Aside0.mk (blk_drew BK282.out)
             have n7_ := Aside0.mk (below_drew1 HB.out)
             clear HO_8
             clear HO_10
             clear HO_259001
             clear HO_283001
             clear BK258
             clear BK259
             clear BK282
             clear HB
             have HO_8 := n0_
             have HO_10 := n1_
             have HO_259001 := n2_
             have HO_283001 := n3_
             have BK258 := n4_
             have BK259 := n5_
             have BK282 := n6_
             have HB := n7_
             clear n0_ n1_ n2_ n3_ n4_ n5_ n6_ n7_
             have q97 : (14 : Int) ≤ ((x10_25.length : Int) : Int) := of_decide_eq_true (by first | (with_reducible assumption) | assumption)
             obtain ⟨i097, hi097, _, hsz97, _⟩ := info_parts info5
             have hroom97 : x10_25.length ≤ co33 := (Kd.R_reads' HO_10.out).2.1
             have hC97 : Kd.C (Kd.int .u8) _ Ao33 x10_25.length x10_25 := (Kd.R_reads' HO_10.out).2.2
             (try clear hcut83); have hcut97 := cut_to (P := Try.prog) 22 5 .i64 Try.underlying22 hi097 Ao33 x10_25.length co33 14 (by omega) q97 hroom97
             have hr97 := Kd.C_take (m := 14) hC97 (by omega)
             have hy97 : y284.length = (14 : Int).toNat := (by rw [Ny284.out, List.length_take]; omega)
             rw [← Ny284.out] at hr97
             rw [← hy97] at hcut97
             have HR287 := Aside0.mk hr97
             have HC287 := Aside0.mk (show y284.length ≤ co33 from by omega)
             clear hr97 hC97 hroom97 hi097 hsz97
             have KY97 := Aside0.mk hy97
             clear hy97
             have KL97 := Aside0.mk (show 14 ≤ x10_25.length from by omega)
             replace q97 := eq_true q97
             have q98 : (14 : Int) ≤ ((t265.length : Int) : Int) := of_decide_eq_true (by first | (with_reducible assumption) | assumption)
             obtain ⟨i098, hi098, _, hsz98, _⟩ := info_parts info5
             have hroom98 : t265.length ≤ co30 := (Kd.R_reads' HO_8.out).2.1
             have hC98 : Kd.C (Kd.int .u8) _ Ao30 t265.length t265 := (Kd.R_reads' HO_8.out).2.2
             (try clear hcut84); have hcut98 := cut_to (P := Try.prog) 22 5 .i64 Try.underlying22 hi098 Ao30 t265.length co30 14 (by omega) q98 hroom98
             have hr98 := Kd.C_take (m := 14) hC98 (by omega)
             have hy98 : y288.length = (14 : Int).toNat := (by rw [Ny288.out, List.length_take]; omega)
             rw [← Ny288.out] at hr98
             rw [← hy98] at hcut98
             have HR291 := Aside0.mk hr98
             have HC291 := Aside0.mk (show y288.length ≤ co30 from by omega)
             clear hr98 hC98 hroom98 hi098 hsz98
             have KY98 := Aside0.mk hy98
             clear hy98
             have KL98 := Aside0.mk (show 14 ≤ t265.length from by omega)
             replace q98 := eq_true q98
             have q99 : (2 : Int) ≤ ((x10_25.length : Int) : Int) := of_decide_eq_true (by first | (with_reducible assumption) | assumption)
             obtain ⟨i099, hi099, _, hsz99, _⟩ := info_parts info5
             have hroom99 : x10_25.length ≤ co33 := (Kd.R_reads' HO_10.out).2.1
             have hC99 : Kd.C (Kd.int .u8) _ Ao33 x10_25.length x10_25 := (Kd.R_reads' HO_10.out).2.2
             (try clear hcut85); have hcut99 := cut_to (P := Try.prog) 22 5 .i64 Try.underlying22 hi099 Ao33 x10_25.length co33 2 (by omega) q99 hroom99
             have hr99 := Kd.C_take (m := 2) hC99 (by omega)
             have hy99 : y292.length = (2 : Int).toNat := (by rw [Ny292.out, List.length_take]; omega)
             rw [← Ny292.out] at hr99
             rw [← hy99] at hcut99
             have HR295 := Aside0.mk hr99
             have HC295 := Aside0.mk (show y292.length ≤ co33 from by omega)
             clear hr99 hC99 hroom99 hi099 hsz99
             have KY99 := Aside0.mk hy99
             clear hy99
             have KL99 := Aside0.mk (show 2 ≤ x10_25.length from by omega)
             replace q99 := eq_true q99
             have q100 : (2 : Int) ≤ ((t265.length : Int) : Int) := of_decide_eq_true (by first | (with_reducible assumption) | assumption)
             obtain ⟨i0100, hi0100, _, hsz100, _⟩ := info_parts info5
             have hroom100 : t265.length ≤ co30 := (Kd.R_reads' HO_8.out).2.1
             have hC100 : Kd.C (Kd.int .u8) _ Ao30 t265.length t265 := (Kd.R_reads' HO_8.out).2.2
             (try clear hcut86); have hcut100 := cut_to (P := Try.prog) 22 5 .i64 Try.underlying22 hi0100 Ao30 t265.length co30 2 (by omega) q100 hroom100
             have hr100 := Kd.C_take (m := 2) hC100 (by omega)
             have hy100 : y296.length = (2 : Int).toNat := (by rw [Ny296.out, List.length_take]; omega)
             rw [← Ny296.out] at hr100
             rw [← hy100] at hcut100
             have HR299 := Aside0.mk hr100
             have HC299 := Aside0.mk (show y296.length ≤ co30 from by omega)
             clear hr100 hC100 hroom100 hi0100 hsz100
             have KY100 := Aside0.mk hy100
             clear hy100
             have KL100 := Aside0.mk (show 2 ≤ t265.length from by omega)
             replace q100 := eq_true q100
             have hrc101_ := HW.keepC (w := wc.drew) (by repeat (first | (with_reducible exact HR287.out) | (with_reducible refine Kd.C_alloc ?_ _) | (with_reducible refine Kd.C_drewN ?_ _) | (with_reducible refine Kd.C_drew ?_) | exact HR287.out))
             have hrc102_ := HW.keepC (w := wc.drew) (by repeat (first | (with_reducible exact HR291.out) | (with_reducible refine Kd.C_alloc ?_ _) | (with_reducible refine Kd.C_drewN ?_ _) | (with_reducible refine Kd.C_drew ?_) | exact HR291.out))
             have hrc103_ := HW.keepC (w := wc.drew) (by repeat (first | (with_reducible exact HR295.out) | (with_reducible refine Kd.C_alloc ?_ _) | (with_reducible refine Kd.C_drewN ?_ _) | (with_reducible refine Kd.C_drew ?_) | exact HR295.out))
             have hrc104_ := HW.keepC (w := wc.drew) (by repeat (first | (with_reducible exact HR299.out) | (with_reducible refine Kd.C_alloc ?_ _) | (with_reducible refine Kd.C_drewN ?_ _) | (with_reducible refine Kd.C_drew ?_) | exact HR299.out))
             refine start_ (n := 25) (S := fun w' => ∀ (A_ : Option Addr) (n_ : Nat) (x_ : List Int), Kd.C (Kd.int .u8) wc.drew A_ n_ x_ → Kd.C (Kd.int .u8) w' A_ n_ x_) (ds := []) #[false, false, false, false, false, false, false, false, false, false, false, false, false, false, false, false, false, false, false, false, false, false, false, false, false] (by kernel_rfl) rfl rfl (fun _ _ _ h_ => h_) (fun hHeld => ?_); refine with_tabW phaetonlaw24_ImageBurst.tab17 phaetonlaw24_ImageBurst.bits17 (fun HT_ HW_ => ?_)
             generalize wc.drew = w96 at HO_8 HO_10 HO_259001 HO_283001 BK258 BK259 BK282 HB HR287 HR291 HR295 HR299 hrc101_ hrc102_ hrc103_ hrc104_ hHeld ⊢
             refine pure_ (i := 0) (N := some 110) (v := ?_) (a' := ?_) #[true, false, false, false, false, false, false, false, false, false, false, false, false, false, false, false, false, false, false, false, false, false, false, false, false] rfl rfl (any_of HT_.out (by kernel_rfl)) (fun _ _ _ h => h) (Or.inl ⟨by rfl, ?_⟩) ?_ ?_
             rotate_left
             ·intro w'
              go_simp
              with_reducible rfl
             rotate_left
             ·simp only [Act.put, HW.LA, HW.LZ, HW.LS, i64_w, i32_w]
              rfl
             refine pure_ (i := 1) (N := some 111) (v := ?_) (a' := ?_) #[true, true, false, false, false, false, false, false, false, false, false, false, false, false, false, false, false, false, false, false, false, false, false, false, false] rfl rfl (any_of HT_.out (by kernel_rfl)) (fun _ _ _ h => h) (Or.inl ⟨by rfl, ?_⟩) ?_ ?_
             rotate_left
             ·intro w'
              go_simp
              with_reducible rfl
             rotate_left
             ·simp only [Act.put, HW.LA, HW.LZ, HW.LS, i64_w, i32_w]
              rfl
             refine take_ (i := 2) (N := some 112) (v := ?_) (a' := ?_) #[true, true, true, false, false, false, false, false, false, false, false, false, false, false, false, false, false, false, false, false, false, false, false, false, false] rfl rfl (take_ofW HT_.out HW_.out (by kernel_rfl)) (fun _ _ _ h => h) (Or.inl ⟨by rfl, ?_⟩) hHeld ?_ ?_
             rotate_left
             ·intro w' hS_
              have hcv101 := Kd.C_string (P := Try.prog) (A := Ao33) (c := co33) Try.underlying22 Try.underlying5 Try.underlying9 (hS_ _ _ _ hrc101_)
              have hcv102 := Kd.C_string (P := Try.prog) (A := Ao30) (c := co30) Try.underlying22 Try.underlying5 Try.underlying9 (hS_ _ _ _ hrc102_)
              have hcv103 := Kd.C_string (P := Try.prog) (A := Ao33) (c := co33) Try.underlying22 Try.underlying5 Try.underlying9 (hS_ _ _ _ hrc103_)
              have hcv104 := Kd.C_string (P := Try.prog) (A := Ao30) (c := co30) Try.underlying22 Try.underlying5 Try.underlying9 (hS_ _ _ _ hrc104_)
              go_simp
              with_reducible rfl
             rotate_left
             ·simp only [Act.put, HW.LA, HW.LZ, HW.LS, i64_w, i32_w]
              rfl
             refine pure_ (i := 3) (N := some 113) (v := ?_) (a' := ?_) #[true, true, true, true, false, false, false, false, false, false, false, false, false, false, false, false, false, false, false, false, false, false, false, false, false] rfl rfl (any_of HT_.out (by kernel_rfl)) (fun _ _ _ h => h) (Or.inl ⟨by rfl, ?_⟩) ?_ ?_
             rotate_left
             ·intro w'
              go_simp
              with_reducible rfl
             rotate_left
             ·simp only [Act.put, HW.LA, HW.LZ, HW.LS, i64_w, i32_w]
              rfl
             refine pure_ (i := 4) (N := some 114) (v := ?_) (a' := ?_) #[true, true, true, true, true, false, false, false, false, false, false, false, false, false, false, false, false, false, false, false, false, false, false, false, false] rfl rfl (any_of HT_.out (by kernel_rfl)) (fun _ _ _ h => h) (Or.inl ⟨by rfl, ?_⟩) ?_ ?_
             rotate_left
             ·intro w'
              go_simp
              with_reducible rfl
             rotate_left
             ·simp only [Act.put, HW.LA, HW.LZ, HW.LS, i64_w, i32_w]
              rfl
             refine take_ (i := 5) (N := some 115) (v := ?_) (a' := ?_) #[true, true, true, true, true, true, false, false, false, false, false, false, false, false, false, false, false, false, false, false, false, false, false, false, false] rfl rfl (take_ofW HT_.out HW_.out (by kernel_rfl)) (fun _ _ _ h => h) (Or.inl ⟨by rfl, ?_⟩) hHeld ?_ ?_
             rotate_left
             ·intro w' hS_
              have hcv101 := Kd.C_string (P := Try.prog) (A := Ao33) (c := co33) Try.underlying22 Try.underlying5 Try.underlying9 (hS_ _ _ _ hrc101_)
              have hcv102 := Kd.C_string (P := Try.prog) (A := Ao30) (c := co30) Try.underlying22 Try.underlying5 Try.underlying9 (hS_ _ _ _ hrc102_)
              have hcv103 := Kd.C_string (P := Try.prog) (A := Ao33) (c := co33) Try.underlying22 Try.underlying5 Try.underlying9 (hS_ _ _ _ hrc103_)
              have hcv104 := Kd.C_string (P := Try.prog) (A := Ao30) (c := co30) Try.underlying22 Try.underlying5 Try.underlying9 (hS_ _ _ _ hrc104_)
              go_simp
              with_reducible rfl
             rotate_left
             ·simp only [Act.put, HW.LA, HW.LZ, HW.LS, i64_w, i32_w]
              rfl
             refine pure_ (i := 6) (N := some 116) (v := ?_) (a' := ?_) #[true, true, true, true, true, true, true, false, false, false, false, false, false, false, false, false, false, false, false, false, false, false, false, false, false] rfl rfl (any_of HT_.out (by kernel_rfl)) (fun _ _ _ h => h) (Or.inl ⟨by rfl, ?_⟩) ?_ ?_
             rotate_left
             ·intro w'
              go_simp
              with_reducible rfl
             rotate_left
             ·simp only [Act.put, HW.LA, HW.LZ, HW.LS, i64_w, i32_w]
              rfl
             refine pure_ (i := 7) (N := some 117) (v := ?_) (a' := ?_) #[true, true, true, true, true, true, true, true, false, false, false, false, false, false, false, false, false, false, false, false, false, false, false, false, false] rfl rfl (any_of HT_.out (by kernel_rfl)) (fun _ _ _ h => h) (Or.inl ⟨by rfl, ?_⟩) ?_ ?_
             rotate_left
             ·intro w'
              go_simp
              with_reducible rfl
             rotate_left
             ·simp only [Act.put, HW.LA, HW.LZ, HW.LS, i64_w, i32_w]
              rfl
             refine pure_ (i := 8) (N := some 118) (v := ?_) (a' := ?_) #[true, true, true, true, true, true, true, true, true, false, false, false, false, false, false, false, false, false, false, false, false, false, false, false, false] rfl rfl (any_of HT_.out (by kernel_rfl)) (fun _ _ _ h => h) (Or.inl ⟨by rfl, ?_⟩) ?_ ?_
             rotate_left
             ·intro w'
              go_simp
              with_reducible rfl
             rotate_left
             ·simp only [Act.put, HW.LA, HW.LZ, HW.LS, i64_w, i32_w]
              rfl
             refine take_ (i := 9) (N := some 119) (v := ?_) (a' := ?_) #[true, true, true, true, true, true, true, true, true, true, false, false, false, false, false, false, false, false, false, false, false, false, false, false, false] rfl rfl (take_ofW HT_.out HW_.out (by kernel_rfl)) (fun _ _ _ h => h) (Or.inl ⟨by rfl, ?_⟩) hHeld ?_ ?_
             rotate_left
             ·intro w' hS_
              have hcv101 := Kd.C_string (P := Try.prog) (A := Ao33) (c := co33) Try.underlying22 Try.underlying5 Try.underlying9 (hS_ _ _ _ hrc101_)
              have hcv102 := Kd.C_string (P := Try.prog) (A := Ao30) (c := co30) Try.underlying22 Try.underlying5 Try.underlying9 (hS_ _ _ _ hrc102_)
              have hcv103 := Kd.C_string (P := Try.prog) (A := Ao33) (c := co33) Try.underlying22 Try.underlying5 Try.underlying9 (hS_ _ _ _ hrc103_)
              have hcv104 := Kd.C_string (P := Try.prog) (A := Ao30) (c := co30) Try.underlying22 Try.underlying5 Try.underlying9 (hS_ _ _ _ hrc104_)
              go_simp
              with_reducible rfl
             rotate_left
             ·simp only [Act.put, HW.LA, HW.LZ, HW.LS, i64_w, i32_w]
              rfl
             refine pure_ (i := 10) (N := some 120) (v := ?_) (a' := ?_) #[true, true, true, true, true, true, true, true, true, true, true, false, false, false, false, false, false, false, false, false, false, false, false, false, false] rfl rfl (any_of HT_.out (by kernel_rfl)) (fun _ _ _ h => h) (Or.inl ⟨by rfl, ?_⟩) ?_ ?_
             rotate_left
             ·intro w'
              go_simp
              with_reducible rfl
             rotate_left
             ·simp only [Act.put, HW.LA, HW.LZ, HW.LS, i64_w, i32_w]
              rfl
             refine pure_ (i := 11) (N := some 121) (v := ?_) (a' := ?_) #[true, true, true, true, true, true, true, true, true, true, true, true, false, false, false, false, false, false, false, false, false, false, false, false, false] rfl rfl (any_of HT_.out (by kernel_rfl)) (fun _ _ _ h => h) (Or.inl ⟨by rfl, ?_⟩) ?_ ?_
             rotate_left
             ·intro w'
              go_simp
              with_reducible rfl
             rotate_left
             ·simp only [Act.put, HW.LA, HW.LZ, HW.LS, i64_w, i32_w]
              rfl
             refine take_ (i := 12) (N := some 122) (v := ?_) (a' := ?_) #[true, true, true, true, true, true, true, true, true, true, true, true, true, false, false, false, false, false, false, false, false, false, false, false, false] rfl rfl (take_ofW HT_.out HW_.out (by kernel_rfl)) (fun _ _ _ h => h) (Or.inl ⟨by rfl, ?_⟩) hHeld ?_ ?_
             rotate_left
             ·intro w' hS_
              have hcv101 := Kd.C_string (P := Try.prog) (A := Ao33) (c := co33) Try.underlying22 Try.underlying5 Try.underlying9 (hS_ _ _ _ hrc101_)
              have hcv102 := Kd.C_string (P := Try.prog) (A := Ao30) (c := co30) Try.underlying22 Try.underlying5 Try.underlying9 (hS_ _ _ _ hrc102_)
              have hcv103 := Kd.C_string (P := Try.prog) (A := Ao33) (c := co33) Try.underlying22 Try.underlying5 Try.underlying9 (hS_ _ _ _ hrc103_)
              have hcv104 := Kd.C_string (P := Try.prog) (A := Ao30) (c := co30) Try.underlying22 Try.underlying5 Try.underlying9 (hS_ _ _ _ hrc104_)
              go_simp
              with_reducible rfl
             rotate_left
             ·simp only [Act.put, HW.LA, HW.LZ, HW.LS, i64_w, i32_w]
              rfl
             refine pure_ (i := 13) (N := some 123) (v := ?_) (a' := ?_) #[true, true, true, true, true, true, true, true, true, true, true, true, true, true, false, false, false, false, false, false, false, false, false, false, false] rfl rfl (any_of HT_.out (by kernel_rfl)) (fun _ _ _ h => h) (Or.inl ⟨by rfl, ?_⟩) ?_ ?_
             rotate_left
             ·intro w'
              go_simp
              with_reducible rfl
             rotate_left
             ·simp only [Act.put, HW.LA, HW.LZ, HW.LS, i64_w, i32_w]
              rfl
             refine pure_ (i := 14) (N := some 124) (v := ?_) (a' := ?_) #[true, true, true, true, true, true, true, true, true, true, true, true, true, true, true, false, false, false, false, false, false, false, false, false, false] rfl rfl (any_of HT_.out (by kernel_rfl)) (fun _ _ _ h => h) (Or.inl ⟨by rfl, ?_⟩) ?_ ?_
             rotate_left
             ·intro w'
              go_simp
              with_reducible rfl
             rotate_left
             ·simp only [Act.put, HW.LA, HW.LZ, HW.LS, i64_w, i32_w]
              rfl
             refine pure_ (i := 15) (N := some 125) (v := undef) (a' := ?_) #[true, true, true, true, true, true, true, true, true, true, true, true, true, true, true, true, false, false, false, false, false, false, false, false, false] rfl rfl (any_of HT_.out (by kernel_rfl)) (fun _ _ _ h => h) (Or.inr ⟨by rfl, rfl⟩) ?_ ?_
             rotate_left
             ·simp only [Act.put, HW.LA, HW.LZ, HW.LS, i64_w, i32_w]
              rfl
             refine pure_ (i := 16) (N := some 126) (v := undef) (a' := ?_) #[true, true, true, true, true, true, true, true, true, true, true, true, true, true, true, true, true, false, false, false, false, false, false, false, false] rfl rfl (any_of HT_.out (by kernel_rfl)) (fun _ _ _ h => h) (Or.inr ⟨by rfl, rfl⟩) ?_ ?_
             rotate_left
             ·simp only [Act.put, HW.LA, HW.LZ, HW.LS, i64_w, i32_w]
              rfl
             refine pure_ (i := 17) (N := some 127) (v := undef) (a' := ?_) #[true, true, true, true, true, true, true, true, true, true, true, true, true, true, true, true, true, true, false, false, false, false, false, false, false] rfl rfl (any_of HT_.out (by kernel_rfl)) (fun _ _ _ h => h) (Or.inr ⟨by rfl, rfl⟩) ?_ ?_
             rotate_left
             ·simp only [Act.put, HW.LA, HW.LZ, HW.LS, i64_w, i32_w]
              rfl
             refine pure_ (i := 18) (N := some 128) (v := undef) (a' := ?_) #[true, true, true, true, true, true, true, true, true, true, true, true, true, true, true, true, true, true, true, false, false, false, false, false, false] rfl rfl (any_of HT_.out (by kernel_rfl)) (fun _ _ _ h => h) (Or.inr ⟨by rfl, rfl⟩) ?_ ?_
             rotate_left
             ·simp only [Act.put, HW.LA, HW.LZ, HW.LS, i64_w, i32_w]
              rfl
             refine pure_ (i := 19) (N := some 129) (v := undef) (a' := ?_) #[true, true, true, true, true, true, true, true, true, true, true, true, true, true, true, true, true, true, true, true, false, false, false, false, false] rfl rfl (any_of HT_.out (by kernel_rfl)) (fun _ _ _ h => h) (Or.inr ⟨by rfl, rfl⟩) ?_ ?_
             rotate_left
             ·simp only [Act.put, HW.LA, HW.LZ, HW.LS, i64_w, i32_w]
              rfl
             refine pure_ (i := 20) (N := some 130) (v := undef) (a' := ?_) #[true, true, true, true, true, true, true, true, true, true, true, true, true, true, true, true, true, true, true, true, true, false, false, false, false] rfl rfl (any_of HT_.out (by kernel_rfl)) (fun _ _ _ h => h) (Or.inr ⟨by rfl, rfl⟩) ?_ ?_
             rotate_left
             ·simp only [Act.put, HW.LA, HW.LZ, HW.LS, i64_w, i32_w]
              rfl
             refine pure_ (i := 21) (N := some 131) (v := undef) (a' := ?_) #[true, true, true, true, true, true, true, true, true, true, true, true, true, true, true, true, true, true, true, true, true, true, false, false, false] rfl rfl (any_of HT_.out (by kernel_rfl)) (fun _ _ _ h => h) (Or.inr ⟨by rfl, rfl⟩) ?_ ?_
             rotate_left
             ·simp only [Act.put, HW.LA, HW.LZ, HW.LS, i64_w, i32_w]
              rfl
             refine pure_ (i := 22) (N := some 132) (v := ?_) (a' := ?_) #[true, true, true, true, true, true, true, true, true, true, true, true, true, true, true, true, true, true, true, true, true, true, true, false, false] rfl rfl (any_of HT_.out (by kernel_rfl)) (fun _ _ _ h => h) (Or.inl ⟨by rfl, ?_⟩) ?_ ?_
             rotate_left
             ·intro w'
              go_simp
              with_reducible rfl
             rotate_left
             ·simp only [Act.put, HW.LA, HW.LZ, HW.LS, i64_w, i32_w]
              rfl
             refine pure_ (i := 23) (N := some 15) (v := ?_) (a' := ?_) #[true, true, true, true, true, true, true, true, true, true, true, true, true, true, true, true, true, true, true, true, true, true, true, true, false] rfl rfl (any_of HT_.out (by kernel_rfl)) (fun _ _ _ h => h) (Or.inl ⟨by rfl, ?_⟩) ?_ ?_
             rotate_left
             ·intro w'
              go_simp
              with_reducible rfl
             rotate_left
             ·simp only [Act.put, HW.LA, HW.LZ, HW.LS, i64_w, i32_w]
              rfl
             refine pure_ (i := 24) (N := some 16) (v := ?_) (a' := ?_) #[true, true, true, true, true, true, true, true, true, true, true, true, true, true, true, true, true, true, true, true, true, true, true, true, true] rfl rfl (any_of HT_.out (by kernel_rfl)) (fun _ _ _ h => h) (Or.inl ⟨by rfl, ?_⟩) ?_ ?_
             rotate_left
             ·intro w'
              go_simp
              with_reducible rfl
             rotate_left
             ·simp only [Act.put, HW.LA, HW.LZ, HW.LS, i64_w, i32_w]
              rfl
             refine done_ (done_of HT_.out (by kernel_rfl)) ?_
             try go_wp2
             go_meet
             case rel => exact ⟨_, (((strOfNums y284).toList == (strOfNums y288).toList)), (false), (by first | rfl | (simp; done) | (simp [*]; done)), (by first | rfl | (simp; done) | (simp [*]; done)), H', ⟨by have := HJ6.out; have := HJ25.out; have := HJ57.out; first | omega | exact Nat.le_refl _⟩, ⟨by (try simp only [hl10_25]); (with_reducible repeat (first | apply Kd.R_alloc | apply Kd.R_drewN | apply Kd.R_drew)); exact HO_8.out⟩, ⟨by (try simp only [hl10_25]); (with_reducible repeat (first | apply Kd.R_alloc | apply Kd.R_drewN | apply Kd.R_drew)); first | exact HO_10.out | exact Kd.R_mono HO_10.out (fun _ hk => ⟨hk.2.2, ⟨hk.1, hk.2.1⟩⟩) | exact Kd.R_mono HO_10.out (fun _ hk => HW.two_of hk)⟩, ⟨by (try simp only [hl10_25]); (with_reducible repeat (first | apply Kd.R_alloc | apply Kd.R_drewN | apply Kd.R_drew)); first | exact HO_259001.out | exact Kd.R_mono HO_259001.out (fun _ hk => ⟨hk.2.2, ⟨hk.1, hk.2.1⟩⟩) | exact Kd.R_mono HO_259001.out (fun _ hk => HW.two_of hk)⟩, ⟨by (try simp only [hl10_25]); (with_reducible repeat (first | apply Kd.R_alloc | apply Kd.R_drewN | apply Kd.R_drew)); first | exact HO_283001.out | exact Kd.R_mono HO_283001.out (fun _ hk => ⟨hk.2.2, ⟨hk.1, hk.2.1⟩⟩) | exact Kd.R_mono HO_283001.out (fun _ hk => HW.two_of hk)⟩, ⟨by (try simp only [hl10_25]); (with_reducible repeat (first | refine blk_drewN ?_ _ | refine blk_drew ?_ | refine blk_alloc ?_ _)); exact BK258.out⟩, ⟨by (try simp only [hl10_25]); (with_reducible repeat (first | refine blk_drewN ?_ _ | refine blk_drew ?_ | refine blk_alloc ?_ _)); exact BK259.out⟩, ⟨by (try simp only [hl10_25]); (with_reducible repeat (first | refine blk_drewN ?_ _ | refine blk_drew ?_ | refine blk_alloc ?_ _)); exact BK282.out⟩, ⟨by repeat (first | (with_reducible first | exact HB.out | apply below_alloc | apply pw_below_drewN | apply below_drew1 | refine below_set ?_ GE258.out | refine below_set ?_ GE259.out | refine below_set ?_ GE282.out) | exact HB.out)⟩⟩
           case rest => as_aux_lemma =>
            clear HC72
            try clear q1
            try clear hcv1
            try clear p2
            try clear c3
            try clear c7
            try clear c8
            try clear q8
            try clear hcv8
            try clear q9
            try clear hcv9
            try clear q10
            try clear hcv10
            try clear c30
            try clear c73
            try clear c74
            try clear c75
            try clear c76
            try clear c77
            try clear c77b0
            try clear c77b1
            try clear c78
            try clear c79
            try clear c81
            try clear q83
            try clear q84
            try clear q85
            try clear q86
            try clear hcv87
            try clear hcv88
            try clear hcv89
            try clear hcv90
            try clear hcv91
            try clear hcv92
            try clear q97
            try clear q98
            try clear q99
            try clear q100
            try clear hcv101
            try clear hcv102
            try clear hcv103
            try clear hcv104
            try clear q100
            try clear q83
            try clear q84
            try clear q85
            try clear q86
            try clear q97
            try clear q98
            try clear q99
            obtain ⟨kq, x15_71, x16_71, rfl, rfl, HA, HJ71, HO_8, HO_10, HO_259001, HO_283001, BK258, BK259, BK282, HB⟩ := hcut
            cases kq with
            | zero => exact absurd HA.out (by simp [phaetonlaw24_ImageBurst.j4])
            | succ kj71 =>
             have H := HA.out
             clear HA
             simp only [phaetonlaw24_ImageBurst.j4] at H
             by_cases c106 : 18 ≤ (x10_25.length : Int)
             rotate_left
             ·rw [if_neg c106] at H
              exact absurd H (by simp)
             rw [if_pos c106] at H
             have c106b0 := eq_true c106
             have c106b1 : decide (18 ≤ (x10_25.length : Int)) = true := decide_eq_true c106
             clear c106
             obtain ⟨y308, hy308⟩ : ∃ y_ : List Int, y_ = (x10_25.drop 18) := ⟨_, rfl⟩
             replace H : (if 18 ≤ (t265.length : Int) then ((some (t265.drop 18 : List Int)).bind fun y312 => (if x16_71 = true then (if 2 ≤ 6 then (if 6 ≤ (x10_25.length : Int) then (if 6 ≤ (t265.length : Int) then (if (strOfNums ((x10_25.take 6).drop 2)).toList = (strOfNums ((t265.take 6).drop 2)).toList then (phaetonlaw24_ImageBurst.j5 kj71 t260 x10_25 t281 x15_71 ((strOfNums y308).toList == (strOfNums y312).toList) false) else (if 10 ≤ 14 then (if 14 ≤ (x10_25.length : Int) then (if 14 ≤ (t265.length : Int) then (if (strOfNums ((x10_25.take 14).drop 10)).toList = (strOfNums ((t265.take 14).drop 10)).toList then (phaetonlaw24_ImageBurst.j5 kj71 t260 x10_25 t281 x15_71 ((strOfNums y308).toList == (strOfNums y312).toList) ((strOfNums y308).toList == (strOfNums y312).toList)) else (phaetonlaw24_ImageBurst.j5 kj71 t260 x10_25 t281 x15_71 ((strOfNums y308).toList == (strOfNums y312).toList) false)) else (none)) else (none)) else (none))) else (none)) else (none)) else (none)) else (if t281 = 240 then (if t260 = true then (some true) else (none)) else (none)))) else (none)) = some r := by first | (rw [hy308]; with_reducible exact H) | (have H2_ := (Option.bind_some _ _).symm.trans H; rw [hy308]; with_reducible exact H2_) | (have H2_ := (Option.bind_some _ _).symm.trans H; with_reducible exact H2_) | with_reducible exact H | (rw [hy308]; exact H) | exact H
             have Ny308 := Aside0.mk hy308
             clear hy308
             by_cases c107 : 18 ≤ (t265.length : Int)
             rotate_left
             ·rw [if_neg c107] at H
              exact absurd H (by simp)
             rw [if_pos c107] at H
             have c107b0 := eq_true c107
             have c107b1 : decide (18 ≤ (t265.length : Int)) = true := decide_eq_true c107
             clear c107
             obtain ⟨y312, hy312⟩ : ∃ y_ : List Int, y_ = (t265.drop 18) := ⟨_, rfl⟩
             replace H : (if x16_71 = true then (if 2 ≤ 6 then (if 6 ≤ (x10_25.length : Int) then (if 6 ≤ (t265.length : Int) then (if (strOfNums ((x10_25.take 6).drop 2)).toList = (strOfNums ((t265.take 6).drop 2)).toList then (phaetonlaw24_ImageBurst.j5 kj71 t260 x10_25 t281 x15_71 ((strOfNums y308).toList == (strOfNums y312).toList) false) else (if 10 ≤ 14 then (if 14 ≤ (x10_25.length : Int) then (if 14 ≤ (t265.length : Int) then (if (strOfNums ((x10_25.take 14).drop 10)).toList = (strOfNums ((t265.take 14).drop 10)).toList then (phaetonlaw24_ImageBurst.j5 kj71 t260 x10_25 t281 x15_71 ((strOfNums y308).toList == (strOfNums y312).toList) ((strOfNums y308).toList == (strOfNums y312).toList)) else (phaetonlaw24_ImageBurst.j5 kj71 t260 x10_25 t281 x15_71 ((strOfNums y308).toList == (strOfNums y312).toList) false)) else (none)) else (none)) else (none))) else (none)) else (none)) else (none)) else (if t281 = 240 then (if t260 = true then (some true) else (none)) else (none))) = some r := by first | (rw [hy312]; with_reducible exact H) | (have H2_ := (Option.bind_some _ _).symm.trans H; rw [hy312]; with_reducible exact H2_) | (have H2_ := (Option.bind_some _ _).symm.trans H; with_reducible exact H2_) | with_reducible exact H | (rw [hy312]; exact H) | exact H
             have Ny312 := Aside0.mk hy312
             clear hy312
             by_cases c108 : x16_71 = true
             ·subst c108
              have H1 : (if 2 ≤ 6 then (if 6 ≤ (x10_25.length : Int) then (if 6 ≤ (t265.length : Int) then (if (strOfNums ((x10_25.take 6).drop 2)).toList = (strOfNums ((t265.take 6).drop 2)).toList then (phaetonlaw24_ImageBurst.j5 kj71 t260 x10_25 t281 x15_71 ((strOfNums y308).toList == (strOfNums y312).toList) false) else (if 10 ≤ 14 then (if 14 ≤ (x10_25.length : Int) then (if 14 ≤ (t265.length : Int) then (if (strOfNums ((x10_25.take 14).drop 10)).toList = (strOfNums ((t265.take 14).drop 10)).toList then (phaetonlaw24_ImageBurst.j5 kj71 t260 x10_25 t281 x15_71 ((strOfNums y308).toList == (strOfNums y312).toList) ((strOfNums y308).toList == (strOfNums y312).toList)) else (phaetonlaw24_ImageBurst.j5 kj71 t260 x10_25 t281 x15_71 ((strOfNums y308).toList == (strOfNums y312).toList) false)) else (none)) else (none)) else (none))) else (none)) else (none)) else (none)) = some r := by rw [if_pos rfl] at H; exact H
              clear H
              have H := H1
              clear H1
              have HC109 := Aside0.mk H
              clear H
              try go_wp2
              have n0_ := Aside0.mk (Kd.R_drew HO_8.out)
              have n1_ := Aside0.mk (Kd.R_drew HO_10.out)
              have n2_ := Aside0.mk (Kd.R_drew HO_259001.out)
              have n3_ := Aside0.mk (Kd.R_drew HO_283001.out)
              have n4_ := Aside0.mk (blk_drew BK258.out)
              have n5_ := Aside0.mk (blk_drew BK259.out)
              have n6_ := Aside0.mk (blk_drew BK282.out)
              have n7_ := Aside0.mk (below_drew1 HB.out)
              clear HO_8
              clear HO_10
              clear HO_259001
              clear HO_283001
              clear BK258
              clear BK259
              clear BK282
              clear HB
              have HO_8 := n0_
              have HO_10 := n1_
              have HO_259001 := n2_
              have HO_283001 := n3_
              have BK258 := n4_
              have BK259 := n5_
              have BK282 := n6_
              have HB := n7_
              clear n0_ n1_ n2_ n3_ n4_ n5_ n6_ n7_
              have q111 : (18 : Int) ≤ ((x10_25.length : Int) : Int) := of_decide_eq_true (by first | (with_reducible assumption) | assumption)
              obtain ⟨i0111, hi0111, _, hsz111, _⟩ := info_parts info5
              have hroom111 : x10_25.length ≤ co33 := (Kd.R_reads' HO_10.out).2.1
              have hC111 : Kd.C (Kd.int .u8) _ Ao33 x10_25.length x10_25 := (Kd.R_reads' HO_10.out).2.2
              have hcut111 := cut_from (P := Try.prog) 22 5 .i64 Try.underlying22 hi0111 1 hsz111 Ao33 x10_25.length co33 18 (by omega) q111
              have hr111 := Kd.C_drop (m := (18 : Int).toNat) (c := co33) hC111 (by omega) hroom111
              obtain ⟨A111, hA111⟩ : ∃ A1, A1 = (if co33 = (18 : Int).toNat then Ao33 else (Ao33 : Option Addr).map (·.add ((18 : Int).toNat * 1))) := ⟨_, rfl⟩
              obtain ⟨c111, hc111⟩ : ∃ c1, c1 = co33 - (18 : Int).toNat := ⟨_, rfl⟩
              have hy111 : y308.length = x10_25.length - (18 : Int).toNat := (by rw [Ny308.out, List.length_drop] <;> omega)
              rw [show (x10_25).drop (18 : Int).toNat = y308 from Ny308.out.symm] at hr111
              replace hr111 : Kd.C (Kd.int .u8) _ A111 y308.length y308 := (by rw [hA111]; exact hr111)
              rw [← hy111, ← hA111, ← hc111] at hcut111
              have HR311 := Aside0.mk hr111
              have HC311 := Aside0.mk (show y308.length ≤ c111 from by rw [hy111, hc111]; exact Nat.sub_le_sub_right hroom111 _)
              clear hr111 hC111 hroom111 hi0111 hsz111 hc111
              have KY111 := Aside0.mk hy111
              have KA111 := Aside0.mk hA111
              clear hy111 hA111
              have KL111 := Aside0.mk (show 18 ≤ x10_25.length from by omega)
              replace q111 := eq_true q111
              have q112 : (18 : Int) ≤ ((t265.length : Int) : Int) := of_decide_eq_true (by first | (with_reducible assumption) | assumption)
              obtain ⟨i0112, hi0112, _, hsz112, _⟩ := info_parts info5
              have hroom112 : t265.length ≤ co30 := (Kd.R_reads' HO_8.out).2.1
              have hC112 : Kd.C (Kd.int .u8) _ Ao30 t265.length t265 := (Kd.R_reads' HO_8.out).2.2
              have hcut112 := cut_from (P := Try.prog) 22 5 .i64 Try.underlying22 hi0112 1 hsz112 Ao30 t265.length co30 18 (by omega) q112
              have hr112 := Kd.C_drop (m := (18 : Int).toNat) (c := co30) hC112 (by omega) hroom112
              obtain ⟨A112, hA112⟩ : ∃ A1, A1 = (if co30 = (18 : Int).toNat then Ao30 else (Ao30 : Option Addr).map (·.add ((18 : Int).toNat * 1))) := ⟨_, rfl⟩
              obtain ⟨c112, hc112⟩ : ∃ c1, c1 = co30 - (18 : Int).toNat := ⟨_, rfl⟩
              have hy112 : y312.length = t265.length - (18 : Int).toNat := (by rw [Ny312.out, List.length_drop] <;> omega)
              rw [show (t265).drop (18 : Int).toNat = y312 from Ny312.out.symm] at hr112
              replace hr112 : Kd.C (Kd.int .u8) _ A112 y312.length y312 := (by rw [hA112]; exact hr112)
              rw [← hy112, ← hA112, ← hc112] at hcut112
              have HR315 := Aside0.mk hr112
              have HC315 := Aside0.mk (show y312.length ≤ c112 from by rw [hy112, hc112]; exact Nat.sub_le_sub_right hroom112 _)
              clear hr112 hC112 hroom112 hi0112 hsz112 hc112
              have KY112 := Aside0.mk hy112
              have KA112 := Aside0.mk hA112
              clear hy112 hA112
              have KL112 := Aside0.mk (show 18 ≤ t265.length from by omega)
              replace q112 := eq_true q112
              have hrc113_ := HW.keepC (w := wc.drew) (by repeat (first | (with_reducible exact HR311.out) | (with_reducible refine Kd.C_alloc ?_ _) | (with_reducible refine Kd.C_drewN ?_ _) | (with_reducible refine Kd.C_drew ?_) | exact HR311.out))
              have hrc114_ := HW.keepC (w := wc.drew) (by repeat (first | (with_reducible exact HR315.out) | (with_reducible refine Kd.C_alloc ?_ _) | (with_reducible refine Kd.C_drewN ?_ _) | (with_reducible refine Kd.C_drew ?_) | exact HR315.out))
              refine start_ (n := 8) (S := fun w' => ∀ (A_ : Option Addr) (n_ : Nat) (x_ : List Int), Kd.C (Kd.int .u8) wc.drew A_ n_ x_ → Kd.C (Kd.int .u8) w' A_ n_ x_) (ds := []) #[false, false, false, false, false, false, false, false] (by kernel_rfl) rfl rfl (fun _ _ _ h_ => h_) (fun hHeld => ?_); refine with_tabW phaetonlaw24_ImageBurst.tab18 phaetonlaw24_ImageBurst.bits18 (fun HT_ HW_ => ?_)
              generalize wc.drew = w110 at HO_8 HO_10 HO_259001 HO_283001 BK258 BK259 BK282 HB HR311 HR315 hrc113_ hrc114_ hHeld ⊢
              refine pure_ (i := 0) (N := some 133) (v := ?_) (a' := ?_) #[true, false, false, false, false, false, false, false] rfl rfl (any_of HT_.out (by kernel_rfl)) (fun _ _ _ h => h) (Or.inl ⟨by rfl, ?_⟩) ?_ ?_
              rotate_left
              ·intro w'
               go_simp
               with_reducible rfl
              rotate_left
              ·simp only [Act.put, HW.LA, HW.LZ, HW.LS, i64_w, i32_w]
               rfl
              refine pure_ (i := 1) (N := some 134) (v := ?_) (a' := ?_) #[true, true, false, false, false, false, false, false] rfl rfl (any_of HT_.out (by kernel_rfl)) (fun _ _ _ h => h) (Or.inl ⟨by rfl, ?_⟩) ?_ ?_
              rotate_left
              ·intro w'
               go_simp
               with_reducible rfl
              rotate_left
              ·simp only [Act.put, HW.LA, HW.LZ, HW.LS, i64_w, i32_w]
               rfl
              refine take_ (i := 2) (N := some 135) (v := ?_) (a' := ?_) #[true, true, true, false, false, false, false, false] rfl rfl (take_ofW HT_.out HW_.out (by kernel_rfl)) (fun _ _ _ h => h) (Or.inl ⟨by rfl, ?_⟩) hHeld ?_ ?_
              rotate_left
              ·intro w' hS_
               have hcv113 := Kd.C_string (P := Try.prog) (A := A111) (c := c111) Try.underlying22 Try.underlying5 Try.underlying9 (hS_ _ _ _ hrc113_)
               have hcv114 := Kd.C_string (P := Try.prog) (A := A112) (c := c112) Try.underlying22 Try.underlying5 Try.underlying9 (hS_ _ _ _ hrc114_)
               go_simp
               with_reducible rfl
              rotate_left
              ·simp only [Act.put, HW.LA, HW.LZ, HW.LS, i64_w, i32_w]
               rfl
              refine pure_ (i := 3) (N := some 136) (v := ?_) (a' := ?_) #[true, true, true, true, false, false, false, false] rfl rfl (any_of HT_.out (by kernel_rfl)) (fun _ _ _ h => h) (Or.inl ⟨by rfl, ?_⟩) ?_ ?_
              rotate_left
              ·intro w'
               go_simp
               with_reducible rfl
              rotate_left
              ·simp only [Act.put, HW.LA, HW.LZ, HW.LS, i64_w, i32_w]
               rfl
              refine pure_ (i := 4) (N := some 137) (v := ?_) (a' := ?_) #[true, true, true, true, true, false, false, false] rfl rfl (any_of HT_.out (by kernel_rfl)) (fun _ _ _ h => h) (Or.inl ⟨by rfl, ?_⟩) ?_ ?_
              rotate_left
              ·intro w'
               go_simp
               with_reducible rfl
              rotate_left
              ·simp only [Act.put, HW.LA, HW.LZ, HW.LS, i64_w, i32_w]
               rfl
              refine take_ (i := 5) (N := some 138) (v := ?_) (a' := ?_) #[true, true, true, true, true, true, false, false] rfl rfl (take_ofW HT_.out HW_.out (by kernel_rfl)) (fun _ _ _ h => h) (Or.inl ⟨by rfl, ?_⟩) hHeld ?_ ?_
              rotate_left
              ·intro w' hS_
               have hcv113 := Kd.C_string (P := Try.prog) (A := A111) (c := c111) Try.underlying22 Try.underlying5 Try.underlying9 (hS_ _ _ _ hrc113_)
               have hcv114 := Kd.C_string (P := Try.prog) (A := A112) (c := c112) Try.underlying22 Try.underlying5 Try.underlying9 (hS_ _ _ _ hrc114_)
               go_simp
               with_reducible rfl
              rotate_left
              ·simp only [Act.put, HW.LA, HW.LZ, HW.LS, i64_w, i32_w]
               rfl
              refine pure_ (i := 6) (N := some 139) (v := ?_) (a' := ?_) #[true, true, true, true, true, true, true, false] rfl rfl (any_of HT_.out (by kernel_rfl)) (fun _ _ _ h => h) (Or.inl ⟨by rfl, ?_⟩) ?_ ?_
              rotate_left
              ·intro w'
               go_simp
               with_reducible rfl
              rotate_left
              ·simp only [Act.put, HW.LA, HW.LZ, HW.LS, i64_w, i32_w]
               rfl
              refine pure_ (i := 7) (N := some 17) (v := ?_) (a' := ?_) #[true, true, true, true, true, true, true, true] rfl rfl (any_of HT_.out (by kernel_rfl)) (fun _ _ _ h => h) (Or.inl ⟨by rfl, ?_⟩) ?_ ?_
              rotate_left
              ·intro w'
               go_simp
               with_reducible rfl
              rotate_left
              ·simp only [Act.put, HW.LA, HW.LZ, HW.LS, i64_w, i32_w]
               rfl
              refine done_ (done_of HT_.out (by kernel_rfl)) ?_
              go_upto_region 21 with (fail)
              go_cut [165] (fun v165 wc => ∃ (kq : Nat) (x165_108 : Bool), v165 = .bool x165_108 ∧ Aside0 (phaetonlaw24_ImageBurst.j5 kq t260 x10_25 t281 x15_71 ((strOfNums y308).toList == (strOfNums y312).toList) x165_108 = some r) ∧ Aside0 (kq ≤ kj71) ∧ Aside0 (Kd.R (Kd.int .u8) 5 wc w.heap.size (fun k_ => some k_ ≠ ((.slice Ao15 t262.length co15) : Value).ownBlock ∧ some k_ ≠ ((.slice Ao64 t278.length co64) : Value).ownBlock) (.slice Ao33 x10_25.length co33) x10_25) ∧ Aside0 (Kd.R (Kd.int .u8) 5 wc w.heap.size (fun k_ => some k_ ≠ ((.slice Ao33 x10_25.length co33) : Value).ownBlock ∧ some k_ ≠ ((.slice Ao64 t278.length co64) : Value).ownBlock) (.slice Ao15 t262.length co15) t262) ∧ Aside0 (Kd.R (Kd.int .u8) 5 wc w.heap.size (fun k_ => some k_ ≠ ((.slice Ao33 x10_25.length co33) : Value).ownBlock ∧ some k_ ≠ ((.slice Ao15 t262.length co15) : Value).ownBlock) (.slice Ao64 t278.length co64) t278) ∧ Aside0 (wc.heap[gb258]? = some (.cells #[.int .i64 t261, (.slice Ao15 t262.length co15)] 24 (0, 0))) ∧ Aside0 (wc.heap[gb259]? = some (.cells #[.int .u16 a2_0, .int .u8 a2_1, .int .u8 a2_2, .int .u8 a2_3, .int .u8 a2_4] 43 (0, 0))) ∧ Aside0 (wc.heap[gb282]? = some (.cells #[.int .i64 t277, (.slice Ao64 t278.length co64)] 24 (0, 0))) ∧ Aside0 (Below w.heap.size w wc))
              case first => as_aux_lemma =>
               have H := HC109.out
               clear HC109
               by_cases c116 : 2 ≤ 6
               rotate_left
               ·rw [if_neg c116] at H
                exact absurd H (by simp)
               rw [if_pos c116] at H
               have c116b0 := eq_true c116
               have c116b1 : decide (2 ≤ 6) = true := decide_eq_true c116
               clear c116
               by_cases c117 : 6 ≤ (x10_25.length : Int)
               rotate_left
               ·rw [if_neg c117] at H
                exact absurd H (by simp)
               rw [if_pos c117] at H
               have c117b0 := eq_true c117
               have c117b1 : decide (6 ≤ (x10_25.length : Int)) = true := decide_eq_true c117
               clear c117
               obtain ⟨y316, hy316⟩ : ∃ y_ : List Int, y_ = ((x10_25.take 6).drop 2) := ⟨_, rfl⟩
               replace H : (if 6 ≤ (t265.length : Int) then (if (strOfNums y316).toList = (strOfNums ((t265.take 6).drop 2)).toList then (phaetonlaw24_ImageBurst.j5 kj71 t260 x10_25 t281 x15_71 ((strOfNums y308).toList == (strOfNums y312).toList) false) else (if 10 ≤ 14 then (if 14 ≤ (x10_25.length : Int) then (if 14 ≤ (t265.length : Int) then (if (strOfNums ((x10_25.take 14).drop 10)).toList = (strOfNums ((t265.take 14).drop 10)).toList then (phaetonlaw24_ImageBurst.j5 kj71 t260 x10_25 t281 x15_71 ((strOfNums y308).toList == (strOfNums y312).toList) ((strOfNums y308).toList == (strOfNums y312).toList)) else (phaetonlaw24_ImageBurst.j5 kj71 t260 x10_25 t281 x15_71 ((strOfNums y308).toList == (strOfNums y312).toList) false)) else (none)) else (none)) else (none))) else (none)) = some r := by first | (rw [hy316]; with_reducible exact H) | (have H2_ := (Option.bind_some _ _).symm.trans H; rw [hy316]; with_reducible exact H2_) | (have H2_ := (Option.bind_some _ _).symm.trans H; with_reducible exact H2_) | with_reducible exact H | (rw [hy316]; exact H) | exact H
               have Ny316 := Aside0.mk hy316
               clear hy316
               have c118b0 := eq_true (of_decide_eq_true (by first | (with_reducible assumption) | assumption) : 2 ≤ 6)
               by_cases c119 : 6 ≤ (t265.length : Int)
               rotate_left
               ·rw [if_neg c119] at H
                exact absurd H (by simp)
               rw [if_pos c119] at H
               have c119b0 := eq_true c119
               have c119b1 : decide (6 ≤ (t265.length : Int)) = true := decide_eq_true c119
               clear c119
               obtain ⟨y320, hy320⟩ : ∃ y_ : List Int, y_ = ((t265.take 6).drop 2) := ⟨_, rfl⟩
               replace H : (if (strOfNums y316).toList = (strOfNums y320).toList then (phaetonlaw24_ImageBurst.j5 kj71 t260 x10_25 t281 x15_71 ((strOfNums y308).toList == (strOfNums y312).toList) false) else (if 10 ≤ 14 then (if 14 ≤ (x10_25.length : Int) then (if 14 ≤ (t265.length : Int) then (if (strOfNums ((x10_25.take 14).drop 10)).toList = (strOfNums ((t265.take 14).drop 10)).toList then (phaetonlaw24_ImageBurst.j5 kj71 t260 x10_25 t281 x15_71 ((strOfNums y308).toList == (strOfNums y312).toList) ((strOfNums y308).toList == (strOfNums y312).toList)) else (phaetonlaw24_ImageBurst.j5 kj71 t260 x10_25 t281 x15_71 ((strOfNums y308).toList == (strOfNums y312).toList) false)) else (none)) else (none)) else (none))) = some r := by first | (rw [hy320]; with_reducible exact H) | (have H2_ := (Option.bind_some _ _).symm.trans H; rw [hy320]; with_reducible exact H2_) | (have H2_ := (Option.bind_some _ _).symm.trans H; with_reducible exact H2_) | with_reducible exact H | (rw [hy320]; exact H) | exact H
               have Ny320 := Aside0.mk hy320
               clear hy320
               by_cases c120 : (strOfNums y316).toList = (strOfNums y320).toList
               ·rw [if_pos c120] at H
                have c120b0 : ((strOfNums y316).toList == (strOfNums y320).toList) = true := beq_iff_eq.mpr c120
                have c120b1 : ((strOfNums y316).toList != (strOfNums y320).toList) = false := bne_eq_false_iff_eq.mpr c120
                clear c120
                (first | rw [c120b0] | (simp only [i64_w, i32_w]; rw [c120b0]) | skip)
                have H' := Aside0.mk H
                clear H
                try go_wp2
                have n0_ := Aside0.mk (Kd.R_drew HO_8.out)
                have n1_ := Aside0.mk (Kd.R_drew HO_10.out)
                have n2_ := Aside0.mk (Kd.R_drew HO_259001.out)
                have n3_ := Aside0.mk (Kd.R_drew HO_283001.out)
                have n4_ := Aside0.mk (blk_drew BK258.out)
                have n5_ := Aside0.mk (blk_drew BK259.out)
                have n6_ := Aside0.mk (blk_drew BK282.out)
                have n7_ := Aside0.mk (below_drew1 HB.out)
                clear HO_8
                clear HO_10
                clear HO_259001
                clear HO_283001
                clear BK258
                clear BK259
                clear BK282
                clear HB
                have HO_8 := n0_
                have HO_10 := n1_
                have HO_259001 := n2_
                have HO_283001 := n3_
                have BK258 := n4_
                have BK259 := n5_
                have BK282 := n6_
                have HB := n7_
                clear n0_ n1_ n2_ n3_ n4_ n5_ n6_ n7_
                have q122 : (6 : Int) ≤ ((x10_25.length : Int) : Int) := of_decide_eq_true (by first | (with_reducible assumption) | assumption)
                obtain ⟨i0122, hi0122, _, hsz122, _⟩ := info_parts info5
                have hroom122 : x10_25.length ≤ co33 := (Kd.R_reads' HO_10.out).2.1
                have hC122 : Kd.C (Kd.int .u8) _ Ao33 x10_25.length x10_25 := (Kd.R_reads' HO_10.out).2.2
                have ql122 : (2 : Int) ≤ (6 : Int) := (by omega)
                have hcut122 := cut_mid (P := Try.prog) 22 5 .i64 .i64 Try.underlying22 hi0122 1 hsz122 Ao33 x10_25.length co33 2 6 (by omega) ql122 q122 hroom122
                have hr122 := Kd.C_mid (lo := (2 : Int).toNat) (hi := (6 : Int).toNat) (c := co33) hC122 (by omega) (by omega) hroom122
                obtain ⟨A122, hA122⟩ : ∃ A1, A1 = (if co33 = (2 : Int).toNat then Ao33 else (Ao33 : Option Addr).map (·.add ((2 : Int).toNat * 1))) := ⟨_, rfl⟩
                obtain ⟨c122, hc122⟩ : ∃ c1, c1 = co33 - (2 : Int).toNat := ⟨_, rfl⟩
                have hy122 : y316.length = (6 : Int).toNat - (2 : Int).toNat := (by rw [Ny316.out, List.length_drop, List.length_take] <;> omega)
                rw [show ((x10_25).take (6 : Int).toNat).drop (2 : Int).toNat = y316 from Ny316.out.symm] at hr122
                replace hr122 : Kd.C (Kd.int .u8) _ A122 y316.length y316 := (by rw [hA122]; exact hr122)
                rw [← hy122, ← hA122, ← hc122] at hcut122
                have HR319 := Aside0.mk hr122
                have HC319 := Aside0.mk (show y316.length ≤ c122 from by rw [hy122, hc122]; exact Nat.sub_le_sub_right (Nat.le_trans (by omega) hroom122) _)
                clear hr122 hC122 hroom122 hi0122 hsz122 hc122
                have KY122 := Aside0.mk hy122
                have KA122 := Aside0.mk hA122
                clear hy122 hA122
                have KL122 := Aside0.mk (show 6 ≤ x10_25.length from by omega)
                have KM122 := Aside0.mk (show 2 ≤ 6 from by omega)
                replace q122 := eq_true q122
                have q123 : (6 : Int) ≤ ((t265.length : Int) : Int) := of_decide_eq_true (by first | (with_reducible assumption) | assumption)
                obtain ⟨i0123, hi0123, _, hsz123, _⟩ := info_parts info5
                have hroom123 : t265.length ≤ co30 := (Kd.R_reads' HO_8.out).2.1
                have hC123 : Kd.C (Kd.int .u8) _ Ao30 t265.length t265 := (Kd.R_reads' HO_8.out).2.2
                have ql123 : (2 : Int) ≤ (6 : Int) := (by omega)
                have hcut123 := cut_mid (P := Try.prog) 22 5 .i64 .i64 Try.underlying22 hi0123 1 hsz123 Ao30 t265.length co30 2 6 (by omega) ql123 q123 hroom123
                have hr123 := Kd.C_mid (lo := (2 : Int).toNat) (hi := (6 : Int).toNat) (c := co30) hC123 (by omega) (by omega) hroom123
                obtain ⟨A123, hA123⟩ : ∃ A1, A1 = (if co30 = (2 : Int).toNat then Ao30 else (Ao30 : Option Addr).map (·.add ((2 : Int).toNat * 1))) := ⟨_, rfl⟩
                obtain ⟨c123, hc123⟩ : ∃ c1, c1 = co30 - (2 : Int).toNat := ⟨_, rfl⟩
                have hy123 : y320.length = (6 : Int).toNat - (2 : Int).toNat := (by rw [Ny320.out, List.length_drop, List.length_take] <;> omega)
                rw [show ((t265).take (6 : Int).toNat).drop (2 : Int).toNat = y320 from Ny320.out.symm] at hr123
                replace hr123 : Kd.C (Kd.int .u8) _ A123 y320.length y320 := (by rw [hA123]; exact hr123)
                rw [← hy123, ← hA123, ← hc123] at hcut123
                have HR323 := Aside0.mk hr123
                have HC323 := Aside0.mk (show y320.length ≤ c123 from by rw [hy123, hc123]; exact Nat.sub_le_sub_right (Nat.le_trans (by omega) hroom123) _)
                clear hr123 hC123 hroom123 hi0123 hsz123 hc123
                have KY123 := Aside0.mk hy123
                have KA123 := Aside0.mk hA123
                clear hy123 hA123
                have KL123 := Aside0.mk (show 6 ≤ t265.length from by omega)
                have KM123 := Aside0.mk (show 2 ≤ 6 from by omega)
                replace q123 := eq_true q123
                have hrc124_ := HW.keepC (w := w110.drew) (by repeat (first | (with_reducible exact HR319.out) | (with_reducible refine Kd.C_alloc ?_ _) | (with_reducible refine Kd.C_drewN ?_ _) | (with_reducible refine Kd.C_drew ?_) | exact HR319.out))
                have hrc125_ := HW.keepC (w := w110.drew) (by repeat (first | (with_reducible exact HR323.out) | (with_reducible refine Kd.C_alloc ?_ _) | (with_reducible refine Kd.C_drewN ?_ _) | (with_reducible refine Kd.C_drew ?_) | exact HR323.out))
                refine start_ (n := 19) (S := fun w' => ∀ (A_ : Option Addr) (n_ : Nat) (x_ : List Int), Kd.C (Kd.int .u8) w110.drew A_ n_ x_ → Kd.C (Kd.int .u8) w' A_ n_ x_) (ds := []) #[false, false, false, false, false, false, false, false, false, false, false, false, false, false, false, false, false, false, false] (by kernel_rfl) rfl rfl (fun _ _ _ h_ => h_) (fun hHeld => ?_); refine with_tabW phaetonlaw24_ImageBurst.tab21 phaetonlaw24_ImageBurst.bits21 (fun HT_ HW_ => ?_)
                generalize w110.drew = w121 at HO_8 HO_10 HO_259001 HO_283001 BK258 BK259 BK282 HB HR319 HR323 hrc124_ hrc125_ hHeld ⊢
                refine pure_ (i := 0) (N := some 147) (v := ?_) (a' := ?_) #[true, false, false, false, false, false, false, false, false, false, false, false, false, false, false, false, false, false, false] rfl rfl (any_of HT_.out (by kernel_rfl)) (fun _ _ _ h => h) (Or.inl ⟨by rfl, ?_⟩) ?_ ?_
                rotate_left
                ·intro w'
                 go_simp
                 with_reducible rfl
                rotate_left
                ·simp only [Act.put, HW.LA, HW.LZ, HW.LS, i64_w, i32_w]
                 rfl
                refine pure_ (i := 1) (N := some 148) (v := ?_) (a' := ?_) #[true, true, false, false, false, false, false, false, false, false, false, false, false, false, false, false, false, false, false] rfl rfl (any_of HT_.out (by kernel_rfl)) (fun _ _ _ h => h) (Or.inl ⟨by rfl, ?_⟩) ?_ ?_
                rotate_left
                ·intro w'
                 go_simp
                 with_reducible rfl
                rotate_left
                ·simp only [Act.put, HW.LA, HW.LZ, HW.LS, i64_w, i32_w]
                 rfl
                refine take_ (i := 2) (N := some 149) (v := ?_) (a' := ?_) #[true, true, true, false, false, false, false, false, false, false, false, false, false, false, false, false, false, false, false] rfl rfl (take_ofW HT_.out HW_.out (by kernel_rfl)) (fun _ _ _ h => h) (Or.inl ⟨by rfl, ?_⟩) hHeld ?_ ?_
                rotate_left
                ·intro w' hS_
                 have hcv124 := Kd.C_string (P := Try.prog) (A := A122) (c := c122) Try.underlying22 Try.underlying5 Try.underlying9 (hS_ _ _ _ hrc124_)
                 have hcv125 := Kd.C_string (P := Try.prog) (A := A123) (c := c123) Try.underlying22 Try.underlying5 Try.underlying9 (hS_ _ _ _ hrc125_)
                 go_simp
                 with_reducible rfl
                rotate_left
                ·simp only [Act.put, HW.LA, HW.LZ, HW.LS, i64_w, i32_w]
                 rfl
                refine pure_ (i := 3) (N := some 150) (v := ?_) (a' := ?_) #[true, true, true, true, false, false, false, false, false, false, false, false, false, false, false, false, false, false, false] rfl rfl (any_of HT_.out (by kernel_rfl)) (fun _ _ _ h => h) (Or.inl ⟨by rfl, ?_⟩) ?_ ?_
                rotate_left
                ·intro w'
                 go_simp
                 with_reducible rfl
                rotate_left
                ·simp only [Act.put, HW.LA, HW.LZ, HW.LS, i64_w, i32_w]
                 rfl
                refine pure_ (i := 4) (N := some 151) (v := ?_) (a' := ?_) #[true, true, true, true, true, false, false, false, false, false, false, false, false, false, false, false, false, false, false] rfl rfl (any_of HT_.out (by kernel_rfl)) (fun _ _ _ h => h) (Or.inl ⟨by rfl, ?_⟩) ?_ ?_
                rotate_left
                ·intro w'
                 go_simp
                 with_reducible rfl
                rotate_left
                ·simp only [Act.put, HW.LA, HW.LZ, HW.LS, i64_w, i32_w]
                 rfl
                refine take_ (i := 5) (N := some 152) (v := ?_) (a' := ?_) #[true, true, true, true, true, true, false, false, false, false, false, false, false, false, false, false, false, false, false] rfl rfl (take_ofW HT_.out HW_.out (by kernel_rfl)) (fun _ _ _ h => h) (Or.inl ⟨by rfl, ?_⟩) hHeld ?_ ?_
                rotate_left
                ·intro w' hS_
                 have hcv124 := Kd.C_string (P := Try.prog) (A := A122) (c := c122) Try.underlying22 Try.underlying5 Try.underlying9 (hS_ _ _ _ hrc124_)
                 have hcv125 := Kd.C_string (P := Try.prog) (A := A123) (c := c123) Try.underlying22 Try.underlying5 Try.underlying9 (hS_ _ _ _ hrc125_)
                 go_simp
                 with_reducible rfl
                rotate_left
                ·simp only [Act.put, HW.LA, HW.LZ, HW.LS, i64_w, i32_w]
                 rfl
                refine pure_ (i := 6) (N := some 153) (v := ?_) (a' := ?_) #[true, true, true, true, true, true, true, false, false, false, false, false, false, false, false, false, false, false, false] rfl rfl (any_of HT_.out (by kernel_rfl)) (fun _ _ _ h => h) (Or.inl ⟨by rfl, ?_⟩) ?_ ?_
                rotate_left
                ·intro w'
                 go_simp
                 with_reducible rfl
                rotate_left
                ·simp only [Act.put, HW.LA, HW.LZ, HW.LS, i64_w, i32_w]
                 rfl
                refine pure_ (i := 7) (N := some 154) (v := ?_) (a' := ?_) #[true, true, true, true, true, true, true, true, false, false, false, false, false, false, false, false, false, false, false] rfl rfl (any_of HT_.out (by kernel_rfl)) (fun _ _ _ h => h) (Or.inl ⟨by rfl, ?_⟩) ?_ ?_
                rotate_left
                ·intro w'
                 go_simp
                 with_reducible rfl
                rotate_left
                ·simp only [Act.put, HW.LA, HW.LZ, HW.LS, i64_w, i32_w]
                 rfl
                refine pure_ (i := 8) (N := some 155) (v := undef) (a' := ?_) #[true, true, true, true, true, true, true, true, true, false, false, false, false, false, false, false, false, false, false] rfl rfl (any_of HT_.out (by kernel_rfl)) (fun _ _ _ h => h) (Or.inr ⟨by rfl, rfl⟩) ?_ ?_
                rotate_left
                ·simp only [Act.put, HW.LA, HW.LZ, HW.LS, i64_w, i32_w]
                 rfl
                refine pure_ (i := 9) (N := some 156) (v := undef) (a' := ?_) #[true, true, true, true, true, true, true, true, true, true, false, false, false, false, false, false, false, false, false] rfl rfl (any_of HT_.out (by kernel_rfl)) (fun _ _ _ h => h) (Or.inr ⟨by rfl, rfl⟩) ?_ ?_
                rotate_left
                ·simp only [Act.put, HW.LA, HW.LZ, HW.LS, i64_w, i32_w]
                 rfl
                refine pure_ (i := 10) (N := some 157) (v := undef) (a' := ?_) #[true, true, true, true, true, true, true, true, true, true, true, false, false, false, false, false, false, false, false] rfl rfl (any_of HT_.out (by kernel_rfl)) (fun _ _ _ h => h) (Or.inr ⟨by rfl, rfl⟩) ?_ ?_
                rotate_left
                ·simp only [Act.put, HW.LA, HW.LZ, HW.LS, i64_w, i32_w]
                 rfl
                refine pure_ (i := 11) (N := some 158) (v := undef) (a' := ?_) #[true, true, true, true, true, true, true, true, true, true, true, true, false, false, false, false, false, false, false] rfl rfl (any_of HT_.out (by kernel_rfl)) (fun _ _ _ h => h) (Or.inr ⟨by rfl, rfl⟩) ?_ ?_
                rotate_left
                ·simp only [Act.put, HW.LA, HW.LZ, HW.LS, i64_w, i32_w]
                 rfl
                refine pure_ (i := 12) (N := some 159) (v := undef) (a' := ?_) #[true, true, true, true, true, true, true, true, true, true, true, true, true, false, false, false, false, false, false] rfl rfl (any_of HT_.out (by kernel_rfl)) (fun _ _ _ h => h) (Or.inr ⟨by rfl, rfl⟩) ?_ ?_
                rotate_left
                ·simp only [Act.put, HW.LA, HW.LZ, HW.LS, i64_w, i32_w]
                 rfl
                refine pure_ (i := 13) (N := some 160) (v := undef) (a' := ?_) #[true, true, true, true, true, true, true, true, true, true, true, true, true, true, false, false, false, false, false] rfl rfl (any_of HT_.out (by kernel_rfl)) (fun _ _ _ h => h) (Or.inr ⟨by rfl, rfl⟩) ?_ ?_
                rotate_left
                ·simp only [Act.put, HW.LA, HW.LZ, HW.LS, i64_w, i32_w]
                 rfl
                refine pure_ (i := 14) (N := some 161) (v := undef) (a' := ?_) #[true, true, true, true, true, true, true, true, true, true, true, true, true, true, true, false, false, false, false] rfl rfl (any_of HT_.out (by kernel_rfl)) (fun _ _ _ h => h) (Or.inr ⟨by rfl, rfl⟩) ?_ ?_
                rotate_left
                ·simp only [Act.put, HW.LA, HW.LZ, HW.LS, i64_w, i32_w]
                 rfl
                refine pure_ (i := 15) (N := some 162) (v := ?_) (a' := ?_) #[true, true, true, true, true, true, true, true, true, true, true, true, true, true, true, true, false, false, false] rfl rfl (any_of HT_.out (by kernel_rfl)) (fun _ _ _ h => h) (Or.inl ⟨by rfl, ?_⟩) ?_ ?_
                rotate_left
                ·intro w'
                 go_simp
                 with_reducible rfl
                rotate_left
                ·simp only [Act.put, HW.LA, HW.LZ, HW.LS, i64_w, i32_w]
                 rfl
                refine pure_ (i := 16) (N := some 163) (v := ?_) (a' := ?_) #[true, true, true, true, true, true, true, true, true, true, true, true, true, true, true, true, true, false, false] rfl rfl (any_of HT_.out (by kernel_rfl)) (fun _ _ _ h => h) (Or.inl ⟨by rfl, ?_⟩) ?_ ?_
                rotate_left
                ·intro w'
                 go_simp
                 with_reducible rfl
                rotate_left
                ·simp only [Act.put, HW.LA, HW.LZ, HW.LS, i64_w, i32_w]
                 rfl
                refine pure_ (i := 17) (N := some 164) (v := undef) (a' := ?_) #[true, true, true, true, true, true, true, true, true, true, true, true, true, true, true, true, true, true, false] rfl rfl (any_of HT_.out (by kernel_rfl)) (fun _ _ _ h => h) (Or.inr ⟨by rfl, rfl⟩) ?_ ?_
                rotate_left
                ·simp only [Act.put, HW.LA, HW.LZ, HW.LS, i64_w, i32_w]
                 rfl
                refine pure_ (i := 18) (N := some 165) (v := ?_) (a' := ?_) #[true, true, true, true, true, true, true, true, true, true, true, true, true, true, true, true, true, true, true] rfl rfl (any_of HT_.out (by kernel_rfl)) (fun _ _ _ h => h) (Or.inl ⟨by rfl, ?_⟩) ?_ ?_
                rotate_left
                ·intro w'
                 go_simp
                 with_reducible rfl
                rotate_left
                ·simp only [Act.put, HW.LA, HW.LZ, HW.LS, i64_w, i32_w]
                 rfl
                refine done_ (done_of HT_.out (by kernel_rfl)) ?_
                try go_wp2
                go_meet
                case rel => exact ⟨_, (false), (by first | rfl | (simp; done) | (simp [*]; done)), H', ⟨by have := HJ6.out; have := HJ25.out; have := HJ57.out; have := HJ71.out; first | omega | exact Nat.le_refl _⟩, ⟨by (try simp only [hl10_25]); (with_reducible repeat (first | apply Kd.R_alloc | apply Kd.R_drewN | apply Kd.R_drew)); first | exact HO_10.out | exact Kd.R_mono HO_10.out (fun _ hk => ⟨hk.1, hk.2.1⟩) | exact Kd.R_mono HO_10.out (fun _ hk => HW.two_of hk)⟩, ⟨by (try simp only [hl10_25]); (with_reducible repeat (first | apply Kd.R_alloc | apply Kd.R_drewN | apply Kd.R_drew)); first | exact HO_259001.out | exact Kd.R_mono HO_259001.out (fun _ hk => ⟨hk.1, hk.2.1⟩) | exact Kd.R_mono HO_259001.out (fun _ hk => HW.two_of hk)⟩, ⟨by (try simp only [hl10_25]); (with_reducible repeat (first | apply Kd.R_alloc | apply Kd.R_drewN | apply Kd.R_drew)); first | exact HO_283001.out | exact Kd.R_mono HO_283001.out (fun _ hk => ⟨hk.1, hk.2.1⟩) | exact Kd.R_mono HO_283001.out (fun _ hk => HW.two_of hk)⟩, ⟨by (try simp only [hl10_25]); (with_reducible repeat (first | refine blk_drewN ?_ _ | refine blk_drew ?_ | refine blk_alloc ?_ _)); exact BK258.out⟩, ⟨by (try simp only [hl10_25]); (with_reducible repeat (first | refine blk_drewN ?_ _ | refine blk_drew ?_ | refine blk_alloc ?_ _)); exact BK259.out⟩, ⟨by (try simp only [hl10_25]); (with_reducible repeat (first | refine blk_drewN ?_ _ | refine blk_drew ?_ | refine blk_alloc ?_ _)); exact BK282.out⟩, ⟨by repeat (first | (with_reducible first | exact HB.out | apply below_alloc | apply pw_below_drewN | apply below_drew1 | refine below_set ?_ GE258.out | refine below_set ?_ GE259.out | refine below_set ?_ GE282.out) | exact HB.out)⟩⟩
               ·rw [if_neg c120] at H
                have c120b0 : ((strOfNums y316).toList == (strOfNums y320).toList) = false := beq_eq_false_iff_ne.mpr c120
                have c120b1 : ((strOfNums y316).toList != (strOfNums y320).toList) = true := bne_iff_ne.mpr c120
                (first | rw [c120b0] | (simp only [i64_w, i32_w]; rw [c120b0]) | skip)
                by_cases c127 : 10 ≤ 14
                rotate_left
                ·rw [if_neg c127] at H
                 exact absurd H (by simp)
                rw [if_pos c127] at H
                have c127b0 := eq_true c127
                have c127b1 : decide (10 ≤ 14) = true := decide_eq_true c127
                clear c127
                by_cases c128 : 14 ≤ (x10_25.length : Int)
                rotate_left
                ·rw [if_neg c128] at H
                 exact absurd H (by simp)
                rw [if_pos c128] at H
                have c128b0 := eq_true c128
                have c128b1 : decide (14 ≤ (x10_25.length : Int)) = true := decide_eq_true c128
                clear c128
                obtain ⟨y324, hy324⟩ : ∃ y_ : List Int, y_ = ((x10_25.take 14).drop 10) := ⟨_, rfl⟩
                replace H : (if 14 ≤ (t265.length : Int) then (if (strOfNums y324).toList = (strOfNums ((t265.take 14).drop 10)).toList then (phaetonlaw24_ImageBurst.j5 kj71 t260 x10_25 t281 x15_71 ((strOfNums y308).toList == (strOfNums y312).toList) ((strOfNums y308).toList == (strOfNums y312).toList)) else (phaetonlaw24_ImageBurst.j5 kj71 t260 x10_25 t281 x15_71 ((strOfNums y308).toList == (strOfNums y312).toList) false)) else (none)) = some r := by first | (rw [hy324]; with_reducible exact H) | (have H2_ := (Option.bind_some _ _).symm.trans H; rw [hy324]; with_reducible exact H2_) | (have H2_ := (Option.bind_some _ _).symm.trans H; with_reducible exact H2_) | with_reducible exact H | (rw [hy324]; exact H) | exact H
                have Ny324 := Aside0.mk hy324
                clear hy324
                have c129b0 := eq_true (of_decide_eq_true (by first | (with_reducible assumption) | assumption) : 10 ≤ 14)
                by_cases c130 : 14 ≤ (t265.length : Int)
                rotate_left
                ·rw [if_neg c130] at H
                 exact absurd H (by simp)
                rw [if_pos c130] at H
                have c130b0 := eq_true c130
                have c130b1 : decide (14 ≤ (t265.length : Int)) = true := decide_eq_true c130
                clear c130
                obtain ⟨y328, hy328⟩ : ∃ y_ : List Int, y_ = ((t265.take 14).drop 10) := ⟨_, rfl⟩
                replace H : (if (strOfNums y324).toList = (strOfNums y328).toList then (phaetonlaw24_ImageBurst.j5 kj71 t260 x10_25 t281 x15_71 ((strOfNums y308).toList == (strOfNums y312).toList) ((strOfNums y308).toList == (strOfNums y312).toList)) else (phaetonlaw24_ImageBurst.j5 kj71 t260 x10_25 t281 x15_71 ((strOfNums y308).toList == (strOfNums y312).toList) false)) = some r := by first | (rw [hy328]; with_reducible exact H) | (have H2_ := (Option.bind_some _ _).symm.trans H; rw [hy328]; with_reducible exact H2_) | (have H2_ := (Option.bind_some _ _).symm.trans H; with_reducible exact H2_) | with_reducible exact H | (rw [hy328]; exact H) | exact H
                have Ny328 := Aside0.mk hy328
                clear hy328
                by_cases c131 : (strOfNums y324).toList = (strOfNums y328).toList
                ·rw [if_pos c131] at H
                 have c131b0 : ((strOfNums y324).toList == (strOfNums y328).toList) = true := beq_iff_eq.mpr c131
                 have c131b1 : ((strOfNums y324).toList != (strOfNums y328).toList) = false := bne_eq_false_iff_eq.mpr c131
                 clear c131
                 have H' := Aside0.mk H
                 clear H
                 try go_wp2
                 have n0_ := Aside0.mk (Kd.R_drew HO_8.out)
                 have n1_ := Aside0.mk (Kd.R_drew HO_10.out)
                 have n2_ := Aside0.mk (Kd.R_drew HO_259001.out)
                 have n3_ := Aside0.mk (Kd.R_drew HO_283001.out)
                 have n4_ := Aside0.mk (blk_drew BK258.out)
                 have n5_ := Aside0.mk (blk_drew BK259.out)
                 have n6_ := Aside0.mk (blk_drew BK282.out)
                 have n7_ := Aside0.mk (below_drew1 HB.out)
                 clear HO_8
                 clear HO_10
                 clear HO_259001
                 clear HO_283001
                 clear BK258
                 clear BK259
                 clear BK282
                 clear HB
                 have HO_8 := n0_
                 have HO_10 := n1_
                 have HO_259001 := n2_
                 have HO_283001 := n3_
                 have BK258 := n4_
                 have BK259 := n5_
                 have BK282 := n6_
                 have HB := n7_
                 clear n0_ n1_ n2_ n3_ n4_ n5_ n6_ n7_
                 have q133 : (6 : Int) ≤ ((x10_25.length : Int) : Int) := of_decide_eq_true (by first | (with_reducible assumption) | assumption)
                 obtain ⟨i0133, hi0133, _, hsz133, _⟩ := info_parts info5
                 have hroom133 : x10_25.length ≤ co33 := (Kd.R_reads' HO_10.out).2.1
                 have hC133 : Kd.C (Kd.int .u8) _ Ao33 x10_25.length x10_25 := (Kd.R_reads' HO_10.out).2.2
                 have ql133 : (2 : Int) ≤ (6 : Int) := (by omega)
                 have hcut133 := cut_mid (P := Try.prog) 22 5 .i64 .i64 Try.underlying22 hi0133 1 hsz133 Ao33 x10_25.length co33 2 6 (by omega) ql133 q133 hroom133
                 have hr133 := Kd.C_mid (lo := (2 : Int).toNat) (hi := (6 : Int).toNat) (c := co33) hC133 (by omega) (by omega) hroom133
                 obtain ⟨A133, hA133⟩ : ∃ A1, A1 = (if co33 = (2 : Int).toNat then Ao33 else (Ao33 : Option Addr).map (·.add ((2 : Int).toNat * 1))) := ⟨_, rfl⟩
                 obtain ⟨c133, hc133⟩ : ∃ c1, c1 = co33 - (2 : Int).toNat := ⟨_, rfl⟩
                 have hy133 : y316.length = (6 : Int).toNat - (2 : Int).toNat := (by rw [Ny316.out, List.length_drop, List.length_take] <;> omega)
                 rw [show ((x10_25).take (6 : Int).toNat).drop (2 : Int).toNat = y316 from Ny316.out.symm] at hr133
                 replace hr133 : Kd.C (Kd.int .u8) _ A133 y316.length y316 := (by rw [hA133]; exact hr133)
                 rw [← hy133, ← hA133, ← hc133] at hcut133
                 have HR319 := Aside0.mk hr133
                 have HC319 := Aside0.mk (show y316.length ≤ c133 from by rw [hy133, hc133]; exact Nat.sub_le_sub_right (Nat.le_trans (by omega) hroom133) _)
                 clear hr133 hC133 hroom133 hi0133 hsz133 hc133
                 have KY133 := Aside0.mk hy133
                 have KA133 := Aside0.mk hA133
                 clear hy133 hA133
                 have KL133 := Aside0.mk (show 6 ≤ x10_25.length from by omega)
                 have KM133 := Aside0.mk (show 2 ≤ 6 from by omega)
                 replace q133 := eq_true q133
                 have q134 : (6 : Int) ≤ ((t265.length : Int) : Int) := of_decide_eq_true (by first | (with_reducible assumption) | assumption)
                 obtain ⟨i0134, hi0134, _, hsz134, _⟩ := info_parts info5
                 have hroom134 : t265.length ≤ co30 := (Kd.R_reads' HO_8.out).2.1
                 have hC134 : Kd.C (Kd.int .u8) _ Ao30 t265.length t265 := (Kd.R_reads' HO_8.out).2.2
                 have ql134 : (2 : Int) ≤ (6 : Int) := (by omega)
                 have hcut134 := cut_mid (P := Try.prog) 22 5 .i64 .i64 Try.underlying22 hi0134 1 hsz134 Ao30 t265.length co30 2 6 (by omega) ql134 q134 hroom134
                 have hr134 := Kd.C_mid (lo := (2 : Int).toNat) (hi := (6 : Int).toNat) (c := co30) hC134 (by omega) (by omega) hroom134
                 obtain ⟨A134, hA134⟩ : ∃ A1, A1 = (if co30 = (2 : Int).toNat then Ao30 else (Ao30 : Option Addr).map (·.add ((2 : Int).toNat * 1))) := ⟨_, rfl⟩
                 obtain ⟨c134, hc134⟩ : ∃ c1, c1 = co30 - (2 : Int).toNat := ⟨_, rfl⟩
                 have hy134 : y320.length = (6 : Int).toNat - (2 : Int).toNat := (by rw [Ny320.out, List.length_drop, List.length_take] <;> omega)
                 rw [show ((t265).take (6 : Int).toNat).drop (2 : Int).toNat = y320 from Ny320.out.symm] at hr134
                 replace hr134 : Kd.C (Kd.int .u8) _ A134 y320.length y320 := (by rw [hA134]; exact hr134)
                 rw [← hy134, ← hA134, ← hc134] at hcut134
                 have HR323 := Aside0.mk hr134
                 have HC323 := Aside0.mk (show y320.length ≤ c134 from by rw [hy134, hc134]; exact Nat.sub_le_sub_right (Nat.le_trans (by omega) hroom134) _)
                 clear hr134 hC134 hroom134 hi0134 hsz134 hc134
                 have KY134 := Aside0.mk hy134
                 have KA134 := Aside0.mk hA134
                 clear hy134 hA134
                 have KL134 := Aside0.mk (show 6 ≤ t265.length from by omega)
                 have KM134 := Aside0.mk (show 2 ≤ 6 from by omega)
                 replace q134 := eq_true q134
                 have qM137 : (14 : Int) ≤ ((x10_25.length : Int) : Int) := of_decide_eq_true (by first | (with_reducible assumption) | assumption)
                 obtain ⟨i0M137, hi0M137, _, hszM137, _⟩ := info_parts info5
                 have hroomM137 : x10_25.length ≤ co33 := (Kd.R_reads' HO_10.out).2.1
                 have hCM137 : Kd.C (Kd.int .u8) _ Ao33 x10_25.length x10_25 := (Kd.R_reads' HO_10.out).2.2
                 have hcutM137 := cut_mid (P := Try.prog) 22 5 .i64 .i64 Try.underlying22 hi0M137 1 hszM137 Ao33 x10_25.length co33 10 14 (by omega) (by omega) qM137 hroomM137
                 have hrM137 := Kd.C_mid (lo := (10 : Int).toNat) (hi := (14 : Int).toNat) (c := co33) hCM137 (by omega) (by omega) hroomM137
                 obtain ⟨A327, hAM137⟩ : ∃ A1, A1 = (if co33 = (10 : Int).toNat then Ao33 else (Ao33 : Option Addr).map (·.add ((10 : Int).toNat * 1))) := ⟨_, rfl⟩
                 obtain ⟨c327, hcM137⟩ : ∃ c1, c1 = co33 - (10 : Int).toNat := ⟨_, rfl⟩
                 have hyM137 : y324.length = (14 : Int).toNat - (10 : Int).toNat := (by rw [Ny324.out, List.length_drop, List.length_take] <;> omega)
                 rw [show ((x10_25).take (14 : Int).toNat).drop (10 : Int).toNat = y324 from Ny324.out.symm] at hrM137
                 replace hrM137 : Kd.C (Kd.int .u8) _ A327 y324.length y324 := (by rw [hAM137]; exact hrM137)
                 rw [← hyM137, ← hAM137, ← hcM137] at hcutM137
                 have HR327 := Aside0.mk hrM137
                 have KYM137 := Aside0.mk hyM137
                 have KAM137 := Aside0.mk hAM137
                 clear hrM137 hCM137 hroomM137 hi0M137 hszM137 hcM137 hyM137 hAM137
                 replace qM137 := eq_true qM137
                 have qM138 : (14 : Int) ≤ ((t265.length : Int) : Int) := of_decide_eq_true (by first | (with_reducible assumption) | assumption)
                 obtain ⟨i0M138, hi0M138, _, hszM138, _⟩ := info_parts info5
                 have hroomM138 : t265.length ≤ co30 := (Kd.R_reads' HO_8.out).2.1
                 have hCM138 : Kd.C (Kd.int .u8) _ Ao30 t265.length t265 := (Kd.R_reads' HO_8.out).2.2
                 have hcutM138 := cut_mid (P := Try.prog) 22 5 .i64 .i64 Try.underlying22 hi0M138 1 hszM138 Ao30 t265.length co30 10 14 (by omega) (by omega) qM138 hroomM138
                 have hrM138 := Kd.C_mid (lo := (10 : Int).toNat) (hi := (14 : Int).toNat) (c := co30) hCM138 (by omega) (by omega) hroomM138
                 obtain ⟨A331, hAM138⟩ : ∃ A1, A1 = (if co30 = (10 : Int).toNat then Ao30 else (Ao30 : Option Addr).map (·.add ((10 : Int).toNat * 1))) := ⟨_, rfl⟩
                 obtain ⟨c331, hcM138⟩ : ∃ c1, c1 = co30 - (10 : Int).toNat := ⟨_, rfl⟩
                 have hyM138 : y328.length = (14 : Int).toNat - (10 : Int).toNat := (by rw [Ny328.out, List.length_drop, List.length_take] <;> omega)
                 rw [show ((t265).take (14 : Int).toNat).drop (10 : Int).toNat = y328 from Ny328.out.symm] at hrM138
                 replace hrM138 : Kd.C (Kd.int .u8) _ A331 y328.length y328 := (by rw [hAM138]; exact hrM138)
                 rw [← hyM138, ← hAM138, ← hcM138] at hcutM138
                 have HR331 := Aside0.mk hrM138
                 have KYM138 := Aside0.mk hyM138
                 have KAM138 := Aside0.mk hAM138
                 clear hrM138 hCM138 hroomM138 hi0M138 hszM138 hcM138 hyM138 hAM138
                 replace qM138 := eq_true qM138
                 have hrc135_ := HW.keepC (w := w110.drew) (by repeat (first | (with_reducible exact HR319.out) | (with_reducible refine Kd.C_alloc ?_ _) | (with_reducible refine Kd.C_drewN ?_ _) | (with_reducible refine Kd.C_drew ?_) | exact HR319.out))
                 have hrc136_ := HW.keepC (w := w110.drew) (by repeat (first | (with_reducible exact HR323.out) | (with_reducible refine Kd.C_alloc ?_ _) | (with_reducible refine Kd.C_drewN ?_ _) | (with_reducible refine Kd.C_drew ?_) | exact HR323.out))
                 have hrc137_ := HW.keepC (w := w110.drew) (by repeat (first | (with_reducible exact HR327.out) | (with_reducible refine Kd.C_alloc ?_ _) | (with_reducible refine Kd.C_drewN ?_ _) | (with_reducible refine Kd.C_drew ?_) | exact HR327.out))
                 have hrc138_ := HW.keepC (w := w110.drew) (by repeat (first | (with_reducible exact HR331.out) | (with_reducible refine Kd.C_alloc ?_ _) | (with_reducible refine Kd.C_drewN ?_ _) | (with_reducible refine Kd.C_drew ?_) | exact HR331.out))
                 refine start_ (n := 19) (S := fun w' => ∀ (A_ : Option Addr) (n_ : Nat) (x_ : List Int), Kd.C (Kd.int .u8) w110.drew A_ n_ x_ → Kd.C (Kd.int .u8) w' A_ n_ x_) (ds := []) #[false, false, false, false, false, false, false, false, false, false, false, false, false, false, false, false, false, false, false] (by kernel_rfl) rfl rfl (fun _ _ _ h_ => h_) (fun hHeld => ?_); refine with_tabW phaetonlaw24_ImageBurst.tab21 phaetonlaw24_ImageBurst.bits21 (fun HT_ HW_ => ?_)
                 generalize w110.drew = w132 at HO_8 HO_10 HO_259001 HO_283001 BK258 BK259 BK282 HB HR319 HR323 hrc135_ hrc136_ hrc137_ hrc138_ hHeld ⊢
                 refine pure_ (i := 0) (N := some 147) (v := ?_) (a' := ?_) #[true, false, false, false, false, false, false, false, false, false, false, false, false, false, false, false, false, false, false] rfl rfl (any_of HT_.out (by kernel_rfl)) (fun _ _ _ h => h) (Or.inl ⟨by rfl, ?_⟩) ?_ ?_
                 rotate_left
                 ·intro w'
                  go_simp
                  with_reducible rfl
                 rotate_left
                 ·simp only [Act.put, HW.LA, HW.LZ, HW.LS, i64_w, i32_w]
                  rfl
                 refine pure_ (i := 1) (N := some 148) (v := ?_) (a' := ?_) #[true, true, false, false, false, false, false, false, false, false, false, false, false, false, false, false, false, false, false] rfl rfl (any_of HT_.out (by kernel_rfl)) (fun _ _ _ h => h) (Or.inl ⟨by rfl, ?_⟩) ?_ ?_
                 rotate_left
                 ·intro w'
                  go_simp
                  with_reducible rfl
                 rotate_left
                 ·simp only [Act.put, HW.LA, HW.LZ, HW.LS, i64_w, i32_w]
                  rfl
                 refine take_ (i := 2) (N := some 149) (v := ?_) (a' := ?_) #[true, true, true, false, false, false, false, false, false, false, false, false, false, false, false, false, false, false, false] rfl rfl (take_ofW HT_.out HW_.out (by kernel_rfl)) (fun _ _ _ h => h) (Or.inl ⟨by rfl, ?_⟩) hHeld ?_ ?_
                 rotate_left
                 ·intro w' hS_
                  have hcv135 := Kd.C_string (P := Try.prog) (A := A133) (c := c133) Try.underlying22 Try.underlying5 Try.underlying9 (hS_ _ _ _ hrc135_)
                  have hcv136 := Kd.C_string (P := Try.prog) (A := A134) (c := c134) Try.underlying22 Try.underlying5 Try.underlying9 (hS_ _ _ _ hrc136_)
                  have hcv137 := Kd.C_string (P := Try.prog) (A := A327) (c := c327) Try.underlying22 Try.underlying5 Try.underlying9 (hS_ _ _ _ hrc137_)
                  have hcv138 := Kd.C_string (P := Try.prog) (A := A331) (c := c331) Try.underlying22 Try.underlying5 Try.underlying9 (hS_ _ _ _ hrc138_)
                  go_simp
                  with_reducible rfl
                 rotate_left
                 ·simp only [Act.put, HW.LA, HW.LZ, HW.LS, i64_w, i32_w]
                  rfl
                 refine pure_ (i := 3) (N := some 150) (v := ?_) (a' := ?_) #[true, true, true, true, false, false, false, false, false, false, false, false, false, false, false, false, false, false, false] rfl rfl (any_of HT_.out (by kernel_rfl)) (fun _ _ _ h => h) (Or.inl ⟨by rfl, ?_⟩) ?_ ?_
                 rotate_left
                 ·intro w'
                  go_simp
                  with_reducible rfl
                 rotate_left
                 ·simp only [Act.put, HW.LA, HW.LZ, HW.LS, i64_w, i32_w]
                  rfl
                 refine pure_ (i := 4) (N := some 151) (v := ?_) (a' := ?_) #[true, true, true, true, true, false, false, false, false, false, false, false, false, false, false, false, false, false, false] rfl rfl (any_of HT_.out (by kernel_rfl)) (fun _ _ _ h => h) (Or.inl ⟨by rfl, ?_⟩) ?_ ?_
                 rotate_left
                 ·intro w'
                  go_simp
                  with_reducible rfl
                 rotate_left
                 ·simp only [Act.put, HW.LA, HW.LZ, HW.LS, i64_w, i32_w]
                  rfl
                 refine take_ (i := 5) (N := some 152) (v := ?_) (a' := ?_) #[true, true, true, true, true, true, false, false, false, false, false, false, false, false, false, false, false, false, false] rfl rfl (take_ofW HT_.out HW_.out (by kernel_rfl)) (fun _ _ _ h => h) (Or.inl ⟨by rfl, ?_⟩) hHeld ?_ ?_
                 rotate_left
                 ·intro w' hS_
                  have hcv135 := Kd.C_string (P := Try.prog) (A := A133) (c := c133) Try.underlying22 Try.underlying5 Try.underlying9 (hS_ _ _ _ hrc135_)
                  have hcv136 := Kd.C_string (P := Try.prog) (A := A134) (c := c134) Try.underlying22 Try.underlying5 Try.underlying9 (hS_ _ _ _ hrc136_)
                  have hcv137 := Kd.C_string (P := Try.prog) (A := A327) (c := c327) Try.underlying22 Try.underlying5 Try.underlying9 (hS_ _ _ _ hrc137_)
                  have hcv138 := Kd.C_string (P := Try.prog) (A := A331) (c := c331) Try.underlying22 Try.underlying5 Try.underlying9 (hS_ _ _ _ hrc138_)
                  go_simp
                  with_reducible rfl
                 rotate_left
                 ·simp only [Act.put, HW.LA, HW.LZ, HW.LS, i64_w, i32_w]
                  rfl
                 refine pure_ (i := 6) (N := some 153) (v := ?_) (a' := ?_) #[true, true, true, true, true, true, true, false, false, false, false, false, false, false, false, false, false, false, false] rfl rfl (any_of HT_.out (by kernel_rfl)) (fun _ _ _ h => h) (Or.inl ⟨by rfl, ?_⟩) ?_ ?_
                 rotate_left
                 ·intro w'
                  go_simp
                  with_reducible rfl
                 rotate_left
                 ·simp only [Act.put, HW.LA, HW.LZ, HW.LS, i64_w, i32_w]
                  rfl
                 refine pure_ (i := 7) (N := some 154) (v := ?_) (a' := ?_) #[true, true, true, true, true, true, true, true, false, false, false, false, false, false, false, false, false, false, false] rfl rfl (any_of HT_.out (by kernel_rfl)) (fun _ _ _ h => h) (Or.inl ⟨by rfl, ?_⟩) ?_ ?_
                 rotate_left
                 ·intro w'
                  go_simp
                  with_reducible rfl
                 rotate_left
                 ·simp only [Act.put, HW.LA, HW.LZ, HW.LS, i64_w, i32_w]
                  rfl
                 refine pure_ (i := 8) (N := some 155) (v := ?_) (a' := ?_) #[true, true, true, true, true, true, true, true, true, false, false, false, false, false, false, false, false, false, false] rfl rfl (any_of HT_.out (by kernel_rfl)) (fun _ _ _ h => h) (Or.inl ⟨by rfl, ?_⟩) ?_ ?_
                 rotate_left
                 ·intro w'
                  go_simp
                  with_reducible rfl
                 rotate_left
                 ·simp only [Act.put, HW.LA, HW.LZ, HW.LS, i64_w, i32_w]
                  rfl
                 refine pure_ (i := 9) (N := some 156) (v := ?_) (a' := ?_) #[true, true, true, true, true, true, true, true, true, true, false, false, false, false, false, false, false, false, false] rfl rfl (any_of HT_.out (by kernel_rfl)) (fun _ _ _ h => h) (Or.inl ⟨by rfl, ?_⟩) ?_ ?_
                 rotate_left
                 ·intro w'
                  go_simp
                  with_reducible rfl
                 rotate_left
                 ·simp only [Act.put, HW.LA, HW.LZ, HW.LS, i64_w, i32_w]
                  rfl
                 refine take_ (i := 10) (N := some 157) (v := ?_) (a' := ?_) #[true, true, true, true, true, true, true, true, true, true, true, false, false, false, false, false, false, false, false] rfl rfl (take_ofW HT_.out HW_.out (by kernel_rfl)) (fun _ _ _ h => h) (Or.inl ⟨by rfl, ?_⟩) hHeld ?_ ?_
                 rotate_left
                 ·intro w' hS_
                  have hcv135 := Kd.C_string (P := Try.prog) (A := A133) (c := c133) Try.underlying22 Try.underlying5 Try.underlying9 (hS_ _ _ _ hrc135_)
                  have hcv136 := Kd.C_string (P := Try.prog) (A := A134) (c := c134) Try.underlying22 Try.underlying5 Try.underlying9 (hS_ _ _ _ hrc136_)
                  have hcv137 := Kd.C_string (P := Try.prog) (A := A327) (c := c327) Try.underlying22 Try.underlying5 Try.underlying9 (hS_ _ _ _ hrc137_)
                  have hcv138 := Kd.C_string (P := Try.prog) (A := A331) (c := c331) Try.underlying22 Try.underlying5 Try.underlying9 (hS_ _ _ _ hrc138_)
                  go_simp
                  with_reducible rfl
                 rotate_left
                 ·simp only [Act.put, HW.LA, HW.LZ, HW.LS, i64_w, i32_w]
                  rfl
                 refine pure_ (i := 11) (N := some 158) (v := ?_) (a' := ?_) #[true, true, true, true, true, true, true, true, true, true, true, true, false, false, false, false, false, false, false] rfl rfl (any_of HT_.out (by kernel_rfl)) (fun _ _ _ h => h) (Or.inl ⟨by rfl, ?_⟩) ?_ ?_
                 rotate_left
                 ·intro w'
                  go_simp
                  with_reducible rfl
                 rotate_left
                 ·simp only [Act.put, HW.LA, HW.LZ, HW.LS, i64_w, i32_w]
                  rfl
                 refine pure_ (i := 12) (N := some 159) (v := ?_) (a' := ?_) #[true, true, true, true, true, true, true, true, true, true, true, true, true, false, false, false, false, false, false] rfl rfl (any_of HT_.out (by kernel_rfl)) (fun _ _ _ h => h) (Or.inl ⟨by rfl, ?_⟩) ?_ ?_
                 rotate_left
                 ·intro w'
                  go_simp
                  with_reducible rfl
                 rotate_left
                 ·simp only [Act.put, HW.LA, HW.LZ, HW.LS, i64_w, i32_w]
                  rfl
                 refine take_ (i := 13) (N := some 160) (v := ?_) (a' := ?_) #[true, true, true, true, true, true, true, true, true, true, true, true, true, true, false, false, false, false, false] rfl rfl (take_ofW HT_.out HW_.out (by kernel_rfl)) (fun _ _ _ h => h) (Or.inl ⟨by rfl, ?_⟩) hHeld ?_ ?_
                 rotate_left
                 ·intro w' hS_
                  have hcv135 := Kd.C_string (P := Try.prog) (A := A133) (c := c133) Try.underlying22 Try.underlying5 Try.underlying9 (hS_ _ _ _ hrc135_)
                  have hcv136 := Kd.C_string (P := Try.prog) (A := A134) (c := c134) Try.underlying22 Try.underlying5 Try.underlying9 (hS_ _ _ _ hrc136_)
                  have hcv137 := Kd.C_string (P := Try.prog) (A := A327) (c := c327) Try.underlying22 Try.underlying5 Try.underlying9 (hS_ _ _ _ hrc137_)
                  have hcv138 := Kd.C_string (P := Try.prog) (A := A331) (c := c331) Try.underlying22 Try.underlying5 Try.underlying9 (hS_ _ _ _ hrc138_)
                  go_simp
                  with_reducible rfl
                 rotate_left
                 ·simp only [Act.put, HW.LA, HW.LZ, HW.LS, i64_w, i32_w]
                  rfl
                 refine pure_ (i := 14) (N := some 161) (v := ?_) (a' := ?_) #[true, true, true, true, true, true, true, true, true, true, true, true, true, true, true, false, false, false, false] rfl rfl (any_of HT_.out (by kernel_rfl)) (fun _ _ _ h => h) (Or.inl ⟨by rfl, ?_⟩) ?_ ?_
                 rotate_left
                 ·intro w'
                  go_simp
                  with_reducible rfl
                 rotate_left
                 ·simp only [Act.put, HW.LA, HW.LZ, HW.LS, i64_w, i32_w]
                  rfl
                 refine pure_ (i := 15) (N := some 162) (v := ?_) (a' := ?_) #[true, true, true, true, true, true, true, true, true, true, true, true, true, true, true, true, false, false, false] rfl rfl (any_of HT_.out (by kernel_rfl)) (fun _ _ _ h => h) (Or.inl ⟨by rfl, ?_⟩) ?_ ?_
                 rotate_left
                 ·intro w'
                  go_simp
                  with_reducible rfl
                 rotate_left
                 ·simp only [Act.put, HW.LA, HW.LZ, HW.LS, i64_w, i32_w]
                  rfl
                 refine pure_ (i := 16) (N := some 163) (v := ?_) (a' := ?_) #[true, true, true, true, true, true, true, true, true, true, true, true, true, true, true, true, true, false, false] rfl rfl (any_of HT_.out (by kernel_rfl)) (fun _ _ _ h => h) (Or.inl ⟨by rfl, ?_⟩) ?_ ?_
                 rotate_left
                 ·intro w'
                  go_simp
                  with_reducible rfl
                 rotate_left
                 ·simp only [Act.put, HW.LA, HW.LZ, HW.LS, i64_w, i32_w]
                  rfl
                 refine pure_ (i := 17) (N := some 164) (v := ?_) (a' := ?_) #[true, true, true, true, true, true, true, true, true, true, true, true, true, true, true, true, true, true, false] rfl rfl (any_of HT_.out (by kernel_rfl)) (fun _ _ _ h => h) (Or.inl ⟨by rfl, ?_⟩) ?_ ?_
                 rotate_left
                 ·intro w'
                  go_simp
                  with_reducible rfl
                 rotate_left
                 ·simp only [Act.put, HW.LA, HW.LZ, HW.LS, i64_w, i32_w]
                  rfl
                 refine pure_ (i := 18) (N := some 165) (v := ?_) (a' := ?_) #[true, true, true, true, true, true, true, true, true, true, true, true, true, true, true, true, true, true, true] rfl rfl (any_of HT_.out (by kernel_rfl)) (fun _ _ _ h => h) (Or.inl ⟨by rfl, ?_⟩) ?_ ?_
                 rotate_left
                 ·intro w'
                  go_simp
                  with_reducible rfl
                 rotate_left
                 ·simp only [Act.put, HW.LA, HW.LZ, HW.LS, i64_w, i32_w]
                  rfl
                 refine done_ (done_of HT_.out (by kernel_rfl)) ?_
                 try go_wp2
                 go_meet
                 case rel => exact ⟨_, (((strOfNums y308).toList == (strOfNums y312).toList)), (by first | rfl | (simp; done) | (simp [*]; done)), H', ⟨by have := HJ6.out; have := HJ25.out; have := HJ57.out; have := HJ71.out; first | omega | exact Nat.le_refl _⟩, ⟨by (try simp only [hl10_25]); (with_reducible repeat (first | apply Kd.R_alloc | apply Kd.R_drewN | apply Kd.R_drew)); first | exact HO_10.out | exact Kd.R_mono HO_10.out (fun _ hk => ⟨hk.1, hk.2.1⟩) | exact Kd.R_mono HO_10.out (fun _ hk => HW.two_of hk)⟩, ⟨by (try simp only [hl10_25]); (with_reducible repeat (first | apply Kd.R_alloc | apply Kd.R_drewN | apply Kd.R_drew)); first | exact HO_259001.out | exact Kd.R_mono HO_259001.out (fun _ hk => ⟨hk.1, hk.2.1⟩) | exact Kd.R_mono HO_259001.out (fun _ hk => HW.two_of hk)⟩, ⟨by (try simp only [hl10_25]); (with_reducible repeat (first | apply Kd.R_alloc | apply Kd.R_drewN | apply Kd.R_drew)); first | exact HO_283001.out | exact Kd.R_mono HO_283001.out (fun _ hk => ⟨hk.1, hk.2.1⟩) | exact Kd.R_mono HO_283001.out (fun _ hk => HW.two_of hk)⟩, ⟨by (try simp only [hl10_25]); (with_reducible repeat (first | refine blk_drewN ?_ _ | refine blk_drew ?_ | refine blk_alloc ?_ _)); exact BK258.out⟩, ⟨by (try simp only [hl10_25]); (with_reducible repeat (first | refine blk_drewN ?_ _ | refine blk_drew ?_ | refine blk_alloc ?_ _)); exact BK259.out⟩, ⟨by (try simp only [hl10_25]); (with_reducible repeat (first | refine blk_drewN ?_ _ | refine blk_drew ?_ | refine blk_alloc ?_ _)); exact BK282.out⟩, ⟨by repeat (first | (with_reducible first | exact HB.out | apply below_alloc | apply pw_below_drewN | apply below_drew1 | refine below_set ?_ GE258.out | refine below_set ?_ GE259.out | refine below_set ?_ GE282.out) | exact HB.out)⟩⟩
                ·rw [if_neg c131] at H
                 have c131b0 : ((strOfNums y324).toList == (strOfNums y328).toList) = false := beq_eq_false_iff_ne.mpr c131
                 have c131b1 : ((strOfNums y324).toList != (strOfNums y328).toList) = true := bne_iff_ne.mpr c131
                 have H' := Aside0.mk H
                 clear H
                 try go_wp2
                 have n0_ := Aside0.mk (Kd.R_drew HO_8.out)
                 have n1_ := Aside0.mk (Kd.R_drew HO_10.out)
                 have n2_ := Aside0.mk (Kd.R_drew HO_259001.out)
                 have n3_ := Aside0.mk (Kd.R_drew HO_283001.out)
                 have n4_ := Aside0.mk (blk_drew BK258.out)
                 have n5_ := Aside0.mk (blk_drew BK259.out)
                 have n6_ := Aside0.mk (blk_drew BK282.out)
                 have n7_ := Aside0.mk (below_drew1 HB.out)
                 clear HO_8
                 clear HO_10
                 clear HO_259001
                 clear HO_283001
                 clear BK258
                 clear BK259
                 clear BK282
                 clear HB
                 have HO_8 := n0_
                 have HO_10 := n1_
                 have HO_259001 := n2_
                 have HO_283001 := n3_
                 have BK258 := n4_
                 have BK259 := n5_
                 have BK282 := n6_
                 have HB := n7_
                 clear n0_ n1_ n2_ n3_ n4_ n5_ n6_ n7_
                 have q143 : (6 : Int) ≤ ((x10_25.length : Int) : Int) := of_decide_eq_true (by first | (with_reducible assumption) | assumption)
                 obtain ⟨i0143, hi0143, _, hsz143, _⟩ := info_parts info5
                 have hroom143 : x10_25.length ≤ co33 := (Kd.R_reads' HO_10.out).2.1
                 have hC143 : Kd.C (Kd.int .u8) _ Ao33 x10_25.length x10_25 := (Kd.R_reads' HO_10.out).2.2
                 have ql143 : (2 : Int) ≤ (6 : Int) := (by omega)
                 have hcut143 := cut_mid (P := Try.prog) 22 5 .i64 .i64 Try.underlying22 hi0143 1 hsz143 Ao33 x10_25.length co33 2 6 (by omega) ql143 q143 hroom143
                 have hr143 := Kd.C_mid (lo := (2 : Int).toNat) (hi := (6 : Int).toNat) (c := co33) hC143 (by omega) (by omega) hroom143
                 obtain ⟨A143, hA143⟩ : ∃ A1, A1 = (if co33 = (2 : Int).toNat then Ao33 else (Ao33 : Option Addr).map (·.add ((2 : Int).toNat * 1))) := ⟨_, rfl⟩
                 obtain ⟨c143, hc143⟩ : ∃ c1, c1 = co33 - (2 : Int).toNat := ⟨_, rfl⟩
                 have hy143 : y316.length = (6 : Int).toNat - (2 : Int).toNat := (by rw [Ny316.out, List.length_drop, List.length_take] <;> omega)
                 rw [show ((x10_25).take (6 : Int).toNat).drop (2 : Int).toNat = y316 from Ny316.out.symm] at hr143
                 replace hr143 : Kd.C (Kd.int .u8) _ A143 y316.length y316 := (by rw [hA143]; exact hr143)
                 rw [← hy143, ← hA143, ← hc143] at hcut143
                 have HR319 := Aside0.mk hr143
                 have HC319 := Aside0.mk (show y316.length ≤ c143 from by rw [hy143, hc143]; exact Nat.sub_le_sub_right (Nat.le_trans (by omega) hroom143) _)
                 clear hr143 hC143 hroom143 hi0143 hsz143 hc143
                 have KY143 := Aside0.mk hy143
                 have KA143 := Aside0.mk hA143
                 clear hy143 hA143
                 have KL143 := Aside0.mk (show 6 ≤ x10_25.length from by omega)
                 have KM143 := Aside0.mk (show 2 ≤ 6 from by omega)
                 replace q143 := eq_true q143
                 have q144 : (6 : Int) ≤ ((t265.length : Int) : Int) := of_decide_eq_true (by first | (with_reducible assumption) | assumption)
                 obtain ⟨i0144, hi0144, _, hsz144, _⟩ := info_parts info5
                 have hroom144 : t265.length ≤ co30 := (Kd.R_reads' HO_8.out).2.1
                 have hC144 : Kd.C (Kd.int .u8) _ Ao30 t265.length t265 := (Kd.R_reads' HO_8.out).2.2
                 have ql144 : (2 : Int) ≤ (6 : Int) := (by omega)
                 have hcut144 := cut_mid (P := Try.prog) 22 5 .i64 .i64 Try.underlying22 hi0144 1 hsz144 Ao30 t265.length co30 2 6 (by omega) ql144 q144 hroom144
                 have hr144 := Kd.C_mid (lo := (2 : Int).toNat) (hi := (6 : Int).toNat) (c := co30) hC144 (by omega) (by omega) hroom144
                 obtain ⟨A144, hA144⟩ : ∃ A1, A1 = (if co30 = (2 : Int).toNat then Ao30 else (Ao30 : Option Addr).map (·.add ((2 : Int).toNat * 1))) := ⟨_, rfl⟩
                 obtain ⟨c144, hc144⟩ : ∃ c1, c1 = co30 - (2 : Int).toNat := ⟨_, rfl⟩
                 have hy144 : y320.length = (6 : Int).toNat - (2 : Int).toNat := (by rw [Ny320.out, List.length_drop, List.length_take] <;> omega)
                 rw [show ((t265).take (6 : Int).toNat).drop (2 : Int).toNat = y320 from Ny320.out.symm] at hr144
                 replace hr144 : Kd.C (Kd.int .u8) _ A144 y320.length y320 := (by rw [hA144]; exact hr144)
                 rw [← hy144, ← hA144, ← hc144] at hcut144
                 have HR323 := Aside0.mk hr144
                 have HC323 := Aside0.mk (show y320.length ≤ c144 from by rw [hy144, hc144]; exact Nat.sub_le_sub_right (Nat.le_trans (by omega) hroom144) _)
                 clear hr144 hC144 hroom144 hi0144 hsz144 hc144
                 have KY144 := Aside0.mk hy144
                 have KA144 := Aside0.mk hA144
                 clear hy144 hA144
                 have KL144 := Aside0.mk (show 6 ≤ t265.length from by omega)
                 have KM144 := Aside0.mk (show 2 ≤ 6 from by omega)
                 replace q144 := eq_true q144
                 have qM147 : (14 : Int) ≤ ((x10_25.length : Int) : Int) := of_decide_eq_true (by first | (with_reducible assumption) | assumption)
                 obtain ⟨i0M147, hi0M147, _, hszM147, _⟩ := info_parts info5
                 have hroomM147 : x10_25.length ≤ co33 := (Kd.R_reads' HO_10.out).2.1
                 have hCM147 : Kd.C (Kd.int .u8) _ Ao33 x10_25.length x10_25 := (Kd.R_reads' HO_10.out).2.2
                 have hcutM147 := cut_mid (P := Try.prog) 22 5 .i64 .i64 Try.underlying22 hi0M147 1 hszM147 Ao33 x10_25.length co33 10 14 (by omega) (by omega) qM147 hroomM147
                 have hrM147 := Kd.C_mid (lo := (10 : Int).toNat) (hi := (14 : Int).toNat) (c := co33) hCM147 (by omega) (by omega) hroomM147
                 obtain ⟨A140, hAM147⟩ : ∃ A1, A1 = (if co33 = (10 : Int).toNat then Ao33 else (Ao33 : Option Addr).map (·.add ((10 : Int).toNat * 1))) := ⟨_, rfl⟩
                 obtain ⟨c140, hcM147⟩ : ∃ c1, c1 = co33 - (10 : Int).toNat := ⟨_, rfl⟩
                 have hyM147 : y324.length = (14 : Int).toNat - (10 : Int).toNat := (by rw [Ny324.out, List.length_drop, List.length_take] <;> omega)
                 rw [show ((x10_25).take (14 : Int).toNat).drop (10 : Int).toNat = y324 from Ny324.out.symm] at hrM147
                 replace hrM147 : Kd.C (Kd.int .u8) _ A140 y324.length y324 := (by rw [hAM147]; exact hrM147)
                 rw [← hyM147, ← hAM147, ← hcM147] at hcutM147
                 have HR327 := Aside0.mk hrM147
                 have KYM147 := Aside0.mk hyM147
                 have KAM147 := Aside0.mk hAM147
                 clear hrM147 hCM147 hroomM147 hi0M147 hszM147 hcM147 hyM147 hAM147
                 replace qM147 := eq_true qM147
                 have qM148 : (14 : Int) ≤ ((t265.length : Int) : Int) := of_decide_eq_true (by first | (with_reducible assumption) | assumption)
                 obtain ⟨i0M148, hi0M148, _, hszM148, _⟩ := info_parts info5
                 have hroomM148 : t265.length ≤ co30 := (Kd.R_reads' HO_8.out).2.1
                 have hCM148 : Kd.C (Kd.int .u8) _ Ao30 t265.length t265 := (Kd.R_reads' HO_8.out).2.2
                 have hcutM148 := cut_mid (P := Try.prog) 22 5 .i64 .i64 Try.underlying22 hi0M148 1 hszM148 Ao30 t265.length co30 10 14 (by omega) (by omega) qM148 hroomM148
                 have hrM148 := Kd.C_mid (lo := (10 : Int).toNat) (hi := (14 : Int).toNat) (c := co30) hCM148 (by omega) (by omega) hroomM148
                 obtain ⟨A141, hAM148⟩ : ∃ A1, A1 = (if co30 = (10 : Int).toNat then Ao30 else (Ao30 : Option Addr).map (·.add ((10 : Int).toNat * 1))) := ⟨_, rfl⟩
                 obtain ⟨c141, hcM148⟩ : ∃ c1, c1 = co30 - (10 : Int).toNat := ⟨_, rfl⟩
                 have hyM148 : y328.length = (14 : Int).toNat - (10 : Int).toNat := (by rw [Ny328.out, List.length_drop, List.length_take] <;> omega)
                 rw [show ((t265).take (14 : Int).toNat).drop (10 : Int).toNat = y328 from Ny328.out.symm] at hrM148
                 replace hrM148 : Kd.C (Kd.int .u8) _ A141 y328.length y328 := (by rw [hAM148]; exact hrM148)
                 rw [← hyM148, ← hAM148, ← hcM148] at hcutM148
                 have HR331 := Aside0.mk hrM148
                 have KYM148 := Aside0.mk hyM148
                 have KAM148 := Aside0.mk hAM148
                 clear hrM148 hCM148 hroomM148 hi0M148 hszM148 hcM148 hyM148 hAM148
                 replace qM148 := eq_true qM148
                 have hrc145_ := HW.keepC (w := w110.drew) (by repeat (first | (with_reducible exact HR319.out) | (with_reducible refine Kd.C_alloc ?_ _) | (with_reducible refine Kd.C_drewN ?_ _) | (with_reducible refine Kd.C_drew ?_) | exact HR319.out))
                 have hrc146_ := HW.keepC (w := w110.drew) (by repeat (first | (with_reducible exact HR323.out) | (with_reducible refine Kd.C_alloc ?_ _) | (with_reducible refine Kd.C_drewN ?_ _) | (with_reducible refine Kd.C_drew ?_) | exact HR323.out))
                 have hrc147_ := HW.keepC (w := w110.drew) (by repeat (first | (with_reducible exact HR327.out) | (with_reducible refine Kd.C_alloc ?_ _) | (with_reducible refine Kd.C_drewN ?_ _) | (with_reducible refine Kd.C_drew ?_) | exact HR327.out))
                 have hrc148_ := HW.keepC (w := w110.drew) (by repeat (first | (with_reducible exact HR331.out) | (with_reducible refine Kd.C_alloc ?_ _) | (with_reducible refine Kd.C_drewN ?_ _) | (with_reducible refine Kd.C_drew ?_) | exact HR331.out))
                 refine start_ (n := 19) (S := fun w' => ∀ (A_ : Option Addr) (n_ : Nat) (x_ : List Int), Kd.C (Kd.int .u8) w110.drew A_ n_ x_ → Kd.C (Kd.int .u8) w' A_ n_ x_) (ds := []) #[false, false, false, false, false, false, false, false, false, false, false, false, false, false, false, false, false, false, false] (by kernel_rfl) rfl rfl (fun _ _ _ h_ => h_) (fun hHeld => ?_); refine with_tabW phaetonlaw24_ImageBurst.tab21 phaetonlaw24_ImageBurst.bits21 (fun HT_ HW_ => ?_)
                 generalize w110.drew = w142 at HO_8 HO_10 HO_259001 HO_283001 BK258 BK259 BK282 HB HR319 HR323 hrc145_ hrc146_ hrc147_ hrc148_ hHeld ⊢
                 refine pure_ (i := 0) (N := some 147) (v := ?_) (a' := ?_) #[true, false, false, false, false, false, false, false, false, false, false, false, false, false, false, false, false, false, false] rfl rfl (any_of HT_.out (by kernel_rfl)) (fun _ _ _ h => h) (Or.inl ⟨by rfl, ?_⟩) ?_ ?_
                 rotate_left
                 ·intro w'
                  go_simp
                  with_reducible rfl
                 rotate_left
                 ·simp only [Act.put, HW.LA, HW.LZ, HW.LS, i64_w, i32_w]
                  rfl
                 refine pure_ (i := 1) (N := some 148) (v := ?_) (a' := ?_) #[true, true, false, false, false, false, false, false, false, false, false, false, false, false, false, false, false, false, false] rfl rfl (any_of HT_.out (by kernel_rfl)) (fun _ _ _ h => h) (Or.inl ⟨by rfl, ?_⟩) ?_ ?_
                 rotate_left
                 ·intro w'
                  go_simp
                  with_reducible rfl
                 rotate_left
                 ·simp only [Act.put, HW.LA, HW.LZ, HW.LS, i64_w, i32_w]
                  rfl
                 refine take_ (i := 2) (N := some 149) (v := ?_) (a' := ?_) #[true, true, true, false, false, false, false, false, false, false, false, false, false, false, false, false, false, false, false] rfl rfl (take_ofW HT_.out HW_.out (by kernel_rfl)) (fun _ _ _ h => h) (Or.inl ⟨by rfl, ?_⟩) hHeld ?_ ?_
                 rotate_left
                 ·intro w' hS_
                  have hcv145 := Kd.C_string (P := Try.prog) (A := A143) (c := c143) Try.underlying22 Try.underlying5 Try.underlying9 (hS_ _ _ _ hrc145_)
                  have hcv146 := Kd.C_string (P := Try.prog) (A := A144) (c := c144) Try.underlying22 Try.underlying5 Try.underlying9 (hS_ _ _ _ hrc146_)
                  have hcv147 := Kd.C_string (P := Try.prog) (A := A140) (c := c140) Try.underlying22 Try.underlying5 Try.underlying9 (hS_ _ _ _ hrc147_)
                  have hcv148 := Kd.C_string (P := Try.prog) (A := A141) (c := c141) Try.underlying22 Try.underlying5 Try.underlying9 (hS_ _ _ _ hrc148_)
                  go_simp
                  with_reducible rfl
                 rotate_left
                 ·simp only [Act.put, HW.LA, HW.LZ, HW.LS, i64_w, i32_w]
                  rfl
                 refine pure_ (i := 3) (N := some 150) (v := ?_) (a' := ?_) #[true, true, true, true, false, false, false, false, false, false, false, false, false, false, false, false, false, false, false] rfl rfl (any_of HT_.out (by kernel_rfl)) (fun _ _ _ h => h) (Or.inl ⟨by rfl, ?_⟩) ?_ ?_
                 rotate_left
                 ·intro w'
                  go_simp
                  with_reducible rfl
                 rotate_left
                 ·simp only [Act.put, HW.LA, HW.LZ, HW.LS, i64_w, i32_w]
                  rfl
                 refine pure_ (i := 4) (N := some 151) (v := ?_) (a' := ?_) #[true, true, true, true, true, false, false, false, false, false, false, false, false, false, false, false, false, false, false] rfl rfl (any_of HT_.out (by kernel_rfl)) (fun _ _ _ h => h) (Or.inl ⟨by rfl, ?_⟩) ?_ ?_
                 rotate_left
                 ·intro w'
                  go_simp
                  with_reducible rfl
                 rotate_left
                 ·simp only [Act.put, HW.LA, HW.LZ, HW.LS, i64_w, i32_w]
                  rfl
                 refine take_ (i := 5) (N := some 152) (v := ?_) (a' := ?_) #[true, true, true, true, true, true, false, false, false, false, false, false, false, false, false, false, false, false, false] rfl rfl (take_ofW HT_.out HW_.out (by kernel_rfl)) (fun _ _ _ h => h) (Or.inl ⟨by rfl, ?_⟩) hHeld ?_ ?_
                 rotate_left
                 ·intro w' hS_
                  have hcv145 := Kd.C_string (P := Try.prog) (A := A143) (c := c143) Try.underlying22 Try.underlying5 Try.underlying9 (hS_ _ _ _ hrc145_)
                  have hcv146 := Kd.C_string (P := Try.prog) (A := A144) (c := c144) Try.underlying22 Try.underlying5 Try.underlying9 (hS_ _ _ _ hrc146_)
                  have hcv147 := Kd.C_string (P := Try.prog) (A := A140) (c := c140) Try.underlying22 Try.underlying5 Try.underlying9 (hS_ _ _ _ hrc147_)
                  have hcv148 := Kd.C_string (P := Try.prog) (A := A141) (c := c141) Try.underlying22 Try.underlying5 Try.underlying9 (hS_ _ _ _ hrc148_)
                  go_simp
                  with_reducible rfl
                 rotate_left
                 ·simp only [Act.put, HW.LA, HW.LZ, HW.LS, i64_w, i32_w]
                  rfl
                 refine pure_ (i := 6) (N := some 153) (v := ?_) (a' := ?_) #[true, true, true, true, true, true, true, false, false, false, false, false, false, false, false, false, false, false, false] rfl rfl (any_of HT_.out (by kernel_rfl)) (fun _ _ _ h => h) (Or.inl ⟨by rfl, ?_⟩) ?_ ?_
                 rotate_left
                 ·intro w'
                  go_simp
                  with_reducible rfl
                 rotate_left
                 ·simp only [Act.put, HW.LA, HW.LZ, HW.LS, i64_w, i32_w]
                  rfl
                 refine pure_ (i := 7) (N := some 154) (v := ?_) (a' := ?_) #[true, true, true, true, true, true, true, true, false, false, false, false, false, false, false, false, false, false, false] rfl rfl (any_of HT_.out (by kernel_rfl)) (fun _ _ _ h => h) (Or.inl ⟨by rfl, ?_⟩) ?_ ?_
                 rotate_left
                 ·intro w'
                  go_simp
                  with_reducible rfl
                 rotate_left
                 ·simp only [Act.put, HW.LA, HW.LZ, HW.LS, i64_w, i32_w]
                  rfl
                 refine pure_ (i := 8) (N := some 155) (v := ?_) (a' := ?_) #[true, true, true, true, true, true, true, true, true, false, false, false, false, false, false, false, false, false, false] rfl rfl (any_of HT_.out (by kernel_rfl)) (fun _ _ _ h => h) (Or.inl ⟨by rfl, ?_⟩) ?_ ?_
                 rotate_left
                 ·intro w'
                  go_simp
                  with_reducible rfl
                 rotate_left
                 ·simp only [Act.put, HW.LA, HW.LZ, HW.LS, i64_w, i32_w]
                  rfl
                 refine pure_ (i := 9) (N := some 156) (v := ?_) (a' := ?_) #[true, true, true, true, true, true, true, true, true, true, false, false, false, false, false, false, false, false, false] rfl rfl (any_of HT_.out (by kernel_rfl)) (fun _ _ _ h => h) (Or.inl ⟨by rfl, ?_⟩) ?_ ?_
                 rotate_left
                 ·intro w'
                  go_simp
                  with_reducible rfl
                 rotate_left
                 ·simp only [Act.put, HW.LA, HW.LZ, HW.LS, i64_w, i32_w]
                  rfl
                 refine take_ (i := 10) (N := some 157) (v := ?_) (a' := ?_) #[true, true, true, true, true, true, true, true, true, true, true, false, false, false, false, false, false, false, false] rfl rfl (take_ofW HT_.out HW_.out (by kernel_rfl)) (fun _ _ _ h => h) (Or.inl ⟨by rfl, ?_⟩) hHeld ?_ ?_
                 rotate_left
                 ·intro w' hS_
                  have hcv145 := Kd.C_string (P := Try.prog) (A := A143) (c := c143) Try.underlying22 Try.underlying5 Try.underlying9 (hS_ _ _ _ hrc145_)
                  have hcv146 := Kd.C_string (P := Try.prog) (A := A144) (c := c144) Try.underlying22 Try.underlying5 Try.underlying9 (hS_ _ _ _ hrc146_)
                  have hcv147 := Kd.C_string (P := Try.prog) (A := A140) (c := c140) Try.underlying22 Try.underlying5 Try.underlying9 (hS_ _ _ _ hrc147_)
                  have hcv148 := Kd.C_string (P := Try.prog) (A := A141) (c := c141) Try.underlying22 Try.underlying5 Try.underlying9 (hS_ _ _ _ hrc148_)
                  go_simp
                  with_reducible rfl
                 rotate_left
                 ·simp only [Act.put, HW.LA, HW.LZ, HW.LS, i64_w, i32_w]
                  rfl
                 refine pure_ (i := 11) (N := some 158) (v := ?_) (a' := ?_) #[true, true, true, true, true, true, true, true, true, true, true, true, false, false, false, false, false, false, false] rfl rfl (any_of HT_.out (by kernel_rfl)) (fun _ _ _ h => h) (Or.inl ⟨by rfl, ?_⟩) ?_ ?_
                 rotate_left
                 ·intro w'
                  go_simp
                  with_reducible rfl
                 rotate_left
                 ·simp only [Act.put, HW.LA, HW.LZ, HW.LS, i64_w, i32_w]
                  rfl
                 refine pure_ (i := 12) (N := some 159) (v := ?_) (a' := ?_) #[true, true, true, true, true, true, true, true, true, true, true, true, true, false, false, false, false, false, false] rfl rfl (any_of HT_.out (by kernel_rfl)) (fun _ _ _ h => h) (Or.inl ⟨by rfl, ?_⟩) ?_ ?_
                 rotate_left
                 ·intro w'
                  go_simp
                  with_reducible rfl
                 rotate_left
                 ·simp only [Act.put, HW.LA, HW.LZ, HW.LS, i64_w, i32_w]
                  rfl
                 refine take_ (i := 13) (N := some 160) (v := ?_) (a' := ?_) #[true, true, true, true, true, true, true, true, true, true, true, true, true, true, false, false, false, false, false] rfl rfl (take_ofW HT_.out HW_.out (by kernel_rfl)) (fun _ _ _ h => h) (Or.inl ⟨by rfl, ?_⟩) hHeld ?_ ?_
                 rotate_left
                 ·intro w' hS_
                  have hcv145 := Kd.C_string (P := Try.prog) (A := A143) (c := c143) Try.underlying22 Try.underlying5 Try.underlying9 (hS_ _ _ _ hrc145_)
                  have hcv146 := Kd.C_string (P := Try.prog) (A := A144) (c := c144) Try.underlying22 Try.underlying5 Try.underlying9 (hS_ _ _ _ hrc146_)
                  have hcv147 := Kd.C_string (P := Try.prog) (A := A140) (c := c140) Try.underlying22 Try.underlying5 Try.underlying9 (hS_ _ _ _ hrc147_)
                  have hcv148 := Kd.C_string (P := Try.prog) (A := A141) (c := c141) Try.underlying22 Try.underlying5 Try.underlying9 (hS_ _ _ _ hrc148_)
                  go_simp
                  with_reducible rfl
                 rotate_left
                 ·simp only [Act.put, HW.LA, HW.LZ, HW.LS, i64_w, i32_w]
                  rfl
                 refine pure_ (i := 14) (N := some 161) (v := ?_) (a' := ?_) #[true, true, true, true, true, true, true, true, true, true, true, true, true, true, true, false, false, false, false] rfl rfl (any_of HT_.out (by kernel_rfl)) (fun _ _ _ h => h) (Or.inl ⟨by rfl, ?_⟩) ?_ ?_
                 rotate_left
                 ·intro w'
                  go_simp
                  with_reducible rfl
                 rotate_left
                 ·simp only [Act.put, HW.LA, HW.LZ, HW.LS, i64_w, i32_w]
                  rfl
                 refine pure_ (i := 15) (N := some 162) (v := ?_) (a' := ?_) #[true, true, true, true, true, true, true, true, true, true, true, true, true, true, true, true, false, false, false] rfl rfl (any_of HT_.out (by kernel_rfl)) (fun _ _ _ h => h) (Or.inl ⟨by rfl, ?_⟩) ?_ ?_
                 rotate_left
                 ·intro w'
                  go_simp
                  with_reducible rfl
                 rotate_left
                 ·simp only [Act.put, HW.LA, HW.LZ, HW.LS, i64_w, i32_w]
                  rfl
                 refine pure_ (i := 16) (N := some 163) (v := ?_) (a' := ?_) #[true, true, true, true, true, true, true, true, true, true, true, true, true, true, true, true, true, false, false] rfl rfl (any_of HT_.out (by kernel_rfl)) (fun _ _ _ h => h) (Or.inl ⟨by rfl, ?_⟩) ?_ ?_
                 rotate_left
                 ·intro w'
                  go_simp
                  with_reducible rfl
                 rotate_left
                 ·simp only [Act.put, HW.LA, HW.LZ, HW.LS, i64_w, i32_w]
                  rfl
                 refine pure_ (i := 17) (N := some 164) (v := undef) (a' := ?_) #[true, true, true, true, true, true, true, true, true, true, true, true, true, true, true, true, true, true, false] rfl rfl (any_of HT_.out (by kernel_rfl)) (fun _ _ _ h => h) (Or.inr ⟨by rfl, rfl⟩) ?_ ?_
                 rotate_left
                 ·simp only [Act.put, HW.LA, HW.LZ, HW.LS, i64_w, i32_w]
                  rfl
                 refine pure_ (i := 18) (N := some 165) (v := ?_) (a' := ?_) #[true, true, true, true, true, true, true, true, true, true, true, true, true, true, true, true, true, true, true] rfl rfl (any_of HT_.out (by kernel_rfl)) (fun _ _ _ h => h) (Or.inl ⟨by rfl, ?_⟩) ?_ ?_
                 rotate_left
                 ·intro w'
                  go_simp
                  with_reducible rfl
                 rotate_left
                 ·simp only [Act.put, HW.LA, HW.LZ, HW.LS, i64_w, i32_w]
                  rfl
                 refine done_ (done_of HT_.out (by kernel_rfl)) ?_
                 try go_wp2
                 go_meet
                 case rel => exact ⟨_, (false), (by first | rfl | (simp; done) | (simp [*]; done)), H', ⟨by have := HJ6.out; have := HJ25.out; have := HJ57.out; have := HJ71.out; first | omega | exact Nat.le_refl _⟩, ⟨by (try simp only [hl10_25]); (with_reducible repeat (first | apply Kd.R_alloc | apply Kd.R_drewN | apply Kd.R_drew)); first | exact HO_10.out | exact Kd.R_mono HO_10.out (fun _ hk => ⟨hk.1, hk.2.1⟩) | exact Kd.R_mono HO_10.out (fun _ hk => HW.two_of hk)⟩, ⟨by (try simp only [hl10_25]); (with_reducible repeat (first | apply Kd.R_alloc | apply Kd.R_drewN | apply Kd.R_drew)); first | exact HO_259001.out | exact Kd.R_mono HO_259001.out (fun _ hk => ⟨hk.1, hk.2.1⟩) | exact Kd.R_mono HO_259001.out (fun _ hk => HW.two_of hk)⟩, ⟨by (try simp only [hl10_25]); (with_reducible repeat (first | apply Kd.R_alloc | apply Kd.R_drewN | apply Kd.R_drew)); first | exact HO_283001.out | exact Kd.R_mono HO_283001.out (fun _ hk => ⟨hk.1, hk.2.1⟩) | exact Kd.R_mono HO_283001.out (fun _ hk => HW.two_of hk)⟩, ⟨by (try simp only [hl10_25]); (with_reducible repeat (first | refine blk_drewN ?_ _ | refine blk_drew ?_ | refine blk_alloc ?_ _)); exact BK258.out⟩, ⟨by (try simp only [hl10_25]); (with_reducible repeat (first | refine blk_drewN ?_ _ | refine blk_drew ?_ | refine blk_alloc ?_ _)); exact BK259.out⟩, ⟨by (try simp only [hl10_25]); (with_reducible repeat (first | refine blk_drewN ?_ _ | refine blk_drew ?_ | refine blk_alloc ?_ _)); exact BK282.out⟩, ⟨by repeat (first | (with_reducible first | exact HB.out | apply below_alloc | apply pw_below_drewN | apply below_drew1 | refine below_set ?_ GE258.out | refine below_set ?_ GE259.out | refine below_set ?_ GE282.out) | exact HB.out)⟩⟩
              case rest => as_aux_lemma =>
               clear HC109
               try clear c1
               try clear q1
               try clear hcv1
               try clear p2
               try clear c3
               try clear c11
               try clear c12
               try clear c13
               try clear q13
               try clear hcv13
               try clear c14
               try clear q14
               try clear hcv14
               try clear c32
               try clear c33
               try clear c116
               try clear c117
               try clear c119
               try clear c120
               try clear c120b0
               try clear c120b1
               try clear c127
               try clear c127b0
               try clear c127b1
               try clear c128
               try clear c128b0
               try clear c128b1
               try clear c129
               try clear c129b0
               try clear c130
               try clear c130b0
               try clear c130b1
               try clear c131
               try clear c131b0
               try clear c131b1
               try clear c133
               try clear q133
               try clear c134
               try clear q134
               try clear hcv135
               try clear hcv136
               try clear hcv137
               try clear hcv138
               try clear c140
               try clear c141
               try clear c143
               try clear q143
               try clear c144
               try clear q144
               try clear hcv145
               try clear hcv146
               try clear hcv147
               try clear hcv148
               try clear q133
               try clear q134
               try clear q143
               try clear q144
               obtain ⟨kq, x165_108, rfl, HA, HJ108, HO_10, HO_259001, HO_283001, BK258, BK259, BK282, HB⟩ := hcut
               cases kq with
               | zero => exact absurd HA.out (by simp [phaetonlaw24_ImageBurst.j5])
               | succ kj108 =>
                have H := HA.out
                clear HA
                simp only [phaetonlaw24_ImageBurst.j5] at H
                by_cases c152 : x165_108 = true
                ·subst c152
                 have H1 : (if 2 < (x10_25.length : Int) then (if ((t281 == 240) == (decide ((rd x10_25 2) > 127))) = true then (if t281 = 240 then (if t260 = true then (some true) else (none)) else (if t281 = 242 then (if t260 = true then (some true) else (none)) else (none))) else (none)) else (none)) = some r := by rw [if_pos rfl] at H; exact H
                 clear H
                 have H := H1
                 clear H1
                 by_cases c153 : 2 < (x10_25.length : Int)
                 rotate_left
                 ·rw [if_neg c153] at H
                  exact absurd H (by simp)
                 rw [if_pos c153] at H
                 have c153b0 : decide (2 < (x10_25.length : Int)) = true := decide_eq_true c153
                 have c153b1 : decide (2 < x10_25.length) = true := decide_eq_true (by omega)
                 clear c153
                 by_cases c154 : ((t281 == 240) == (decide ((rd x10_25 2) > 127))) = true
                 rotate_left
                 ·rw [if_neg c154] at H
                  exact absurd H (by simp)
                 rw [if_pos c154] at H
                 have c154b0 : ((t281 == 240) == (decide ((rd x10_25 2) > 127))) = true := c154
                 (try (have c154b1 : decide ((t281 == 240) = (decide ((rd x10_25 2) > 127))) = true := by simpa using c154))
                 (try (have c154b2 : ((t281 == 240) == (decide ((rd x10_25 2) > 127))) = true := by simpa using c154))
                 clear c154
                 by_cases c155 : t281 = 240
                 ·rw [if_pos c155] at H
                  have c155b0 : (t281 == 240) = true := beq_iff_eq.mpr c155
                  have hbg_ : decide (rd x10_25 2 > 127) = true := by have h_ := c154b0; rw [c155b0] at h_; simpa using h_
                  have c155b1 : (t281 != 240) = false := bne_eq_false_iff_eq.mpr c155
                  clear c155
                  by_cases c156 : t260 = true
                  rotate_left
                  ·replace c156 := Bool.eq_false_iff.mpr c156
                   subst c156
                   have H1 : (none) = some r := by rw [if_neg (show ¬ (false = true) by decide)] at H; exact H
                   clear H
                   have H := H1
                   clear H1
                   exact absurd H (by simp)
                  subst c156
                  have H1 : (some true) = some r := by rw [if_pos rfl] at H; exact H
                  clear H
                  have H := H1
                  clear H1
                  obtain rfl := Option.some.inj H
                  have p332 : 0 ≤ (2 : Int) := (by omega)
                  have q332 : 2 < (x10_25.length : Int) := of_decide_eq_true (by first | (with_reducible assumption) | assumption)
                  obtain ⟨ad332, e332, hx332_0⟩ := Kd.at_int (Kd.R_reads' HO_10.out).2.2 2 p332 q332
                  cases e332
                  (try simp only [show (2 : Int).toNat = 2 from rfl, Nat.reduceMul, Nat.reduceEqDiff, Go.Addr.add, ↓reduceIte] at hx332_0)
                  have qi332 : (2 < x10_25.length) = True := eq_true (by omega)
                  (try rw [show ((2 : Int)).toNat = 2 from rfl] at hx332_0)
                  replace p332 := eq_true p332
                  replace q332 := eq_true q332
                  go_wp2
                  go_ret
                  exact ⟨by first | rfl | (simp [errW_none, errW_some] <;> rfl) | (simp [*, errW_none, errW_some] <;> rfl), by repeat (first | (with_reducible first | exact HB.out | apply below_alloc | apply pw_below_drewN | apply below_drew1 | refine below_set ?_ GE258.out | refine below_set ?_ GE259.out | refine below_set ?_ GE282.out) | exact HB.out)⟩
                 ·rw [if_neg c155] at H
                  have c155b0 : (t281 == 240) = false := beq_eq_false_iff_ne.mpr c155
                  have hbg_ : decide (rd x10_25 2 > 127) = false := by have h_ := c154b0; rw [c155b0] at h_; simpa using h_
                  have c155b1 : (t281 != 240) = true := bne_iff_ne.mpr c155
                  by_cases c157 : t281 = 242
                  rotate_left
                  ·rw [if_neg c157] at H
                   exact absurd H (by simp)
                  rw [if_pos c157] at H
                  have c157b0 : (t281 == 242) = true := beq_iff_eq.mpr c157
                  have c157b1 : (t281 != 242) = false := bne_eq_false_iff_eq.mpr c157
                  clear c157
                  by_cases c158 : t260 = true
                  rotate_left
                  ·replace c158 := Bool.eq_false_iff.mpr c158
                   subst c158
                   have H1 : (none) = some r := by rw [if_neg (show ¬ (false = true) by decide)] at H; exact H
                   clear H
                   have H := H1
                   clear H1
                   exact absurd H (by simp)
                  subst c158
                  have H1 : (some true) = some r := by rw [if_pos rfl] at H; exact H
                  clear H
                  have H := H1
                  clear H1
                  obtain rfl := Option.some.inj H
                  have p332 : 0 ≤ (2 : Int) := (by omega)
                  have q332 : 2 < (x10_25.length : Int) := of_decide_eq_true (by first | (with_reducible assumption) | assumption)
                  obtain ⟨ad332, e332, hx332_0⟩ := Kd.at_int (Kd.R_reads' HO_10.out).2.2 2 p332 q332
                  cases e332
                  (try simp only [show (2 : Int).toNat = 2 from rfl, Nat.reduceMul, Nat.reduceEqDiff, Go.Addr.add, ↓reduceIte] at hx332_0)
                  have qi332 : (2 < x10_25.length) = True := eq_true (by omega)
                  (try rw [show ((2 : Int)).toNat = 2 from rfl] at hx332_0)
                  replace p332 := eq_true p332
                  replace q332 := eq_true q332
                  go_wp2
                  go_ret
                  exact ⟨by first | rfl | (simp [errW_none, errW_some] <;> rfl) | (simp [*, errW_none, errW_some] <;> rfl), by repeat (first | (with_reducible first | exact HB.out | apply below_alloc | apply pw_below_drewN | apply below_drew1 | refine below_set ?_ GE258.out | refine below_set ?_ GE259.out | refine below_set ?_ GE282.out) | exact HB.out)⟩
                ·replace c152 := Bool.eq_false_iff.mpr c152
                 subst c152
                 have H1 : (if x15_71 = true then (if ((strOfNums y308).toList == (strOfNums y312).toList) = true then (if t281 = 242 then (if t260 = true then (some true) else (none)) else (none)) else (if t281 = 241 then (if t260 = true then (some true) else (none)) else (if 2 < (x10_25.length : Int) then (if (rd x10_25 2) > 127 then (if t281 = 240 then (if t260 = true then (some true) else (none)) else (none)) else (none)) else (none)))) else (if t281 = 241 then (if t260 = true then (some true) else (none)) else (if 2 < (x10_25.length : Int) then (if (rd x10_25 2) > 127 then (if t281 = 240 then (if t260 = true then (some true) else (none)) else (none)) else (none)) else (none)))) = some r := by rw [if_neg (show ¬ (false = true) by decide)] at H; exact H
                 clear H
                 have H := H1
                 clear H1
                 by_cases c159 : x15_71 = true
                 ·subst c159
                  have H1 : (if ((strOfNums y308).toList == (strOfNums y312).toList) = true then (if t281 = 242 then (if t260 = true then (some true) else (none)) else (none)) else (if t281 = 241 then (if t260 = true then (some true) else (none)) else (if 2 < (x10_25.length : Int) then (if (rd x10_25 2) > 127 then (if t281 = 240 then (if t260 = true then (some true) else (none)) else (none)) else (none)) else (none)))) = some r := by rw [if_pos rfl] at H; exact H
                  clear H
                  have H := H1
                  clear H1
                  by_cases c160 : ((strOfNums y308).toList == (strOfNums y312).toList) = true
                  ·rw [if_pos c160] at H
                   have c160b0 : ((strOfNums y308).toList == (strOfNums y312).toList) = true := c160
                   (try (have c160b1 : decide ((strOfNums y308).toList = (strOfNums y312).toList) = true := by simpa using c160))
                   (try (have c160b2 : ((strOfNums y308).toList == (strOfNums y312).toList) = true := by simpa using c160))
                   clear c160
                   by_cases c161 : t281 = 242
                   rotate_left
                   ·rw [if_neg c161] at H
                    exact absurd H (by simp)
                   rw [if_pos c161] at H
                   have c161b0 : (t281 == 242) = true := beq_iff_eq.mpr c161
                   have c161b1 : (t281 != 242) = false := bne_eq_false_iff_eq.mpr c161
                   clear c161
                   by_cases c162 : t260 = true
                   ·subst c162
                    have H1 : (some true) = some r := by rw [if_pos rfl] at H; exact H
                    clear H
                    have H := H1
                    clear H1
                    obtain rfl := Option.some.inj H
                    go_wp2
                    go_ret
                    exact ⟨by first | rfl | (simp [errW_none, errW_some] <;> rfl) | (simp [*, errW_none, errW_some] <;> rfl), by repeat (first | (with_reducible first | exact HB.out | apply below_alloc | apply pw_below_drewN | apply below_drew1 | refine below_set ?_ GE258.out | refine below_set ?_ GE259.out | refine below_set ?_ GE282.out) | exact HB.out)⟩
                   ·replace c162 := Bool.eq_false_iff.mpr c162
                    subst c162
                    have H1 : (none) = some r := by rw [if_neg (show ¬ (false = true) by decide)] at H; exact H
                    clear H
                    have H := H1
                    clear H1
                    exact absurd H (by simp)
                  ·rw [if_neg c160] at H
                   have c160b0 : ((strOfNums y308).toList == (strOfNums y312).toList) = false := by simpa using c160
                   (try (have c160b1 : decide ((strOfNums y308).toList = (strOfNums y312).toList) = false := by simpa using c160))
                   (try (have c160b2 : ((strOfNums y308).toList == (strOfNums y312).toList) = false := by simpa using c160))
                   (try (have c160b3 : ¬ ((strOfNums y308).toList = (strOfNums y312).toList) := by simpa using c160))
                   clear c160
                   by_cases c163 : t281 = 241
                   ·rw [if_pos c163] at H
                    have c163b0 : (t281 == 241) = true := beq_iff_eq.mpr c163
                    have c163b1 : (t281 != 241) = false := bne_eq_false_iff_eq.mpr c163
                    clear c163
                    by_cases c164 : t260 = true
                    ·subst c164
                     have H1 : (some true) = some r := by rw [if_pos rfl] at H; exact H
                     clear H
                     have H := H1
                     clear H1
                     obtain rfl := Option.some.inj H
                     go_wp2
                     go_ret
                     exact ⟨by first | rfl | (simp [errW_none, errW_some] <;> rfl) | (simp [*, errW_none, errW_some] <;> rfl), by repeat (first | (with_reducible first | exact HB.out | apply below_alloc | apply pw_below_drewN | apply below_drew1 | refine below_set ?_ GE258.out | refine below_set ?_ GE259.out | refine below_set ?_ GE282.out) | exact HB.out)⟩
                    ·replace c164 := Bool.eq_false_iff.mpr c164
                     subst c164
                     have H1 : (none) = some r := by rw [if_neg (show ¬ (false = true) by decide)] at H; exact H
                     clear H
                     have H := H1
                     clear H1
                     exact absurd H (by simp)
                   ·rw [if_neg c163] at H
                    have c163b0 : (t281 == 241) = false := beq_eq_false_iff_ne.mpr c163
                    have c163b1 : (t281 != 241) = true := bne_iff_ne.mpr c163
                    by_cases c165 : 2 < (x10_25.length : Int)
                    rotate_left
                    ·rw [if_neg c165] at H
                     exact absurd H (by simp)
                    rw [if_pos c165] at H
                    have c165b0 : decide (2 < (x10_25.length : Int)) = true := decide_eq_true c165
                    have c165b1 : decide (2 < x10_25.length) = true := decide_eq_true (by omega)
                    clear c165
                    by_cases c166 : (rd x10_25 2) > 127
                    rotate_left
                    ·rw [if_neg c166] at H
                     exact absurd H (by simp)
                    rw [if_pos c166] at H
                    have c166b0 : decide (127 < (rd x10_25 2)) = true := decide_eq_true c166
                    clear c166
                    by_cases c167 : t281 = 240
                    rotate_left
                    ·rw [if_neg c167] at H
                     exact absurd H (by simp)
                    rw [if_pos c167] at H
                    have c167b0 : (t281 == 240) = true := beq_iff_eq.mpr c167
                    have c167b1 : (t281 != 240) = false := bne_eq_false_iff_eq.mpr c167
                    clear c167
                    by_cases c168 : t260 = true
                    rotate_left
                    ·replace c168 := Bool.eq_false_iff.mpr c168
                     subst c168
                     have H1 : (none) = some r := by rw [if_neg (show ¬ (false = true) by decide)] at H; exact H
                     clear H
                     have H := H1
                     clear H1
                     exact absurd H (by simp)
                    subst c168
                    have H1 : (some true) = some r := by rw [if_pos rfl] at H; exact H
                    clear H
                    have H := H1
                    clear H1
                    obtain rfl := Option.some.inj H
                    have p333 : 0 ≤ (2 : Int) := (by omega)
                    have q333 : 2 < (x10_25.length : Int) := of_decide_eq_true (by first | (with_reducible assumption) | assumption)
                    obtain ⟨ad333, e333, hx333_0⟩ := Kd.at_int (Kd.R_reads' HO_10.out).2.2 2 p333 q333
                    cases e333
                    (try simp only [show (2 : Int).toNat = 2 from rfl, Nat.reduceMul, Nat.reduceEqDiff, Go.Addr.add, ↓reduceIte] at hx333_0)
                    have qi333 : (2 < x10_25.length) = True := eq_true (by omega)
                    (try rw [show ((2 : Int)).toNat = 2 from rfl] at hx333_0)
                    replace p333 := eq_true p333
                    replace q333 := eq_true q333
                    go_wp2
                    go_ret
                    exact ⟨by first | rfl | (simp [errW_none, errW_some] <;> rfl) | (simp [*, errW_none, errW_some] <;> rfl), by repeat (first | (with_reducible first | exact HB.out | apply below_alloc | apply pw_below_drewN | apply below_drew1 | refine below_set ?_ GE258.out | refine below_set ?_ GE259.out | refine below_set ?_ GE282.out) | exact HB.out)⟩
                 ·replace c159 := Bool.eq_false_iff.mpr c159
                  subst c159
                  have H1 : (if t281 = 241 then (if t260 = true then (some true) else (none)) else (if 2 < (x10_25.length : Int) then (if (rd x10_25 2) > 127 then (if t281 = 240 then (if t260 = true then (some true) else (none)) else (none)) else (none)) else (none))) = some r := by rw [if_neg (show ¬ (false = true) by decide)] at H; exact H
                  clear H
                  have H := H1
                  clear H1
                  by_cases c169 : t281 = 241
                  ·rw [if_pos c169] at H
                   have c169b0 : (t281 == 241) = true := beq_iff_eq.mpr c169
                   have c169b1 : (t281 != 241) = false := bne_eq_false_iff_eq.mpr c169
                   clear c169
                   by_cases c170 : t260 = true
                   ·subst c170
                    have H1 : (some true) = some r := by rw [if_pos rfl] at H; exact H
                    clear H
                    have H := H1
                    clear H1
                    obtain rfl := Option.some.inj H
                    go_wp2
                    go_ret
                    exact ⟨by first | rfl | (simp [errW_none, errW_some] <;> rfl) | (simp [*, errW_none, errW_some] <;> rfl), by repeat (first | (with_reducible first | exact HB.out | apply below_alloc | apply pw_below_drewN | apply below_drew1 | refine below_set ?_ GE258.out | refine below_set ?_ GE259.out | refine below_set ?_ GE282.out) | exact HB.out)⟩
                   ·replace c170 := Bool.eq_false_iff.mpr c170
                    subst c170
                    have H1 : (none) = some r := by rw [if_neg (show ¬ (false = true) by decide)] at H; exact H
                    clear H
                    have H := H1
                    clear H1
                    exact absurd H (by simp)
                  ·rw [if_neg c169] at H
                   have c169b0 : (t281 == 241) = false := beq_eq_false_iff_ne.mpr c169
                   have c169b1 : (t281 != 241) = true := bne_iff_ne.mpr c169
                   by_cases c171 : 2 < (x10_25.length : Int)
                   rotate_left
                   ·rw [if_neg c171] at H
                    exact absurd H (by simp)
                   rw [if_pos c171] at H
                   have c171b0 : decide (2 < (x10_25.length : Int)) = true := decide_eq_true c171
                   have c171b1 : decide (2 < x10_25.length) = true := decide_eq_true (by omega)
                   clear c171
                   by_cases c172 : (rd x10_25 2) > 127
                   rotate_left
                   ·rw [if_neg c172] at H
                    exact absurd H (by simp)
                   rw [if_pos c172] at H
                   have c172b0 : decide (127 < (rd x10_25 2)) = true := decide_eq_true c172
                   clear c172
                   by_cases c173 : t281 = 240
                   rotate_left
                   ·rw [if_neg c173] at H
                    exact absurd H (by simp)
                   rw [if_pos c173] at H
                   have c173b0 : (t281 == 240) = true := beq_iff_eq.mpr c173
                   have c173b1 : (t281 != 240) = false := bne_eq_false_iff_eq.mpr c173
                   clear c173
                   by_cases c174 : t260 = true
                   rotate_left
                   ·replace c174 := Bool.eq_false_iff.mpr c174
                    subst c174
                    have H1 : (none) = some r := by rw [if_neg (show ¬ (false = true) by decide)] at H; exact H
                    clear H
                    have H := H1
                    clear H1
                    exact absurd H (by simp)
                   subst c174
                   have H1 : (some true) = some r := by rw [if_pos rfl] at H; exact H
                   clear H
                   have H := H1
                   clear H1
                   obtain rfl := Option.some.inj H
                   have p334 : 0 ≤ (2 : Int) := (by omega)
                   have q334 : 2 < (x10_25.length : Int) := of_decide_eq_true (by first | (with_reducible assumption) | assumption)
                   obtain ⟨ad334, e334, hx334_0⟩ := Kd.at_int (Kd.R_reads' HO_10.out).2.2 2 p334 q334
                   cases e334
                   (try simp only [show (2 : Int).toNat = 2 from rfl, Nat.reduceMul, Nat.reduceEqDiff, Go.Addr.add, ↓reduceIte] at hx334_0)
                   have qi334 : (2 < x10_25.length) = True := eq_true (by omega)
                   (try rw [show ((2 : Int)).toNat = 2 from rfl] at hx334_0)
                   replace p334 := eq_true p334
                   replace q334 := eq_true q334
                   go_wp2
                   go_ret
                   exact ⟨by first | rfl | (simp [errW_none, errW_some] <;> rfl) | (simp [*, errW_none, errW_some] <;> rfl), by repeat (first | (with_reducible first | exact HB.out | apply below_alloc | apply pw_below_drewN | apply below_drew1 | refine below_set ?_ GE258.out | refine below_set ?_ GE259.out | refine below_set ?_ GE282.out) | exact HB.out)⟩
             ·replace c108 := Bool.eq_false_iff.mpr c108
              subst c108
              have H1 : (if t281 = 240 then (if t260 = true then (some true) else (none)) else (none)) = some r := by rw [if_neg (show ¬ (false = true) by decide)] at H; exact H
              clear H
              have H := H1
              clear H1
              by_cases c175 : t281 = 240
              rotate_left
              ·rw [if_neg c175] at H
               exact absurd H (by simp)
              rw [if_pos c175] at H
              have c175b0 : (t281 == 240) = true := beq_iff_eq.mpr c175
              have c175b1 : (t281 != 240) = false := bne_eq_false_iff_eq.mpr c175
              clear c175
              by_cases c176 : t260 = true
              rotate_left
              ·replace c176 := Bool.eq_false_iff.mpr c176
               subst c176
               have H1 : (none) = some r := by rw [if_neg (show ¬ (false = true) by decide)] at H; exact H
               clear H
               have H := H1
               clear H1
               exact absurd H (by simp)
              subst c176
              have H1 : (some true) = some r := by rw [if_pos rfl] at H; exact H
              clear H
              have H := H1
              clear H1
              obtain rfl := Option.some.inj H
              try go_wp2
              have n0_ := Aside0.mk (Kd.R_drew HO_8.out)
              have n1_ := Aside0.mk (Kd.R_drew HO_10.out)
              have n2_ := Aside0.mk (Kd.R_drew HO_259001.out)
              have n3_ := Aside0.mk (Kd.R_drew HO_283001.out)
              have n4_ := Aside0.mk (blk_drew BK258.out)
              have n5_ := Aside0.mk (blk_drew BK259.out)
              have n6_ := Aside0.mk (blk_drew BK282.out)
              have n7_ := Aside0.mk (below_drew1 HB.out)
              clear HO_8
              clear HO_10
              clear HO_259001
              clear HO_283001
              clear BK258
              clear BK259
              clear BK282
              clear HB
              have HO_8 := n0_
              have HO_10 := n1_
              have HO_259001 := n2_
              have HO_283001 := n3_
              have BK258 := n4_
              have BK259 := n5_
              have BK282 := n6_
              have HB := n7_
              clear n0_ n1_ n2_ n3_ n4_ n5_ n6_ n7_
              have q178 : (18 : Int) ≤ ((x10_25.length : Int) : Int) := of_decide_eq_true (by first | (with_reducible assumption) | assumption)
              obtain ⟨i0178, hi0178, _, hsz178, _⟩ := info_parts info5
              have hroom178 : x10_25.length ≤ co33 := (Kd.R_reads' HO_10.out).2.1
              have hC178 : Kd.C (Kd.int .u8) _ Ao33 x10_25.length x10_25 := (Kd.R_reads' HO_10.out).2.2
              have hcut178 := cut_from (P := Try.prog) 22 5 .i64 Try.underlying22 hi0178 1 hsz178 Ao33 x10_25.length co33 18 (by omega) q178
              have hr178 := Kd.C_drop (m := (18 : Int).toNat) (c := co33) hC178 (by omega) hroom178
              obtain ⟨A178, hA178⟩ : ∃ A1, A1 = (if co33 = (18 : Int).toNat then Ao33 else (Ao33 : Option Addr).map (·.add ((18 : Int).toNat * 1))) := ⟨_, rfl⟩
              obtain ⟨c178, hc178⟩ : ∃ c1, c1 = co33 - (18 : Int).toNat := ⟨_, rfl⟩
              have hy178 : y308.length = x10_25.length - (18 : Int).toNat := (by rw [Ny308.out, List.length_drop] <;> omega)
              rw [show (x10_25).drop (18 : Int).toNat = y308 from Ny308.out.symm] at hr178
              replace hr178 : Kd.C (Kd.int .u8) _ A178 y308.length y308 := (by rw [hA178]; exact hr178)
              rw [← hy178, ← hA178, ← hc178] at hcut178
              have HR311 := Aside0.mk hr178
              have HC311 := Aside0.mk (show y308.length ≤ c178 from by rw [hy178, hc178]; exact Nat.sub_le_sub_right hroom178 _)
              clear hr178 hC178 hroom178 hi0178 hsz178 hc178
              have KY178 := Aside0.mk hy178
              have KA178 := Aside0.mk hA178
              clear hy178 hA178
              have KL178 := Aside0.mk (show 18 ≤ x10_25.length from by omega)
              replace q178 := eq_true q178
              have q179 : (18 : Int) ≤ ((t265.length : Int) : Int) := of_decide_eq_true (by first | (with_reducible assumption) | assumption)
              obtain ⟨i0179, hi0179, _, hsz179, _⟩ := info_parts info5
              have hroom179 : t265.length ≤ co30 := (Kd.R_reads' HO_8.out).2.1
              have hC179 : Kd.C (Kd.int .u8) _ Ao30 t265.length t265 := (Kd.R_reads' HO_8.out).2.2
              have hcut179 := cut_from (P := Try.prog) 22 5 .i64 Try.underlying22 hi0179 1 hsz179 Ao30 t265.length co30 18 (by omega) q179
              have hr179 := Kd.C_drop (m := (18 : Int).toNat) (c := co30) hC179 (by omega) hroom179
              obtain ⟨A179, hA179⟩ : ∃ A1, A1 = (if co30 = (18 : Int).toNat then Ao30 else (Ao30 : Option Addr).map (·.add ((18 : Int).toNat * 1))) := ⟨_, rfl⟩
              obtain ⟨c179, hc179⟩ : ∃ c1, c1 = co30 - (18 : Int).toNat := ⟨_, rfl⟩
              have hy179 : y312.length = t265.length - (18 : Int).toNat := (by rw [Ny312.out, List.length_drop] <;> omega)
              rw [show (t265).drop (18 : Int).toNat = y312 from Ny312.out.symm] at hr179
              replace hr179 : Kd.C (Kd.int .u8) _ A179 y312.length y312 := (by rw [hA179]; exact hr179)
              rw [← hy179, ← hA179, ← hc179] at hcut179
              have HR315 := Aside0.mk hr179
              have HC315 := Aside0.mk (show y312.length ≤ c179 from by rw [hy179, hc179]; exact Nat.sub_le_sub_right hroom179 _)
              clear hr179 hC179 hroom179 hi0179 hsz179 hc179
              have KY179 := Aside0.mk hy179
              have KA179 := Aside0.mk hA179
              clear hy179 hA179
              have KL179 := Aside0.mk (show 18 ≤ t265.length from by omega)
              replace q179 := eq_true q179
              have hrc180_ := HW.keepC (w := wc.drew) (by repeat (first | (with_reducible exact HR311.out) | (with_reducible refine Kd.C_alloc ?_ _) | (with_reducible refine Kd.C_drewN ?_ _) | (with_reducible refine Kd.C_drew ?_) | exact HR311.out))
              have hrc181_ := HW.keepC (w := wc.drew) (by repeat (first | (with_reducible exact HR315.out) | (with_reducible refine Kd.C_alloc ?_ _) | (with_reducible refine Kd.C_drewN ?_ _) | (with_reducible refine Kd.C_drew ?_) | exact HR315.out))
              refine start_ (n := 8) (S := fun w' => ∀ (A_ : Option Addr) (n_ : Nat) (x_ : List Int), Kd.C (Kd.int .u8) wc.drew A_ n_ x_ → Kd.C (Kd.int .u8) w' A_ n_ x_) (ds := []) #[false, false, false, false, false, false, false, false] (by kernel_rfl) rfl rfl (fun _ _ _ h_ => h_) (fun hHeld => ?_); refine with_tabW phaetonlaw24_ImageBurst.tab18 phaetonlaw24_ImageBurst.bits18 (fun HT_ HW_ => ?_)
              generalize wc.drew = w177 at HO_8 HO_10 HO_259001 HO_283001 BK258 BK259 BK282 HB HR311 HR315 hrc180_ hrc181_ hHeld ⊢
              refine pure_ (i := 0) (N := some 133) (v := ?_) (a' := ?_) #[true, false, false, false, false, false, false, false] rfl rfl (any_of HT_.out (by kernel_rfl)) (fun _ _ _ h => h) (Or.inl ⟨by rfl, ?_⟩) ?_ ?_
              rotate_left
              ·intro w'
               go_simp
               with_reducible rfl
              rotate_left
              ·simp only [Act.put, HW.LA, HW.LZ, HW.LS, i64_w, i32_w]
               rfl
              refine pure_ (i := 1) (N := some 134) (v := ?_) (a' := ?_) #[true, true, false, false, false, false, false, false] rfl rfl (any_of HT_.out (by kernel_rfl)) (fun _ _ _ h => h) (Or.inl ⟨by rfl, ?_⟩) ?_ ?_
              rotate_left
              ·intro w'
               go_simp
               with_reducible rfl
              rotate_left
              ·simp only [Act.put, HW.LA, HW.LZ, HW.LS, i64_w, i32_w]
               rfl
              refine take_ (i := 2) (N := some 135) (v := ?_) (a' := ?_) #[true, true, true, false, false, false, false, false] rfl rfl (take_ofW HT_.out HW_.out (by kernel_rfl)) (fun _ _ _ h => h) (Or.inl ⟨by rfl, ?_⟩) hHeld ?_ ?_
              rotate_left
              ·intro w' hS_
               have hcv180 := Kd.C_string (P := Try.prog) (A := A178) (c := c178) Try.underlying22 Try.underlying5 Try.underlying9 (hS_ _ _ _ hrc180_)
               have hcv181 := Kd.C_string (P := Try.prog) (A := A179) (c := c179) Try.underlying22 Try.underlying5 Try.underlying9 (hS_ _ _ _ hrc181_)
               go_simp
               with_reducible rfl
              rotate_left
              ·simp only [Act.put, HW.LA, HW.LZ, HW.LS, i64_w, i32_w]
               rfl
              refine pure_ (i := 3) (N := some 136) (v := ?_) (a' := ?_) #[true, true, true, true, false, false, false, false] rfl rfl (any_of HT_.out (by kernel_rfl)) (fun _ _ _ h => h) (Or.inl ⟨by rfl, ?_⟩) ?_ ?_
              rotate_left
              ·intro w'
               go_simp
               with_reducible rfl
              rotate_left
              ·simp only [Act.put, HW.LA, HW.LZ, HW.LS, i64_w, i32_w]
               rfl
              refine pure_ (i := 4) (N := some 137) (v := ?_) (a' := ?_) #[true, true, true, true, true, false, false, false] rfl rfl (any_of HT_.out (by kernel_rfl)) (fun _ _ _ h => h) (Or.inl ⟨by rfl, ?_⟩) ?_ ?_
              rotate_left
              ·intro w'
               go_simp
               with_reducible rfl
              rotate_left
              ·simp only [Act.put, HW.LA, HW.LZ, HW.LS, i64_w, i32_w]
               rfl
              refine take_ (i := 5) (N := some 138) (v := ?_) (a' := ?_) #[true, true, true, true, true, true, false, false] rfl rfl (take_ofW HT_.out HW_.out (by kernel_rfl)) (fun _ _ _ h => h) (Or.inl ⟨by rfl, ?_⟩) hHeld ?_ ?_
              rotate_left
              ·intro w' hS_
               have hcv180 := Kd.C_string (P := Try.prog) (A := A178) (c := c178) Try.underlying22 Try.underlying5 Try.underlying9 (hS_ _ _ _ hrc180_)
               have hcv181 := Kd.C_string (P := Try.prog) (A := A179) (c := c179) Try.underlying22 Try.underlying5 Try.underlying9 (hS_ _ _ _ hrc181_)
               go_simp
               with_reducible rfl
              rotate_left
              ·simp only [Act.put, HW.LA, HW.LZ, HW.LS, i64_w, i32_w]
               rfl
              refine pure_ (i := 6) (N := some 139) (v := ?_) (a' := ?_) #[true, true, true, true, true, true, true, false] rfl rfl (any_of HT_.out (by kernel_rfl)) (fun _ _ _ h => h) (Or.inl ⟨by rfl, ?_⟩) ?_ ?_
              rotate_left
              ·intro w'
               go_simp
               with_reducible rfl
              rotate_left
              ·simp only [Act.put, HW.LA, HW.LZ, HW.LS, i64_w, i32_w]
               rfl
              refine pure_ (i := 7) (N := some 17) (v := ?_) (a' := ?_) #[true, true, true, true, true, true, true, true] rfl rfl (any_of HT_.out (by kernel_rfl)) (fun _ _ _ h => h) (Or.inl ⟨by rfl, ?_⟩) ?_ ?_
              rotate_left
              ·intro w'
               go_simp
               with_reducible rfl
              rotate_left
              ·simp only [Act.put, HW.LA, HW.LZ, HW.LS, i64_w, i32_w]
               rfl
              refine done_ (done_of HT_.out (by kernel_rfl)) ?_
              try go_wp2
              go_ret
              exact ⟨by first | rfl | (simp [errW_none, errW_some] <;> rfl) | (simp [*, errW_none, errW_some] <;> rfl), by repeat (first | (with_reducible first | exact HB.out | apply below_alloc | apply pw_below_drewN | apply below_drew1 | refine below_set ?_ GE258.out | refine below_set ?_ GE259.out | refine below_set ?_ GE282.out) | exact HB.out)⟩
/-- THE ONE PURE STATEMENT of phaetonlaw24_ImageBurst. -/
def phaetonlaw24_ImageBurst.Pure : Prop := ∀ (a0_0 : Int) (l0_1 : List Int) (a1 : Int) (a2_0 : Int) (a2_1 : Int) (a2_2 : Int) (a2_3 : Int) (a2_4 : Int), (Lit.int .i64 a0_0).wf = true → l0_1.length ≤ maxLen → (∀ x ∈ l0_1, (fun (x : Int) => (Lit.int .u8 x).wf = true) x) → (Lit.int .i64 a1).wf = true → (Lit.int .u16 a2_0).wf = true → (Lit.int .u8 a2_1).wf = true → (Lit.int .u8 a2_2).wf = true → (Lit.int .u8 a2_3).wf = true → (Lit.int .u8 a2_4).wf = true → ∃ k, phaetonlaw24_ImageBurst.f k a0_0 l0_1 a1 a2_0 a2_1 a2_2 a2_3 a2_4 = some true
theorem phaetonlaw24_ImageBurst.walk (P : phaetonlaw24_ImageBurst.Pure) (a0_0 : Int) (A0_1 : Option Addr) (c0_1 : Nat) (l0_1 : List Int) (a1 : Int) (a2_0 : Int) (a2_1 : Int) (a2_2 : Int) (a2_3 : Int) (a2_4 : Int) (w : World) (hw0_0 : (Lit.int .i64 a0_0).wf = true) (hw0_1 : ∀ x ∈ l0_1, (fun (x : Int) => (Lit.int .u8 x).wf = true) x) (hr0_1 : Kd.C (Kd.int .u8) w A0_1 l0_1.length l0_1) (hc0_1 : l0_1.length ≤ c0_1) (hw1 : (Lit.int .i64 a1).wf = true) (hw2_0 : (Lit.int .u16 a2_0).wf = true) (hw2_1 : (Lit.int .u8 a2_1).wf = true) (hw2_2 : (Lit.int .u8 a2_2).wf = true) (hw2_3 : (Lit.int .u8 a2_3).wf = true) (hw2_4 : (Lit.int .u8 a2_4).wf = true) :
  Calls Try.prog 5 #[.agg #[.int .i64 a0_0, .slice A0_1 l0_1.length c0_1], .int .i64 a1, .agg #[.int .u16 a2_0, .int .u8 a2_1, .int .u8 a2_2, .int .u8 a2_3, .int .u8 a2_4]] w fun e w' => e = .returned (.bool true) ∧ Below w.heap.size w w' := by
 obtain ⟨k, h⟩ := P a0_0 l0_1 a1 a2_0 a2_1 a2_2 a2_3 a2_4 hw0_0 (by have := hr0_1.2.1; unfold maxLen; omega) hw0_1 hw1 hw2_0 hw2_1 hw2_2 hw2_3 hw2_4
 refine (phaetonlaw24_ImageBurst.calls k a0_0 _ _ l0_1 a1 a2_0 a2_1 a2_2 a2_3 a2_4 true w hr0_1 hc0_1 h).mono ?_
 rintro e w' ⟨rfl, hd⟩
 exact ⟨rfl, hd⟩

end Go.Proofs.Ytfgbcpdlhdgofaa.Px

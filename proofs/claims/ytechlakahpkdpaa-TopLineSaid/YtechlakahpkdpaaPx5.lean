-- Written by myprint.py, a program of this session's, over the kit's print.py; not a text of print.sh's own.
import Derived.Test.YtechlakahpkdpaaHandFive
import Derived.Test.YtechlakahpkdpaaHandBox
import Derived.Test.YtechlakahpkdpaaPx0
import Derived.Test.YtechlakahpkdpaaPx2
import Derived.Test.YtechlakahpkdpaaPx4
namespace Go.Proofs.Ytechlakahpkdpaa.Px
open Go.RowKit Go.Proofs.YtechlakahpkdpaaW.PrintWords Go.Proofs.YtechlakahpkdpaaW.PrintLast Go.Proofs.YtechlakahpkdpaaW.PrintMore
attribute [local go_sem] max2_int min2_int max_two min_two max_three min_three max_four min_four   -- for this text's walks alone
set_option linter.unusedVariables false
set_option linter.unusedSimpArgs false

/-! ### phaetonref04_Rank: function 11 -/
def phaetonref04_Rank.f (k : Nat) (a0_0 : Bool) (a0_1 : Int) (a0_2 : Bool) (a0_3 : Int) (l0_4 : List Int) : Option (List Int) := if a0_0 = true then ((phaetonref04_put.f k ([] : List Int) (a0_1 / 262144) 11).bind fun t186 => ((phaetonref04_put.f k t186 3 2).bind fun t189 => ((phaetonref04_put.f k t189 (Int.tmod a0_1 262144) 18).bind fun t192 => ((phaetonref04_remote.f a0_0 a0_1 a0_2 a0_3 l0_4).bind fun t195 => ((phaetonref04_put.f k t192 t195 1).bind fun t196 => (some t196)))))) else ((phaetonref04_put.f k ([] : List Int) a0_1 11).bind fun t199 => ((phaetonref04_remote.f a0_0 a0_1 a0_2 a0_3 l0_4).bind fun t202 => ((phaetonref04_put.f k t199 t202 1).bind fun t203 => ((phaetonref04_put.f k t203 0 1).bind fun t206 => (some t206)))))
theorem phaetonref04_Rank.mono : ∀ a0 a1 a2 a3 a4 k, LeO (phaetonref04_Rank.f k a0 a1 a2 a3 a4) (phaetonref04_Rank.f (k + 1) a0 a1 a2 a3 a4) := by
 intro a0 a1 a2 a3 a4 k
 unfold phaetonref04_Rank.f
 repeat' first
   | (with_reducible exact phaetonref04_put.mono _ _ _ _)
   | (with_reducible exact LeO.refl _)
   | (with_reducible exact LeO.none _)
   | (with_reducible refine LeO.ite ?_ ?_)
   | (with_reducible refine LeO.bind ?_ (fun _ => ?_))
   | exact phaetonref04_put.mono _ _ _ _
   | exact LeO.none _
   | refine LeO.ite ?_ ?_
   | refine LeO.bind ?_ (fun _ => ?_)
def phaetonref04_Rank.T2 : Bool × List (List Nat × List Nat) := (true, [([], []), ([0], [0]), ([1], [1]), ([2], [2]), ([3, 3], [3]), ([], []), ([5], [5]), ([6], [6]), ([4, 7, 4], [4, 7]), ([], []), ([9, 8], [9]), ([8, 10, 10], [8, 10]), ([11, 11, 0, 1, 2, 3, 4, 5, 6, 7, 8, 9, 10, 11], [11])])
def phaetonref04_Rank.B2 : List Nat := [0, 1, 3, 7, 15, 0, 32, 96, 255, 0, 1023, 2047, 4095]
theorem phaetonref04_Rank.tab2 : rtab .any (opsOf Try.f11 2) = phaetonref04_Rank.T2 := by kernel_rfl
theorem phaetonref04_Rank.bits2 : waitsOk phaetonref04_Rank.T2.2 phaetonref04_Rank.B2 = true := by kernel_rfl
def phaetonref04_Rank.T3 : Bool × List (List Nat × List Nat) := (true, [([], []), ([0], [0]), ([1], [1]), ([], []), ([3, 2], [3]), ([2, 4, 4], [2, 4]), ([5, 5], [5]), ([6, 6, 0, 1, 2, 3, 4, 5, 6], [6])])
def phaetonref04_Rank.B3 : List Nat := [0, 1, 3, 0, 15, 31, 63, 127]
theorem phaetonref04_Rank.tab3 : rtab .any (opsOf Try.f11 3) = phaetonref04_Rank.T3 := by kernel_rfl
theorem phaetonref04_Rank.bits3 : waitsOk phaetonref04_Rank.T3.2 phaetonref04_Rank.B3 = true := by kernel_rfl
set_option maxHeartbeats 8000000 in
set_option maxRecDepth 100000 in
theorem phaetonref04_Rank.calls (k : Nat) (a0_0 : Bool) (a0_1 : Int) (a0_2 : Bool) (a0_3 : Int) (A0_4 : Option Addr) (c0_4 : Nat) (l0_4 : List Int) (r : List Int) (w : World) (hr0_4 : Kd.C (Kd.int .u8) w A0_4 l0_4.length l0_4) (hc0_4 : l0_4.length ≤ c0_4) (h : phaetonref04_Rank.f k a0_0 a0_1 a0_2 a0_3 l0_4 = some r) :
  Calls Try.prog 11 #[.agg #[.bool a0_0, .int .i64 a0_1, .bool a0_2, .int .i64 a0_3, .slice A0_4 l0_4.length c0_4]] w fun e w' => ∃ v0_ : Value, e = .returned (v0_) ∧ Kd.R (Kd.int .i64) 3 w' w.heap.size (fun _ => True) v0_ r ∧ Below w.heap.size w w' := by
 have hu26 := Try.underlying26
 have HR0_4 := Aside0.mk hr0_4
 have HC0_4 := Aside0.mk hc0_4
 clear hr0_4 hc0_4
 have HB := Aside0.mk (Below.refl w.heap.size w)
 have H : (if a0_0 = true then ((phaetonref04_put.f k ([] : List Int) (a0_1 / 262144) 11).bind fun t186 => ((phaetonref04_put.f k t186 3 2).bind fun t189 => ((phaetonref04_put.f k t189 (Int.tmod a0_1 262144) 18).bind fun t192 => ((phaetonref04_remote.f a0_0 a0_1 a0_2 a0_3 l0_4).bind fun t195 => ((phaetonref04_put.f k t192 t195 1).bind fun t196 => (some t196)))))) else ((phaetonref04_put.f k ([] : List Int) a0_1 11).bind fun t199 => ((phaetonref04_remote.f a0_0 a0_1 a0_2 a0_3 l0_4).bind fun t202 => ((phaetonref04_put.f k t199 t202 1).bind fun t203 => ((phaetonref04_put.f k t203 0 1).bind fun t206 => (some t206)))))) = some r := h
 clear h
 by_cases c2 : a0_0 = true
 ·subst c2
  have H1 : ((phaetonref04_put.f k ([] : List Int) (a0_1 / 262144) 11).bind fun t186 => ((phaetonref04_put.f k t186 3 2).bind fun t189 => ((phaetonref04_put.f k t189 (Int.tmod a0_1 262144) 18).bind fun t192 => ((phaetonref04_remote.f true a0_1 a0_2 a0_3 l0_4).bind fun t195 => ((phaetonref04_put.f k t192 t195 1).bind fun t196 => (some t196)))))) = some r := by rw [if_pos rfl] at H; exact H
  clear H
  have H := H1
  clear H1
  replace H := Option.bind_eq_some_iff.mp H
  obtain ⟨t186, A30, H⟩ := H
  replace H : ((phaetonref04_put.f k t186 3 2).bind fun t189 => ((phaetonref04_put.f k t189 (Int.tmod a0_1 262144) 18).bind fun t192 => ((phaetonref04_remote.f true a0_1 a0_2 a0_3 l0_4).bind fun t195 => ((phaetonref04_put.f k t192 t195 1).bind fun t196 => (some t196))))) = some r := H
  have A3 := Aside0.mk A30
  clear A30
  replace H := Option.bind_eq_some_iff.mp H
  obtain ⟨t189, A40, H⟩ := H
  replace H : ((phaetonref04_put.f k t189 (Int.tmod a0_1 262144) 18).bind fun t192 => ((phaetonref04_remote.f true a0_1 a0_2 a0_3 l0_4).bind fun t195 => ((phaetonref04_put.f k t192 t195 1).bind fun t196 => (some t196)))) = some r := H
  have A4 := Aside0.mk A40
  clear A40
  replace H := Option.bind_eq_some_iff.mp H
  obtain ⟨t192, A50, H⟩ := H
  replace H : ((phaetonref04_remote.f true a0_1 a0_2 a0_3 l0_4).bind fun t195 => ((phaetonref04_put.f k t192 t195 1).bind fun t196 => (some t196))) = some r := H
  have A5 := Aside0.mk A50
  clear A50
  replace H := Option.bind_eq_some_iff.mp H
  obtain ⟨t195, A60, H⟩ := H
  replace H : ((phaetonref04_put.f k t192 t195 1).bind fun t196 => (some t196)) = some r := H
  have A6 := Aside0.mk A60
  clear A60
  replace H := Option.bind_eq_some_iff.mp H
  obtain ⟨t196, A70, H⟩ := H
  replace H : (some t196) = some r := H
  have A7 := Aside0.mk A70
  clear A70
  obtain rfl := Option.some.inj H
  go_enter Try.func11, Try.ntmps11
  try go_wp2_with (first | ((with_reducible refine gate_store (t := 26) (p := 1) rfl ?_); refine HW.store_box5 rfl rfl 26 _ _ rfl rfl rfl BK185.out rfl (by kernel_rfl) rfl rfl rfl rfl rfl ?_; intro w1_ hw1_ hk1_; subst hw1_; have hcb185_0 := (blk_cell hk1_ 0).trans rfl; have hfb185_0 := blk_frozen hk1_ 0; have hcb185_1 := (blk_cell hk1_ 1).trans rfl; have hfb185_1 := blk_frozen hk1_ 1; have hcb185_2 := (blk_cell hk1_ 2).trans rfl; have hfb185_2 := blk_frozen hk1_ 2; have hcb185_3 := (blk_cell hk1_ 3).trans rfl; have hfb185_3 := blk_frozen hk1_ 3; have hcb185_4 := (blk_cell hk1_ 4).trans rfl; have hfb185_4 := blk_frozen hk1_ 4; clear hk1_) | ((with_reducible refine gate_store (t := 26) (p := 1) rfl ?_); refine HW.store_box5 rfl rfl 26 _ _ rfl rfl rfl BK185.out rfl (by kernel_rfl) rfl rfl rfl rfl rfl ?_; intro w1_ hw1_ hk1_; subst hw1_; have hcb185_0 := (blk_cell hk1_ 0).trans rfl; have hfb185_0 := blk_frozen hk1_ 0; have hcb185_1 := (blk_cell hk1_ 1).trans rfl; have hfb185_1 := blk_frozen hk1_ 1; have hcb185_2 := (blk_cell hk1_ 2).trans rfl; have hfb185_2 := blk_frozen hk1_ 2; have hcb185_3 := (blk_cell hk1_ 3).trans rfl; have hfb185_3 := blk_frozen hk1_ 3; have hcb185_4 := (blk_cell hk1_ 4).trans rfl; have hfb185_4 := blk_frozen hk1_ 4; clear hk1_) | ((with_reducible refine gate_dst (N := 1) rfl ?_); refine box_event ?hg (N := 1) ?hd (cs := #[.bool true, .int .i64 a0_1, .bool a0_2, .int .i64 a0_3, .slice A0_4 l0_4.length c0_4]) (t := 26) ?hr ?_; (case hd => rfl); (case hg => rfl); (case hr => first | (go_simp; done) | (go_simp; rfl)); intro gb185 hg w8 hbox hb; have n0_ := Aside0.mk (below_step (by repeat (first | (with_reducible first | exact HB.out | apply below_alloc | apply pw_below_drewN | apply below_drew1) | exact HB.out)) hb); have n1_ := Aside0.mk (hbox); have n2_ := Aside0.mk ((by rw [hg]; exact (below_size (by repeat (first | (with_reducible first | exact HB.out | apply below_alloc | apply pw_below_drewN | apply below_drew1) | exact HB.out))) : w.heap.size ≤ gb185)); have n3_ := Aside0.mk ((by rw [hg]; exact (below_size (by repeat (first | (with_reducible first | exact HB.out | apply below_alloc | apply pw_below_drewN | apply below_drew1) | exact HB.out))) : w.heap.size ≤ gb185)); clear HB; have HB := n0_; have BK185 := n1_; have GW185 := n2_; have GE185 := n3_; clear n0_ n1_ n2_ n3_; clear hb hbox hg; have hcz9_0 : w8.cell? ⟨gb185, 0, none⟩ = some (.bool true) := (blk_cell BK185.out 0).trans rfl; have hcz9_1 : w8.cell? ⟨gb185, 1, none⟩ = some (.int .i64 a0_1) := (blk_cell BK185.out 1).trans rfl; have hcz9_2 : w8.cell? ⟨gb185, 2, none⟩ = some (.bool a0_2) := (blk_cell BK185.out 2).trans rfl; have hcz9_3 : w8.cell? ⟨gb185, 3, none⟩ = some (.int .i64 a0_3) := (blk_cell BK185.out 3).trans rfl; have hcz9_4 : w8.cell? ⟨gb185, 4, none⟩ = some (.slice A0_4 l0_4.length c0_4) := (blk_cell BK185.out 4).trans rfl; have hfz9_0 := blk_frozen BK185.out 0; have hfz9_1 := blk_frozen BK185.out 1; have hfz9_2 := blk_frozen BK185.out 2; have hfz9_3 := blk_frozen BK185.out 3; have hfz9_4 := blk_frozen BK185.out 4))
  have n0_ := Aside0.mk (blk_drew BK185.out)
  have n1_ := Aside0.mk (below_drew1 HB.out)
  clear BK185
  clear HB
  have BK185 := n0_
  have HB := n1_
  clear n0_ n1_
  refine start_ (n := 13) (S := fun w' => w'.cell? ⟨gb185, 0, none⟩ = some (.bool true) ∧ w'.cell? ⟨gb185, 1, none⟩ = some (.int .i64 a0_1) ∧ w'.cell? ⟨gb185, 2, none⟩ = some (.bool a0_2) ∧ w'.cell? ⟨gb185, 3, none⟩ = some (.int .i64 a0_3) ∧ w'.cell? ⟨gb185, 4, none⟩ = some (.slice A0_4 l0_4.length c0_4)) (ds := []) #[false, false, false, false, false, false, false, false, false, false, false, false, false] (by kernel_rfl) rfl rfl ⟨(blk_cell BK185.out 0).trans rfl, (blk_cell BK185.out 1).trans rfl, (blk_cell BK185.out 2).trans rfl, (blk_cell BK185.out 3).trans rfl, (blk_cell BK185.out 4).trans rfl⟩ (fun hHeld => ?_); refine with_tabW phaetonref04_Rank.tab2 phaetonref04_Rank.bits2 (fun HT_ HW_ => ?_)
  generalize w8.drew = w10 at BK185 HB hHeld ⊢
  refine pure_ (i := 0) (N := some 5) (v := ?_) (a' := ?_) (HW.tf 1 12) rfl rfl (any_of HT_.out (by kernel_rfl)) (fun _ _ _ h => h) (Or.inl ⟨by rfl, ?_⟩) ?_ ?_
  rotate_left
  ·intro w'
   go_simp
   with_reducible rfl
  rotate_left
  ·simp only [Act.put, HW.LA, HW.LZ, HW.LS, i64_w, i32_w]
   rfl
  refine pure_ (i := 5) (N := some 10) (v := ?_) (a' := ?_) #[true, false, false, false, false, true, false, false, false, false, false, false, false] rfl rfl (any_of HT_.out (by kernel_rfl)) (fun _ _ _ h => h) (Or.inl ⟨by rfl, ?_⟩) ?_ ?_
  rotate_left
  ·intro w'
   go_simp
   with_reducible rfl
  rotate_left
  ·simp only [Act.put, HW.LA, HW.LZ, HW.LS, i64_w, i32_w]
   rfl
  refine take_ (i := 1) (N := some 6) (v := ?_) (a' := ?_) #[true, true, false, false, false, true, false, false, false, false, false, false, false] rfl rfl (take_ofW HT_.out HW_.out (by kernel_rfl)) (fun _ _ _ h => h) (Or.inl ⟨by rfl, ?_⟩) hHeld ?_ ?_
  rotate_left
  ·rintro w' ⟨s0, s1, s2, s3, s4⟩
   go_simp
   with_reducible rfl
  rotate_left
  ·simp only [Act.put, HW.LA, HW.LZ, HW.LS, i64_w, i32_w]
   rfl
  refine pure_ (i := 2) (N := some 7) (v := ?_) (a' := ?_) #[true, true, true, false, false, true, false, false, false, false, false, false, false] rfl rfl (any_of HT_.out (by kernel_rfl)) (fun _ _ _ h => h) (Or.inl ⟨by rfl, ?_⟩) ?_ ?_
  rotate_left
  ·intro w'
   go_simp
   with_reducible rfl
  rotate_left
  ·simp only [Act.put, HW.LA, HW.LZ, HW.LS, i64_w, i32_w]
   rfl
  refine take_ (i := 6) (N := some 11) (v := ?_) (a' := ?_) #[true, true, true, false, false, true, true, false, false, false, false, false, false] rfl rfl (take_ofW HT_.out HW_.out (by kernel_rfl)) (fun _ _ _ h => h) (Or.inl ⟨by rfl, ?_⟩) hHeld ?_ ?_
  rotate_left
  ·rintro w' ⟨s0, s1, s2, s3, s4⟩
   go_simp
   with_reducible rfl
  rotate_left
  ·simp only [Act.put, HW.LA, HW.LZ, HW.LS, i64_w, i32_w]
   rfl
  refine pure_ (i := 7) (N := some 12) (v := ?_) (a' := ?_) #[true, true, true, false, false, true, true, true, false, false, false, false, false] rfl rfl (any_of HT_.out (by kernel_rfl)) (fun _ _ _ h => h) (Or.inl ⟨by rfl, ?_⟩) ?_ ?_
  rotate_left
  ·intro w'
   go_simp
   with_reducible rfl
  rotate_left
  ·simp only [Act.put, HW.LA, HW.LZ, HW.LS, i64_w, i32_w]
   rfl
  refine take_ (i := 9) (N := some 14) (v := ?_) (a' := ?_) #[true, true, true, false, false, true, true, true, false, true, false, false, false] rfl rfl (take_ofW HT_.out HW_.out (by kernel_rfl)) (fun _ _ _ h => h) (Or.inl ⟨by rfl, ?_⟩) hHeld ?_ ?_
  rotate_left
  ·rintro w' ⟨s0, s1, s2, s3, s4⟩
   go_simp
   with_reducible rfl
  rotate_left
  ·simp only [Act.put, HW.LA, HW.LZ, HW.LS, i64_w, i32_w]
   rfl
  refine one_ (i := 3) (N := some 8) #[true, true, true, true, false, true, true, true, false, true, false, false, false] rfl rfl (one_of HT_.out (by kernel_rfl)) (by decide) (fun K hK => ?_)
  refine goes_ Try.func24 (by kernel_rfl) rfl #[.slice none 0 0, .int .i64 (a0_1 / 262144), .int .i64 11] (by rfl) rfl rfl (by (try simp only [List.map_toArray, List.map_cons, List.map_nil]); first | done | rfl | (simp only [List.length_drop, List.length_take]; rfl)) ?_
  refine (phaetonref04_put.calls k _ _ ([] : List Int) (a0_1 / 262144) 11 t186 _ ?side1 ?side2 A3.out).mono ?_
  (case side1 => exact Kd.C_nil _ _)
  (case side2 => exact Nat.le_refl _)
  rintro e w11 ⟨v187, rfl, ho0, hb⟩
  refine ⟨_, rfl, ?_⟩
  have n0_ := Aside0.mk (Kd.R_lower ho0 (below_size (by repeat (first | (with_reducible first | exact HB.out | apply below_alloc | apply pw_below_drewN | apply below_drew1 | refine below_set ?_ GE185.out) | exact HB.out))))
  have n1_ := Aside0.mk (blk_below (g := gb185) (o := .cells #[.bool true, .int .i64 a0_1, .bool a0_2, .int .i64 a0_3, .slice A0_4 l0_4.length c0_4] 26 (0, 0)) (by (with_reducible repeat (first | refine blk_drewN ?_ _ | refine blk_drew ?_ | refine blk_alloc ?_ _)); exact BK185.out) hb)
  have n2_ := Aside0.mk (below_step (by repeat (first | (with_reducible first | exact HB.out | apply below_alloc | apply pw_below_drewN | apply below_drew1 | refine below_set ?_ GE185.out) | exact HB.out)) hb)
  clear BK185
  clear HB
  have HO188 := n0_
  have BK185 := n1_
  have HB := n2_
  clear n0_ n1_ n2_
  (try clear hb)
  (try clear hb2)
  (try clear hk)
  (try clear hi)
  (try clear ho0)
  obtain ⟨Ao12, co12, eo12⟩ := Kd.R_slice HO188.out
  (first | subst eo12 | (injection eo12 with f1_ f2_ f3_; have f4_ := f1_.symm; have f5_ := f3_.symm; clear f1_ f2_ f3_; subst f4_; subst f5_))
  refine hK.out _ _ ⟨(blk_cell BK185.out 0).trans rfl, (blk_cell BK185.out 1).trans rfl, (blk_cell BK185.out 2).trans rfl, (blk_cell BK185.out 3).trans rfl, (blk_cell BK185.out 4).trans rfl⟩ (fun hHeld => ?_)
  clear hK K
  refine norm_ (a' := ?_) ?_ ?_
  rotate_left
  ·show Act.put _ (some 8) _ = _
   simp only [Act.put, HW.LA, HW.LZ, HW.LS, i64_w, i32_w]
   rfl
  refine one_ (i := 4) (N := some 9) #[true, true, true, true, true, true, true, true, false, true, false, false, false] rfl rfl (one_of HT_.out (by kernel_rfl)) (by decide) (fun K hK => ?_)
  refine goes_ Try.func24 (by kernel_rfl) rfl #[.slice Ao12 t186.length co12, .int .i64 3, .int .i64 2] (by rfl) rfl rfl (by (try simp only [List.map_toArray, List.map_cons, List.map_nil]); first | done | rfl | (simp only [List.length_drop, List.length_take]; rfl)) ?_
  with_reducible refine (phaetonref04_put.calls k _ _ t186 3 2 t189 _ ?side1 ?side2 A4.out).mono ?_
  (case side1 => repeat (first | exact (Kd.R_reads' HO188.out).2.2 | (with_reducible refine Kd.C_alloc ?_ _) | (with_reducible refine Kd.C_drewN ?_ _) | (with_reducible refine Kd.C_drew ?_)))
  (case side2 => exact (Kd.R_reads' HO188.out).2.1)
  rintro e w13 ⟨v190, rfl, ho0, hb⟩
  refine ⟨_, rfl, ?_⟩
  have n0_ := Aside0.mk (Kd.R_elder' (by (with_reducible repeat (first | apply Kd.R_alloc | apply Kd.R_drewN | apply Kd.R_drew)); exact HO188.out) (Kd.R_base ho0) hb)
  have n1_ := Aside0.mk (Kd.R_lower (Kd.R_new' ho0 (Kd.R_lt (by (with_reducible repeat (first | apply Kd.R_alloc | apply Kd.R_drewN | apply Kd.R_drew)); exact HO188.out))) (below_size (by repeat (first | (with_reducible first | exact HB.out | apply below_alloc | apply pw_below_drewN | apply below_drew1 | refine below_set ?_ GE185.out) | exact HB.out))))
  have n2_ := Aside0.mk (blk_below (g := gb185) (o := .cells #[.bool true, .int .i64 a0_1, .bool a0_2, .int .i64 a0_3, .slice A0_4 l0_4.length c0_4] 26 (0, 0)) (by (with_reducible repeat (first | refine blk_drewN ?_ _ | refine blk_drew ?_ | refine blk_alloc ?_ _)); exact BK185.out) hb)
  have n3_ := Aside0.mk (below_step (by repeat (first | (with_reducible first | exact HB.out | apply below_alloc | apply pw_below_drewN | apply below_drew1 | refine below_set ?_ GE185.out) | exact HB.out)) hb)
  clear HO188
  clear BK185
  clear HB
  have HO188 := n0_
  have HO191 := n1_
  have BK185 := n2_
  have HB := n3_
  clear n0_ n1_ n2_ n3_
  (try clear hb)
  (try clear hb2)
  (try clear hk)
  (try clear hi)
  (try clear ho0)
  obtain ⟨Ao14, co14, eo14⟩ := Kd.R_slice HO191.out
  (first | subst eo14 | (injection eo14 with f1_ f2_ f3_; have f4_ := f1_.symm; have f5_ := f3_.symm; clear f1_ f2_ f3_; subst f4_; subst f5_))
  refine hK.out _ _ ⟨(blk_cell BK185.out 0).trans rfl, (blk_cell BK185.out 1).trans rfl, (blk_cell BK185.out 2).trans rfl, (blk_cell BK185.out 3).trans rfl, (blk_cell BK185.out 4).trans rfl⟩ (fun hHeld => ?_)
  clear hK K
  refine norm_ (a' := ?_) ?_ ?_
  rotate_left
  ·show Act.put _ (some 9) _ = _
   simp only [Act.put, HW.LA, HW.LZ, HW.LS, i64_w, i32_w]
   rfl
  refine one_ (i := 8) (N := some 13) (HW.tf 10 3) rfl rfl (one_of HT_.out (by kernel_rfl)) (by decide) (fun K hK => ?_)
  refine goes_ Try.func24 (by kernel_rfl) rfl #[.slice Ao14 t189.length co14, .int .i64 (Int.tmod a0_1 262144), .int .i64 18] (by rfl) rfl rfl (by (try simp only [List.map_toArray, List.map_cons, List.map_nil]); first | done | rfl | (simp only [List.length_drop, List.length_take]; rfl)) ?_
  with_reducible refine (phaetonref04_put.calls k _ _ t189 (Int.tmod a0_1 262144) 18 t192 _ ?side1 ?side2 A5.out).mono ?_
  (case side1 => repeat (first | exact (Kd.R_reads' HO191.out).2.2 | (with_reducible refine Kd.C_alloc ?_ _) | (with_reducible refine Kd.C_drewN ?_ _) | (with_reducible refine Kd.C_drew ?_)))
  (case side2 => exact (Kd.R_reads' HO191.out).2.1)
  rintro e w15 ⟨v193, rfl, ho0, hb⟩
  refine ⟨_, rfl, ?_⟩
  have n0_ := Aside0.mk (Kd.R_elder' (by (with_reducible repeat (first | apply Kd.R_alloc | apply Kd.R_drewN | apply Kd.R_drew)); exact HO188.out) (Kd.R_base ho0) hb)
  have n1_ := Aside0.mk (Kd.R_elder' (by (with_reducible repeat (first | apply Kd.R_alloc | apply Kd.R_drewN | apply Kd.R_drew)); exact HO191.out) (Kd.R_base ho0) hb)
  have n2_ := Aside0.mk (Kd.R_lower (Kd.R_new' (Kd.R_new' ho0 (Kd.R_lt (by (with_reducible repeat (first | apply Kd.R_alloc | apply Kd.R_drewN | apply Kd.R_drew)); exact HO188.out))) (Kd.R_lt (by (with_reducible repeat (first | apply Kd.R_alloc | apply Kd.R_drewN | apply Kd.R_drew)); exact HO191.out))) (below_size (by repeat (first | (with_reducible first | exact HB.out | apply below_alloc | apply pw_below_drewN | apply below_drew1 | refine below_set ?_ GE185.out) | exact HB.out))))
  have n3_ := Aside0.mk (blk_below (g := gb185) (o := .cells #[.bool true, .int .i64 a0_1, .bool a0_2, .int .i64 a0_3, .slice A0_4 l0_4.length c0_4] 26 (0, 0)) (by (with_reducible repeat (first | refine blk_drewN ?_ _ | refine blk_drew ?_ | refine blk_alloc ?_ _)); exact BK185.out) hb)
  have n4_ := Aside0.mk (below_step (by repeat (first | (with_reducible first | exact HB.out | apply below_alloc | apply pw_below_drewN | apply below_drew1 | refine below_set ?_ GE185.out) | exact HB.out)) hb)
  clear HO188
  clear HO191
  clear BK185
  clear HB
  have HO188 := n0_
  have HO191 := n1_
  have HO194 := n2_
  have BK185 := n3_
  have HB := n4_
  clear n0_ n1_ n2_ n3_ n4_
  (try clear hb)
  (try clear hb2)
  (try clear hk)
  (try clear hi)
  (try clear ho0)
  refine hK.out _ _ ⟨(blk_cell BK185.out 0).trans rfl, (blk_cell BK185.out 1).trans rfl, (blk_cell BK185.out 2).trans rfl, (blk_cell BK185.out 3).trans rfl, (blk_cell BK185.out 4).trans rfl⟩ (fun hHeld => ?_)
  clear hK K
  refine norm_ (a' := ?_) ?_ ?_
  rotate_left
  ·show Act.put _ (some 13) _ = _
   simp only [Act.put, HW.LA, HW.LZ, HW.LS, i64_w, i32_w]
   rfl
  refine one_ (i := 10) (N := some 15) (HW.tf 11 2) rfl rfl (one_of HT_.out (by kernel_rfl)) (by decide) (fun K hK => ?_)
  refine goes_ Try.func25 (by kernel_rfl) rfl #[.agg #[.bool true, .int .i64 a0_1, .bool a0_2, .int .i64 a0_3, .slice A0_4 l0_4.length c0_4]] (by rfl) rfl rfl (by (try simp only [List.map_toArray, List.map_cons, List.map_nil]); first | done | rfl | (simp only [List.length_drop, List.length_take]; rfl)) ?_
  with_reducible refine (phaetonref04_remote.calls true a0_1 a0_2 a0_3 _ _ l0_4 t195 _ ?side1 ?side2 A6.out).mono ?_
  (case side1 => repeat (first | exact (Kd.C_below HR0_4.out HB.out) | (with_reducible refine Kd.C_alloc ?_ _) | (with_reducible refine Kd.C_drewN ?_ _) | (with_reducible refine Kd.C_drew ?_)))
  (case side2 => exact HC0_4.out)
  rintro e w16 ⟨rfl, hb⟩
  refine ⟨_, rfl, ?_⟩
  have n0_ := Aside0.mk (Kd.R_below (by (with_reducible repeat (first | apply Kd.R_alloc | apply Kd.R_drewN | apply Kd.R_drew)); exact HO188.out) hb)
  have n1_ := Aside0.mk (Kd.R_below (by (with_reducible repeat (first | apply Kd.R_alloc | apply Kd.R_drewN | apply Kd.R_drew)); exact HO191.out) hb)
  have n2_ := Aside0.mk (Kd.R_below (by (with_reducible repeat (first | apply Kd.R_alloc | apply Kd.R_drewN | apply Kd.R_drew)); exact HO194.out) hb)
  have n3_ := Aside0.mk (blk_below (g := gb185) (o := .cells #[.bool true, .int .i64 a0_1, .bool a0_2, .int .i64 a0_3, .slice A0_4 l0_4.length c0_4] 26 (0, 0)) (by (with_reducible repeat (first | refine blk_drewN ?_ _ | refine blk_drew ?_ | refine blk_alloc ?_ _)); exact BK185.out) hb)
  have n4_ := Aside0.mk (below_step (by repeat (first | (with_reducible first | exact HB.out | apply below_alloc | apply pw_below_drewN | apply below_drew1 | refine below_set ?_ GE185.out) | exact HB.out)) hb)
  clear HO188
  clear HO191
  clear HO194
  clear BK185
  clear HB
  have HO188 := n0_
  have HO191 := n1_
  have HO194 := n2_
  have BK185 := n3_
  have HB := n4_
  clear n0_ n1_ n2_ n3_ n4_
  (try clear hb)
  (try clear hb2)
  (try clear hk)
  (try clear hi)
  obtain ⟨Ao17, co17, eo17⟩ := Kd.R_slice HO194.out
  (first | subst eo17 | (injection eo17 with f1_ f2_ f3_; have f4_ := f1_.symm; have f5_ := f3_.symm; clear f1_ f2_ f3_; subst f4_; subst f5_))
  refine hK.out _ _ ⟨(blk_cell BK185.out 0).trans rfl, (blk_cell BK185.out 1).trans rfl, (blk_cell BK185.out 2).trans rfl, (blk_cell BK185.out 3).trans rfl, (blk_cell BK185.out 4).trans rfl⟩ (fun hHeld => ?_)
  clear hK K
  refine norm_ (a' := ?_) ?_ ?_
  rotate_left
  ·show Act.put _ (some 15) _ = _
   simp only [Act.put, HW.LA, HW.LZ, HW.LS, i64_w, i32_w]
   rfl
  refine one_ (i := 11) (N := some 16) (HW.tf 12 1) rfl rfl (one_of HT_.out (by kernel_rfl)) (by decide) (fun K hK => ?_)
  refine goes_ Try.func24 (by kernel_rfl) rfl #[.slice Ao17 t192.length co17, .int .i64 t195, .int .i64 1] (by rfl) rfl rfl (by (try simp only [List.map_toArray, List.map_cons, List.map_nil]); first | done | rfl | (simp only [List.length_drop, List.length_take]; rfl)) ?_
  with_reducible refine (phaetonref04_put.calls k _ _ t192 t195 1 t196 _ ?side1 ?side2 A7.out).mono ?_
  (case side1 => repeat (first | exact (Kd.R_reads' HO194.out).2.2 | (with_reducible refine Kd.C_alloc ?_ _) | (with_reducible refine Kd.C_drewN ?_ _) | (with_reducible refine Kd.C_drew ?_)))
  (case side2 => exact (Kd.R_reads' HO194.out).2.1)
  rintro e w18 ⟨v197, rfl, ho0, hb⟩
  refine ⟨_, rfl, ?_⟩
  have n0_ := Aside0.mk (Kd.R_elder' (by (with_reducible repeat (first | apply Kd.R_alloc | apply Kd.R_drewN | apply Kd.R_drew)); exact HO188.out) (Kd.R_base ho0) hb)
  have n1_ := Aside0.mk (Kd.R_elder' (by (with_reducible repeat (first | apply Kd.R_alloc | apply Kd.R_drewN | apply Kd.R_drew)); exact HO191.out) (Kd.R_base ho0) hb)
  have n2_ := Aside0.mk (Kd.R_elder' (by (with_reducible repeat (first | apply Kd.R_alloc | apply Kd.R_drewN | apply Kd.R_drew)); exact HO194.out) (Kd.R_base ho0) hb)
  have n3_ := Aside0.mk (Kd.R_lower (Kd.R_new' (Kd.R_new' (Kd.R_new' ho0 (Kd.R_lt (by (with_reducible repeat (first | apply Kd.R_alloc | apply Kd.R_drewN | apply Kd.R_drew)); exact HO188.out))) (Kd.R_lt (by (with_reducible repeat (first | apply Kd.R_alloc | apply Kd.R_drewN | apply Kd.R_drew)); exact HO191.out))) (Kd.R_lt (by (with_reducible repeat (first | apply Kd.R_alloc | apply Kd.R_drewN | apply Kd.R_drew)); exact HO194.out))) (below_size (by repeat (first | (with_reducible first | exact HB.out | apply below_alloc | apply pw_below_drewN | apply below_drew1 | refine below_set ?_ GE185.out) | exact HB.out))))
  have n4_ := Aside0.mk (blk_below (g := gb185) (o := .cells #[.bool true, .int .i64 a0_1, .bool a0_2, .int .i64 a0_3, .slice A0_4 l0_4.length c0_4] 26 (0, 0)) (by (with_reducible repeat (first | refine blk_drewN ?_ _ | refine blk_drew ?_ | refine blk_alloc ?_ _)); exact BK185.out) hb)
  have n5_ := Aside0.mk (below_step (by repeat (first | (with_reducible first | exact HB.out | apply below_alloc | apply pw_below_drewN | apply below_drew1 | refine below_set ?_ GE185.out) | exact HB.out)) hb)
  clear HO188
  clear HO191
  clear HO194
  clear BK185
  clear HB
  have HO188 := n0_
  have HO191 := n1_
  have HO194 := n2_
  have HO198 := n3_
  have BK185 := n4_
  have HB := n5_
  clear n0_ n1_ n2_ n3_ n4_ n5_
  (try clear hb)
  (try clear hb2)
  (try clear hk)
  (try clear hi)
  (try clear ho0)
  refine hK.out _ _ ⟨(blk_cell BK185.out 0).trans rfl, (blk_cell BK185.out 1).trans rfl, (blk_cell BK185.out 2).trans rfl, (blk_cell BK185.out 3).trans rfl, (blk_cell BK185.out 4).trans rfl⟩ (fun hHeld => ?_)
  clear hK K
  refine norm_ (a' := ?_) ?_ ?_
  rotate_left
  ·show Act.put _ (some 16) _ = _
   simp only [Act.put, HW.LA, HW.LZ, HW.LS, i64_w, i32_w]
   rfl
  refine pure_ (i := 12) (N := some 2) (v := ?_) (a' := ?_) (HW.tf 13 0) rfl rfl (any_of HT_.out (by kernel_rfl)) (fun _ _ _ h => h) (Or.inl ⟨by rfl, ?_⟩) ?_ ?_
  rotate_left
  ·intro w'
   go_simp
   with_reducible rfl
  rotate_left
  ·simp only [Act.put, HW.LA, HW.LZ, HW.LS, i64_w, i32_w]
   rfl
  refine done_ (done_of HT_.out (by kernel_rfl)) ?_
  try go_wp2
  go_ret
  exact ⟨_, by first | rfl | (simp [errW_none, errW_some] <;> rfl) | (simp [*, errW_none, errW_some] <;> rfl), by (with_reducible repeat (first | apply Kd.R_alloc | apply Kd.R_drewN | apply Kd.R_drew)); exact Kd.R_mono HO198.out (fun _ hk => trivial), by repeat (first | (with_reducible first | exact HB.out | apply below_alloc | apply pw_below_drewN | apply below_drew1 | refine below_set ?_ GE185.out) | exact HB.out)⟩
 ·replace c2 := Bool.eq_false_iff.mpr c2
  subst c2
  have H1 : ((phaetonref04_put.f k ([] : List Int) a0_1 11).bind fun t199 => ((phaetonref04_remote.f false a0_1 a0_2 a0_3 l0_4).bind fun t202 => ((phaetonref04_put.f k t199 t202 1).bind fun t203 => ((phaetonref04_put.f k t203 0 1).bind fun t206 => (some t206))))) = some r := by rw [if_neg (show ¬ (false = true) by decide)] at H; exact H
  clear H
  have H := H1
  clear H1
  replace H := Option.bind_eq_some_iff.mp H
  obtain ⟨t199, A190, H⟩ := H
  replace H : ((phaetonref04_remote.f false a0_1 a0_2 a0_3 l0_4).bind fun t202 => ((phaetonref04_put.f k t199 t202 1).bind fun t203 => ((phaetonref04_put.f k t203 0 1).bind fun t206 => (some t206)))) = some r := H
  have A19 := Aside0.mk A190
  clear A190
  replace H := Option.bind_eq_some_iff.mp H
  obtain ⟨t202, A200, H⟩ := H
  replace H : ((phaetonref04_put.f k t199 t202 1).bind fun t203 => ((phaetonref04_put.f k t203 0 1).bind fun t206 => (some t206))) = some r := H
  have A20 := Aside0.mk A200
  clear A200
  replace H := Option.bind_eq_some_iff.mp H
  obtain ⟨t203, A210, H⟩ := H
  replace H : ((phaetonref04_put.f k t203 0 1).bind fun t206 => (some t206)) = some r := H
  have A21 := Aside0.mk A210
  clear A210
  replace H := Option.bind_eq_some_iff.mp H
  obtain ⟨t206, A220, H⟩ := H
  replace H : (some t206) = some r := H
  have A22 := Aside0.mk A220
  clear A220
  obtain rfl := Option.some.inj H
  go_enter Try.func11, Try.ntmps11
  try go_wp2_with (first | ((with_reducible refine gate_store (t := 26) (p := 1) rfl ?_); refine HW.store_box5 rfl rfl 26 _ _ rfl rfl rfl BK185.out rfl (by kernel_rfl) rfl rfl rfl rfl rfl ?_; intro w1_ hw1_ hk1_; subst hw1_; have hcb185_0 := (blk_cell hk1_ 0).trans rfl; have hfb185_0 := blk_frozen hk1_ 0; have hcb185_1 := (blk_cell hk1_ 1).trans rfl; have hfb185_1 := blk_frozen hk1_ 1; have hcb185_2 := (blk_cell hk1_ 2).trans rfl; have hfb185_2 := blk_frozen hk1_ 2; have hcb185_3 := (blk_cell hk1_ 3).trans rfl; have hfb185_3 := blk_frozen hk1_ 3; have hcb185_4 := (blk_cell hk1_ 4).trans rfl; have hfb185_4 := blk_frozen hk1_ 4; clear hk1_) | ((with_reducible refine gate_store (t := 26) (p := 1) rfl ?_); refine HW.store_box5 rfl rfl 26 _ _ rfl rfl rfl BK185.out rfl (by kernel_rfl) rfl rfl rfl rfl rfl ?_; intro w1_ hw1_ hk1_; subst hw1_; have hcb185_0 := (blk_cell hk1_ 0).trans rfl; have hfb185_0 := blk_frozen hk1_ 0; have hcb185_1 := (blk_cell hk1_ 1).trans rfl; have hfb185_1 := blk_frozen hk1_ 1; have hcb185_2 := (blk_cell hk1_ 2).trans rfl; have hfb185_2 := blk_frozen hk1_ 2; have hcb185_3 := (blk_cell hk1_ 3).trans rfl; have hfb185_3 := blk_frozen hk1_ 3; have hcb185_4 := (blk_cell hk1_ 4).trans rfl; have hfb185_4 := blk_frozen hk1_ 4; clear hk1_) | ((with_reducible refine gate_dst (N := 1) rfl ?_); refine box_event ?hg (N := 1) ?hd (cs := #[.bool false, .int .i64 a0_1, .bool a0_2, .int .i64 a0_3, .slice A0_4 l0_4.length c0_4]) (t := 26) ?hr ?_; (case hd => rfl); (case hg => rfl); (case hr => first | (go_simp; done) | (go_simp; rfl)); intro gb185 hg w23 hbox hb; have n0_ := Aside0.mk (below_step (by repeat (first | (with_reducible first | exact HB.out | apply below_alloc | apply pw_below_drewN | apply below_drew1) | exact HB.out)) hb); have n1_ := Aside0.mk (hbox); have n2_ := Aside0.mk ((by rw [hg]; exact (below_size (by repeat (first | (with_reducible first | exact HB.out | apply below_alloc | apply pw_below_drewN | apply below_drew1) | exact HB.out))) : w.heap.size ≤ gb185)); have n3_ := Aside0.mk ((by rw [hg]; exact (below_size (by repeat (first | (with_reducible first | exact HB.out | apply below_alloc | apply pw_below_drewN | apply below_drew1) | exact HB.out))) : w.heap.size ≤ gb185)); clear HB; have HB := n0_; have BK185 := n1_; have GW185 := n2_; have GE185 := n3_; clear n0_ n1_ n2_ n3_; clear hb hbox hg; have hcz24_0 : w23.cell? ⟨gb185, 0, none⟩ = some (.bool false) := (blk_cell BK185.out 0).trans rfl; have hcz24_1 : w23.cell? ⟨gb185, 1, none⟩ = some (.int .i64 a0_1) := (blk_cell BK185.out 1).trans rfl; have hcz24_2 : w23.cell? ⟨gb185, 2, none⟩ = some (.bool a0_2) := (blk_cell BK185.out 2).trans rfl; have hcz24_3 : w23.cell? ⟨gb185, 3, none⟩ = some (.int .i64 a0_3) := (blk_cell BK185.out 3).trans rfl; have hcz24_4 : w23.cell? ⟨gb185, 4, none⟩ = some (.slice A0_4 l0_4.length c0_4) := (blk_cell BK185.out 4).trans rfl; have hfz24_0 := blk_frozen BK185.out 0; have hfz24_1 := blk_frozen BK185.out 1; have hfz24_2 := blk_frozen BK185.out 2; have hfz24_3 := blk_frozen BK185.out 3; have hfz24_4 := blk_frozen BK185.out 4))
  have n0_ := Aside0.mk (blk_drew BK185.out)
  have n1_ := Aside0.mk (below_drew1 HB.out)
  clear BK185
  clear HB
  have BK185 := n0_
  have HB := n1_
  clear n0_ n1_
  refine start_ (n := 8) (S := fun w' => w'.cell? ⟨gb185, 0, none⟩ = some (.bool false) ∧ w'.cell? ⟨gb185, 1, none⟩ = some (.int .i64 a0_1) ∧ w'.cell? ⟨gb185, 2, none⟩ = some (.bool a0_2) ∧ w'.cell? ⟨gb185, 3, none⟩ = some (.int .i64 a0_3) ∧ w'.cell? ⟨gb185, 4, none⟩ = some (.slice A0_4 l0_4.length c0_4)) (ds := []) #[false, false, false, false, false, false, false, false] (by kernel_rfl) rfl rfl ⟨(blk_cell BK185.out 0).trans rfl, (blk_cell BK185.out 1).trans rfl, (blk_cell BK185.out 2).trans rfl, (blk_cell BK185.out 3).trans rfl, (blk_cell BK185.out 4).trans rfl⟩ (fun hHeld => ?_); refine with_tabW phaetonref04_Rank.tab3 phaetonref04_Rank.bits3 (fun HT_ HW_ => ?_)
  generalize w23.drew = w25 at BK185 HB hHeld ⊢
  refine pure_ (i := 0) (N := some 17) (v := ?_) (a' := ?_) (HW.tf 1 7) rfl rfl (any_of HT_.out (by kernel_rfl)) (fun _ _ _ h => h) (Or.inl ⟨by rfl, ?_⟩) ?_ ?_
  rotate_left
  ·intro w'
   go_simp
   with_reducible rfl
  rotate_left
  ·simp only [Act.put, HW.LA, HW.LZ, HW.LS, i64_w, i32_w]
   rfl
  refine take_ (i := 1) (N := some 18) (v := ?_) (a' := ?_) (HW.tf 2 6) rfl rfl (take_ofW HT_.out HW_.out (by kernel_rfl)) (fun _ _ _ h => h) (Or.inl ⟨by rfl, ?_⟩) hHeld ?_ ?_
  rotate_left
  ·rintro w' ⟨s0, s1, s2, s3, s4⟩
   go_simp
   with_reducible rfl
  rotate_left
  ·simp only [Act.put, HW.LA, HW.LZ, HW.LS, i64_w, i32_w]
   rfl
  refine take_ (i := 3) (N := some 20) (v := ?_) (a' := ?_) #[true, true, false, true, false, false, false, false] rfl rfl (take_ofW HT_.out HW_.out (by kernel_rfl)) (fun _ _ _ h => h) (Or.inl ⟨by rfl, ?_⟩) hHeld ?_ ?_
  rotate_left
  ·rintro w' ⟨s0, s1, s2, s3, s4⟩
   go_simp
   with_reducible rfl
  rotate_left
  ·simp only [Act.put, HW.LA, HW.LZ, HW.LS, i64_w, i32_w]
   rfl
  refine one_ (i := 2) (N := some 19) (HW.tf 4 4) rfl rfl (one_of HT_.out (by kernel_rfl)) (by decide) (fun K hK => ?_)
  refine goes_ Try.func24 (by kernel_rfl) rfl #[.slice none 0 0, .int .i64 a0_1, .int .i64 11] (by rfl) rfl rfl (by (try simp only [List.map_toArray, List.map_cons, List.map_nil]); first | done | rfl | (simp only [List.length_drop, List.length_take]; rfl)) ?_
  refine (phaetonref04_put.calls k _ _ ([] : List Int) a0_1 11 t199 _ ?side1 ?side2 A19.out).mono ?_
  (case side1 => exact Kd.C_nil _ _)
  (case side2 => exact Nat.le_refl _)
  rintro e w26 ⟨v200, rfl, ho0, hb⟩
  refine ⟨_, rfl, ?_⟩
  have n0_ := Aside0.mk (Kd.R_lower ho0 (below_size (by repeat (first | (with_reducible first | exact HB.out | apply below_alloc | apply pw_below_drewN | apply below_drew1 | refine below_set ?_ GE185.out) | exact HB.out))))
  have n1_ := Aside0.mk (blk_below (g := gb185) (o := .cells #[.bool false, .int .i64 a0_1, .bool a0_2, .int .i64 a0_3, .slice A0_4 l0_4.length c0_4] 26 (0, 0)) (by (with_reducible repeat (first | refine blk_drewN ?_ _ | refine blk_drew ?_ | refine blk_alloc ?_ _)); exact BK185.out) hb)
  have n2_ := Aside0.mk (below_step (by repeat (first | (with_reducible first | exact HB.out | apply below_alloc | apply pw_below_drewN | apply below_drew1 | refine below_set ?_ GE185.out) | exact HB.out)) hb)
  clear BK185
  clear HB
  have HO201 := n0_
  have BK185 := n1_
  have HB := n2_
  clear n0_ n1_ n2_
  (try clear hb)
  (try clear hb2)
  (try clear hk)
  (try clear hi)
  (try clear ho0)
  refine hK.out _ _ ⟨(blk_cell BK185.out 0).trans rfl, (blk_cell BK185.out 1).trans rfl, (blk_cell BK185.out 2).trans rfl, (blk_cell BK185.out 3).trans rfl, (blk_cell BK185.out 4).trans rfl⟩ (fun hHeld => ?_)
  clear hK K
  refine norm_ (a' := ?_) ?_ ?_
  rotate_left
  ·show Act.put _ (some 19) _ = _
   simp only [Act.put, HW.LA, HW.LZ, HW.LS, i64_w, i32_w]
   rfl
  refine one_ (i := 4) (N := some 21) (HW.tf 5 3) rfl rfl (one_of HT_.out (by kernel_rfl)) (by decide) (fun K hK => ?_)
  refine goes_ Try.func25 (by kernel_rfl) rfl #[.agg #[.bool false, .int .i64 a0_1, .bool a0_2, .int .i64 a0_3, .slice A0_4 l0_4.length c0_4]] (by rfl) rfl rfl (by (try simp only [List.map_toArray, List.map_cons, List.map_nil]); first | done | rfl | (simp only [List.length_drop, List.length_take]; rfl)) ?_
  with_reducible refine (phaetonref04_remote.calls false a0_1 a0_2 a0_3 _ _ l0_4 t202 _ ?side1 ?side2 A20.out).mono ?_
  (case side1 => repeat (first | exact (Kd.C_below HR0_4.out HB.out) | (with_reducible refine Kd.C_alloc ?_ _) | (with_reducible refine Kd.C_drewN ?_ _) | (with_reducible refine Kd.C_drew ?_)))
  (case side2 => exact HC0_4.out)
  rintro e w27 ⟨rfl, hb⟩
  refine ⟨_, rfl, ?_⟩
  have n0_ := Aside0.mk (Kd.R_below (by (with_reducible repeat (first | apply Kd.R_alloc | apply Kd.R_drewN | apply Kd.R_drew)); exact HO201.out) hb)
  have n1_ := Aside0.mk (blk_below (g := gb185) (o := .cells #[.bool false, .int .i64 a0_1, .bool a0_2, .int .i64 a0_3, .slice A0_4 l0_4.length c0_4] 26 (0, 0)) (by (with_reducible repeat (first | refine blk_drewN ?_ _ | refine blk_drew ?_ | refine blk_alloc ?_ _)); exact BK185.out) hb)
  have n2_ := Aside0.mk (below_step (by repeat (first | (with_reducible first | exact HB.out | apply below_alloc | apply pw_below_drewN | apply below_drew1 | refine below_set ?_ GE185.out) | exact HB.out)) hb)
  clear HO201
  clear BK185
  clear HB
  have HO201 := n0_
  have BK185 := n1_
  have HB := n2_
  clear n0_ n1_ n2_
  (try clear hb)
  (try clear hb2)
  (try clear hk)
  (try clear hi)
  obtain ⟨Ao28, co28, eo28⟩ := Kd.R_slice HO201.out
  (first | subst eo28 | (injection eo28 with f1_ f2_ f3_; have f4_ := f1_.symm; have f5_ := f3_.symm; clear f1_ f2_ f3_; subst f4_; subst f5_))
  refine hK.out _ _ ⟨(blk_cell BK185.out 0).trans rfl, (blk_cell BK185.out 1).trans rfl, (blk_cell BK185.out 2).trans rfl, (blk_cell BK185.out 3).trans rfl, (blk_cell BK185.out 4).trans rfl⟩ (fun hHeld => ?_)
  clear hK K
  refine norm_ (a' := ?_) ?_ ?_
  rotate_left
  ·show Act.put _ (some 21) _ = _
   simp only [Act.put, HW.LA, HW.LZ, HW.LS, i64_w, i32_w]
   rfl
  refine one_ (i := 5) (N := some 22) (HW.tf 6 2) rfl rfl (one_of HT_.out (by kernel_rfl)) (by decide) (fun K hK => ?_)
  refine goes_ Try.func24 (by kernel_rfl) rfl #[.slice Ao28 t199.length co28, .int .i64 t202, .int .i64 1] (by rfl) rfl rfl (by (try simp only [List.map_toArray, List.map_cons, List.map_nil]); first | done | rfl | (simp only [List.length_drop, List.length_take]; rfl)) ?_
  with_reducible refine (phaetonref04_put.calls k _ _ t199 t202 1 t203 _ ?side1 ?side2 A21.out).mono ?_
  (case side1 => repeat (first | exact (Kd.R_reads' HO201.out).2.2 | (with_reducible refine Kd.C_alloc ?_ _) | (with_reducible refine Kd.C_drewN ?_ _) | (with_reducible refine Kd.C_drew ?_)))
  (case side2 => exact (Kd.R_reads' HO201.out).2.1)
  rintro e w29 ⟨v204, rfl, ho0, hb⟩
  refine ⟨_, rfl, ?_⟩
  have n0_ := Aside0.mk (Kd.R_elder' (by (with_reducible repeat (first | apply Kd.R_alloc | apply Kd.R_drewN | apply Kd.R_drew)); exact HO201.out) (Kd.R_base ho0) hb)
  have n1_ := Aside0.mk (Kd.R_lower (Kd.R_new' ho0 (Kd.R_lt (by (with_reducible repeat (first | apply Kd.R_alloc | apply Kd.R_drewN | apply Kd.R_drew)); exact HO201.out))) (below_size (by repeat (first | (with_reducible first | exact HB.out | apply below_alloc | apply pw_below_drewN | apply below_drew1 | refine below_set ?_ GE185.out) | exact HB.out))))
  have n2_ := Aside0.mk (blk_below (g := gb185) (o := .cells #[.bool false, .int .i64 a0_1, .bool a0_2, .int .i64 a0_3, .slice A0_4 l0_4.length c0_4] 26 (0, 0)) (by (with_reducible repeat (first | refine blk_drewN ?_ _ | refine blk_drew ?_ | refine blk_alloc ?_ _)); exact BK185.out) hb)
  have n3_ := Aside0.mk (below_step (by repeat (first | (with_reducible first | exact HB.out | apply below_alloc | apply pw_below_drewN | apply below_drew1 | refine below_set ?_ GE185.out) | exact HB.out)) hb)
  clear HO201
  clear BK185
  clear HB
  have HO201 := n0_
  have HO205 := n1_
  have BK185 := n2_
  have HB := n3_
  clear n0_ n1_ n2_ n3_
  (try clear hb)
  (try clear hb2)
  (try clear hk)
  (try clear hi)
  (try clear ho0)
  obtain ⟨Ao30, co30, eo30⟩ := Kd.R_slice HO205.out
  (first | subst eo30 | (injection eo30 with f1_ f2_ f3_; have f4_ := f1_.symm; have f5_ := f3_.symm; clear f1_ f2_ f3_; subst f4_; subst f5_))
  refine hK.out _ _ ⟨(blk_cell BK185.out 0).trans rfl, (blk_cell BK185.out 1).trans rfl, (blk_cell BK185.out 2).trans rfl, (blk_cell BK185.out 3).trans rfl, (blk_cell BK185.out 4).trans rfl⟩ (fun hHeld => ?_)
  clear hK K
  refine norm_ (a' := ?_) ?_ ?_
  rotate_left
  ·show Act.put _ (some 22) _ = _
   simp only [Act.put, HW.LA, HW.LZ, HW.LS, i64_w, i32_w]
   rfl
  refine one_ (i := 6) (N := some 23) (HW.tf 7 1) rfl rfl (one_of HT_.out (by kernel_rfl)) (by decide) (fun K hK => ?_)
  refine goes_ Try.func24 (by kernel_rfl) rfl #[.slice Ao30 t203.length co30, .int .i64 0, .int .i64 1] (by rfl) rfl rfl (by (try simp only [List.map_toArray, List.map_cons, List.map_nil]); first | done | rfl | (simp only [List.length_drop, List.length_take]; rfl)) ?_
  with_reducible refine (phaetonref04_put.calls k _ _ t203 0 1 t206 _ ?side1 ?side2 A22.out).mono ?_
  (case side1 => repeat (first | exact (Kd.R_reads' HO205.out).2.2 | (with_reducible refine Kd.C_alloc ?_ _) | (with_reducible refine Kd.C_drewN ?_ _) | (with_reducible refine Kd.C_drew ?_)))
  (case side2 => exact (Kd.R_reads' HO205.out).2.1)
  rintro e w31 ⟨v207, rfl, ho0, hb⟩
  refine ⟨_, rfl, ?_⟩
  have n0_ := Aside0.mk (Kd.R_elder' (by (with_reducible repeat (first | apply Kd.R_alloc | apply Kd.R_drewN | apply Kd.R_drew)); exact HO201.out) (Kd.R_base ho0) hb)
  have n1_ := Aside0.mk (Kd.R_elder' (by (with_reducible repeat (first | apply Kd.R_alloc | apply Kd.R_drewN | apply Kd.R_drew)); exact HO205.out) (Kd.R_base ho0) hb)
  have n2_ := Aside0.mk (Kd.R_lower (Kd.R_new' (Kd.R_new' ho0 (Kd.R_lt (by (with_reducible repeat (first | apply Kd.R_alloc | apply Kd.R_drewN | apply Kd.R_drew)); exact HO201.out))) (Kd.R_lt (by (with_reducible repeat (first | apply Kd.R_alloc | apply Kd.R_drewN | apply Kd.R_drew)); exact HO205.out))) (below_size (by repeat (first | (with_reducible first | exact HB.out | apply below_alloc | apply pw_below_drewN | apply below_drew1 | refine below_set ?_ GE185.out) | exact HB.out))))
  have n3_ := Aside0.mk (blk_below (g := gb185) (o := .cells #[.bool false, .int .i64 a0_1, .bool a0_2, .int .i64 a0_3, .slice A0_4 l0_4.length c0_4] 26 (0, 0)) (by (with_reducible repeat (first | refine blk_drewN ?_ _ | refine blk_drew ?_ | refine blk_alloc ?_ _)); exact BK185.out) hb)
  have n4_ := Aside0.mk (below_step (by repeat (first | (with_reducible first | exact HB.out | apply below_alloc | apply pw_below_drewN | apply below_drew1 | refine below_set ?_ GE185.out) | exact HB.out)) hb)
  clear HO201
  clear HO205
  clear BK185
  clear HB
  have HO201 := n0_
  have HO205 := n1_
  have HO208 := n2_
  have BK185 := n3_
  have HB := n4_
  clear n0_ n1_ n2_ n3_ n4_
  (try clear hb)
  (try clear hb2)
  (try clear hk)
  (try clear hi)
  (try clear ho0)
  refine hK.out _ _ ⟨(blk_cell BK185.out 0).trans rfl, (blk_cell BK185.out 1).trans rfl, (blk_cell BK185.out 2).trans rfl, (blk_cell BK185.out 3).trans rfl, (blk_cell BK185.out 4).trans rfl⟩ (fun hHeld => ?_)
  clear hK K
  refine norm_ (a' := ?_) ?_ ?_
  rotate_left
  ·show Act.put _ (some 23) _ = _
   simp only [Act.put, HW.LA, HW.LZ, HW.LS, i64_w, i32_w]
   rfl
  refine pure_ (i := 7) (N := some 2) (v := ?_) (a' := ?_) (HW.tf 8 0) rfl rfl (any_of HT_.out (by kernel_rfl)) (fun _ _ _ h => h) (Or.inl ⟨by rfl, ?_⟩) ?_ ?_
  rotate_left
  ·intro w'
   go_simp
   with_reducible rfl
  rotate_left
  ·simp only [Act.put, HW.LA, HW.LZ, HW.LS, i64_w, i32_w]
   rfl
  refine done_ (done_of HT_.out (by kernel_rfl)) ?_
  try go_wp2
  go_ret
  exact ⟨_, by first | rfl | (simp [errW_none, errW_some] <;> rfl) | (simp [*, errW_none, errW_some] <;> rfl), by (with_reducible repeat (first | apply Kd.R_alloc | apply Kd.R_drewN | apply Kd.R_drew)); exact Kd.R_mono HO208.out (fun _ hk => trivial), by repeat (first | (with_reducible first | exact HB.out | apply below_alloc | apply pw_below_drewN | apply below_drew1 | refine below_set ?_ GE185.out) | exact HB.out)⟩

/-! ### arb_Lost: function 12 -/
def arb_Lost.f (l : List S26) : Option (List Int) := if l.length ≤ 1073741824 then some (arb_runs (arb_ranks l) 128).2.1 else none
set_option maxHeartbeats 3200000 in
set_option maxRecDepth 100000 in
theorem arb_Lost.calls (A0 : Option Addr) (c0 : Nat) (l0 : List S26) (r : List Int) (w : World) (hr0 : Kd.C k26 w A0 l0.length l0) (hc0 : l0.length ≤ c0) (h : arb_Lost.f l0 = some r) :
  Calls Try.prog 12 #[.slice A0 l0.length c0] w fun e w' => ∃ v0_ : Value, e = .returned (v0_) ∧ Kd.R (Kd.int .i64) 3 w' w.heap.size (fun _ => True) v0_ r ∧ Below w.heap.size w w' := by
 unfold arb_Lost.f at h
 split at h
 case isFalse => cases h
 case isTrue hl =>
  obtain rfl := Option.some.inj h
  have HR := Aside0.mk hr0
  have HC := Aside0.mk hc0
  have HL := Aside0.mk hl
  clear hr0 hc0 hl h
  go_enter Try.func12, Try.ntmps12
  go_wp2_with fail
  refine (arb_run A0 c0 l0 w HR.out HC.out HL.out).mono ?_
  rintro e w1 ⟨g, rfl, hA, hB⟩
  obtain ⟨hBg, vR, vI, vL, vN, hblk, hR, hI, hL, hN⟩ := hA
  obtain ⟨AI, cI, rfl⟩ := Kd.R_slice hL
  have c1 := (blk_cell hblk 2).trans rfl
  have HX := Aside0.mk hL
  have HB := Aside0.mk hB
  clear hblk hR hI hL hN hB hBg
  go_wp2_with fail
  go_ret
  exact ⟨_, rfl, Kd.R_mono HX.out (fun _ _ => trivial), HB.out⟩

/-! ### arb_Line: function 15 -/
def arb_Line.f (l : List S26) : Option (List Int) := if l.length ≤ 1073741824 then some (arb_runs (arb_ranks l) 128).2.2 else none
set_option maxHeartbeats 3200000 in
set_option maxRecDepth 100000 in
theorem arb_Line.calls (A0 : Option Addr) (c0 : Nat) (l0 : List S26) (r : List Int) (w : World) (hr0 : Kd.C k26 w A0 l0.length l0) (hc0 : l0.length ≤ c0) (h : arb_Line.f l0 = some r) :
  Calls Try.prog 15 #[.slice A0 l0.length c0] w fun e w' => ∃ v0_ : Value, e = .returned (v0_) ∧ Kd.R (Kd.int .i64) 3 w' w.heap.size (fun _ => True) v0_ r ∧ Below w.heap.size w w' := by
 unfold arb_Line.f at h
 split at h
 case isFalse => cases h
 case isTrue hl =>
  obtain rfl := Option.some.inj h
  have HR := Aside0.mk hr0
  have HC := Aside0.mk hc0
  have HL := Aside0.mk hl
  clear hr0 hc0 hl h
  go_enter Try.func15, Try.ntmps15
  go_wp2_with fail
  refine (arb_run A0 c0 l0 w HR.out HC.out HL.out).mono ?_
  rintro e w1 ⟨g, rfl, hA, hB⟩
  obtain ⟨hBg, vR, vI, vL, vN, hblk, hR, hI, hL, hN⟩ := hA
  obtain ⟨AI, cI, rfl⟩ := Kd.R_slice hN
  have c1 := (blk_cell hblk 3).trans rfl
  have HX := Aside0.mk hN
  have HB := Aside0.mk hB
  clear hblk hR hI hL hN hB hBg
  go_wp2_with fail
  go_ret
  exact ⟨_, rfl, Kd.R_mono HX.out (fun _ _ => trivial), HB.out⟩

end Go.Proofs.Ytechlakahpkdpaa.Px

-- Written by myprint.py, a program of this session's, over the kit's print.py; not a text of print.sh's own.
import Derived.Test.YthgeekcobmhbfaaHandBox
import Derived.Test.YthgeekcobmhbfaaHandFive
import Derived.Test.YthgeekcobmhbfaaPx0
import Derived.Test.YthgeekcobmhbfaaPx1
import Derived.Test.YthgeekcobmhbfaaPx2
import Derived.Test.YthgeekcobmhbfaaPx5
import Derived.Test.YthgeekcobmhbfaaPx7
import Derived.Test.YthgeekcobmhbfaaPx8
namespace Go.Proofs.Ythgeekcobmhbfaa.Px
open Go.RowKit Go.Proofs.YthgeekcobmhbfaaW.PrintWords Go.Proofs.YthgeekcobmhbfaaW.PrintLast Go.Proofs.YthgeekcobmhbfaaW.PrintMore
attribute [local go_sem] max2_int min2_int max_two min_two max_three min_three max_four min_four   -- for this text's walks alone
set_option linter.unusedVariables false
set_option linter.unusedSimpArgs false

/-! ### wire_Read: function 21 -/
def ear_s0 : EarS := (false, 0, 0, [], 0, 0)
/-- The ten behind what is stuffed: a fault, and its place; so many are left. -/
def tenT (l : List Int) (en : Nat) : Nat → Option (Int × Int)
  | 0 => none
  | k + 1 => if en + (9 - k) = l.length then some (1, (l.length : Int)) else if ¬ 9 - k = 1 ∧ l.getD (en + (9 - k)) 0 = 0 then some (3, ((en + (9 - k) : Nat) : Int)) else tenT l en k
/-- What is told of bits: is there a frame, what is wrong, where. -/
def wire_readB (l : List Int) : Bool × Int × Int :=
  if (sumT l ear_s0).2.1 = true then
    (match tenT l (sumT l ear_s0).1 10 with
     | some p => (false, p.1, p.2)
     | none => if l.getD ((sumT l ear_s0).1 + 1) 0 = 1 then (true, 5, ((sumT l ear_s0).1 + 1 : Nat)) else (true, 0, -1))
  else (false, (sumT l ear_s0).2.2.2.2.2.2, (sumT l ear_s0).2.2.2.2.2.1)
def wire_readF (l : List Int) : Bool × Int × Bool × Int × List Int :=
  if (wire_readB l).1 = true then ((frame_readB (sumH l ear_s0).2.2.2.1).2.1, (frame_readB (sumH l ear_s0).2.2.2.1).2.2.1, (frame_readB (sumH l ear_s0).2.2.2.1).2.2.2.1, (frame_readB (sumH l ear_s0).2.2.2.1).2.2.2.2.1, (frame_readB (sumH l ear_s0).2.2.2.1).2.2.2.2.2.1)
  else (false, 0, false, 0, [])
def wire_Read.f (l : List Int) : Option (Bool × Int × Bool × Int × List Int × Int × Int) :=
  if l.length ≤ 1000000 then (if l.all (fun x => decide (-9223372036854775808 ≤ x ∧ x ≤ 9223372036854775807)) = true then some ((wire_readF l).1, (wire_readF l).2.1, (wire_readF l).2.2.1, (wire_readF l).2.2.2.1, (wire_readF l).2.2.2.2, (wire_readB l).2.1, (wire_readB l).2.2) else none) else none
/-- Whatever stands for no frame. -/
theorem wire_cells (l : List Int) (v4 : Value) : ear_Cells (wire_readB l).1 (sumH l ear_s0).2.2.2.1 v4 = #[.bool (wire_readF l).1, .int .i64 (wire_readF l).2.1, .bool (wire_readF l).2.2.1, .int .i64 (wire_readF l).2.2.2.1, if (wire_readB l).1 then v4 else .slice none 0 0] := by
  unfold ear_Cells wire_readF
  cases (wire_readB l).1 <;> rfl
set_option maxHeartbeats 3200000 in
set_option maxRecDepth 100000 in
theorem wire_Read_at (A0 : Option Addr) (c0 : Nat) (l : List Int) (w : World) (hr : Kd.C (Kd.int .i64) w A0 l.length l) (hc : l.length ≤ c0) (hn : l.length ≤ 1000000) (hw : ∀ x ∈ l, H.W64 x) :
    Calls Try.prog 21 #[.slice A0 l.length c0] w fun e w' => ∃ v4 : Value, e = .returned (.tuple #[.agg (ear_Cells (wire_readB l).1 (sumH l ear_s0).2.2.2.1 v4), .int .i64 (wire_readB l).2.1, .int .i64 (wire_readB l).2.2]) ∧ ((wire_readB l).1 = true → Kd.R (Kd.int .u8) 5 w' w.heap.size (fun _ => True) v4 (frame_readB (sumH l ear_s0).2.2.2.1).2.2.2.2.2.1) ∧ Below w.heap.size w w' := by
  have hu := Try.underlying24
  have hu2 := Try.underlying47
  obtain ⟨W1, hW1⟩ : ∃ W1, W1 = w.alloc (.cells ear_zs 24 (0, 0)) := ⟨_, rfl⟩
  have hz1 : W1.heap.size = w.heap.size + 1 := by rw [hW1, World.size_alloc]
  have hb1 : Below w.heap.size w W1 := hW1 ▸ below_alloc (Below.refl _ _) _
  have k0 : W1.heap[w.heap.size]? = some (.cells ear_zs 24 (0, 0)) := hW1 ▸ blk_new _ _
  have k1 := blk_new W1 (.cells #[.slice A0 l.length c0, .int .i64 0, .int .i64 0, .slice none 0 0, .int .i64 0, .int .i64 0] 47 (0, 0))
  rw [hz1] at k1
  have hI : ear_Is (W1.alloc (.cells #[.slice A0 l.length c0, .int .i64 0, .int .i64 0, .slice none 0 0, .int .i64 0, .int .i64 0] 47 (0, 0))) (W1.alloc (.cells #[.slice A0 l.length c0, .int .i64 0, .int .i64 0, .slice none 0 0, .int .i64 0, .int .i64 0] 47 (0, 0))) (w.heap.size + 1) w.heap.size A0 c0 l ear_s0 :=
    ⟨Nat.le_succ _, .slice none 0 0, k1, Kd.R_nil _ _ _ _ _, ear_Keep.refl _⟩
  have hs := ear_sum (w.heap.size + 1) A0 c0 l ear_s0 _ w _ hI ⟨Nat.zero_le _, ⟨by decide, by decide⟩, Nat.le_refl _, (fun x hx => by cases hx), fun h => Bool.noConfusion h⟩ (below_alloc hb1 _) hr hc hn hw
  have K0 := Aside0.mk (blk_alloc k0 (.cells #[.slice A0 l.length c0, .int .i64 0, .int .i64 0, .slice none 0 0, .int .i64 0, .int .i64 0] 47 (0, 0)))
  have HS := Aside0.mk hs
  have HR := Aside0.mk hr
  have HN := Aside0.mk hn
  rw [hW1] at HS K0
  clear hs k1 hI hr hc hn hw hb1 hz1 k0 hW1 W1
  go_enter Try.func21, Try.ntmps21
  go_wp2_with fail
  refine HS.out.mono ?_
  rintro e w1 ⟨v4, r, hr1, rfl, hV1, hE1, hB1, hle⟩
  have HV1 := Aside0.mk hV1
  have HB1 := Aside0.mk hB1
  have HE1 := Aside0.mk hE1
  have HZ1 := Aside0.mk ((ear_At.keep hE1).2 _ _ _ K0.out (by decide) (by decide))
  obtain ⟨cs, hcs⟩ : ∃ cs, cs = ear_Cells r.2.1 (sumH l ear_s0).2.2.2.1 v4 := ⟨_, rfl⟩
  rw [← hcs]
  have HCZ : Aside0 (cs.size = 5) := ⟨by rw [hcs]; exact ear_Cells_size _ _ _⟩
  have HC1 : Aside0 (∀ q ∈ cs.toList, q.oneCell' = true) := ⟨by rw [hcs]; exact ear_Cells_one _ _ _ (fun h => by obtain ⟨A, c, e⟩ := Kd.R_slice (hV1 h); exact ⟨_, _, _, e⟩)⟩
  have HCS := Aside0.mk hcs
  have HRS := Aside0.mk hr1
  have HLE := Aside0.mk hle
  clear hV1 hB1 hE1 hcs hr1 hle HS K0
  cases hb : r.2.1 with
  | false =>
    have HBF := Aside0.mk hb
    clear hb
    go_wp2_with (first | ((with_reducible refine gate_store (t := 24) (p := 6) rfl ?_); refine HW.store_box' rfl rfl 24 _ _ rfl rfl rfl (blk_new _ _) HCZ.out (by rw [HCZ.out]; kernel_rfl) HC1.out ?_; intro wy hk hg; have HK5 := Aside0.mk (((ear_At.keep HE1.out).below (below_alloc (Below.refl _ _) _)).fresh hg (Nat.le_trans (ear_At.keep HE1.out).1 (Nat.le_refl _))); have HE5 := Aside0.mk (ear_At.grown (ear_At.below HE1.out (below_alloc (Below.refl _ _) _)) hg (blk_new _ _) HK5.out); have HB5 := Aside0.mk ((below_alloc HB1.out _).grown hg (below_alloc HB1.out _).size (fun k he => by injection he with he; have := HB1.out.size; omega)); have HZ5 := Aside0.mk (blk_grown (blk_alloc HZ1.out _) hg (fun e => by injection e with e; have := blk_lt HZ1.out; omega)); have HV5 : Aside0 (r.2.1 = true → Kd.R (Kd.int .u8) 5 wy w.heap.size (fun _ => True) v4 (frame_readB (sumH l ear_s0).2.2.2.1).2.2.2.2.2.1) := ⟨fun h => frame_R_far (Kd.R_below (HV1.out h) (below_alloc (Below.refl _ _) _)) hg (blk_new _ _)⟩; have HY := Aside0.mk hk; clear hk hg HE1 HB1 HZ1 HV1))
    obtain ⟨hg0, vq, hbk, hRh, _⟩ := HE5.out
    have d4 : wy.cell? ⟨w.heap.size + 1, 4, none⟩ = some (.int .i64 r.2.2.2.2.2.1) := (blk_cell hbk 4).trans rfl
    have d5 : wy.cell? ⟨w.heap.size + 1, 5, none⟩ = some (.int .i64 r.2.2.2.2.2.2) := (blk_cell hbk 5).trans rfl
    have z00 : wy.cell? ⟨w.heap.size, 0, none⟩ = some (.bool false) := (blk_cell HZ5.out 0).trans rfl
    have y00 := blk_frozen HZ5.out 0
    have z01 : wy.cell? ⟨w.heap.size, 1, none⟩ = some (.int .i64 0) := (blk_cell HZ5.out 1).trans rfl
    have y01 := blk_frozen HZ5.out 1
    have z02 : wy.cell? ⟨w.heap.size, 2, none⟩ = some (.bool false) := (blk_cell HZ5.out 2).trans rfl
    have y02 := blk_frozen HZ5.out 2
    have z03 : wy.cell? ⟨w.heap.size, 3, none⟩ = some (.int .i64 0) := (blk_cell HZ5.out 3).trans rfl
    have y03 := blk_frozen HZ5.out 3
    have z04 : wy.cell? ⟨w.heap.size, 4, none⟩ = some (.slice none 0 0) := (blk_cell HZ5.out 4).trans rfl
    have y04 := blk_frozen HZ5.out 4
    clear hg0 hbk hRh
    go_region
    have HZz : Aside0 ((((((wy.setCell ⟨w.heap.size, 0, none⟩ (.bool false)).setCell ⟨w.heap.size, 1, none⟩ (.int .i64 0)).setCell ⟨w.heap.size, 2, none⟩ (.bool false)).setCell ⟨w.heap.size, 3, none⟩ (.int .i64 0)).setCell ⟨w.heap.size, 4, none⟩ (.slice none 0 0)).heap[w.heap.size]? = some (.cells ear_zs 24 (0, 0))) :=
      ⟨blk_put (blk_put (blk_put (blk_put (blk_put HZ5.out 0 _ rfl) 1 _ rfl) 2 _ rfl) 3 _ rfl) 4 _ rfl⟩
    have HBz := Aside0.mk (below_drew1 (((((HB5.out.setCell (p := ⟨w.heap.size, 0, none⟩) (Nat.le_refl _) (.bool false)).setCell (p := ⟨w.heap.size, 1, none⟩) (Nat.le_refl _) (.int .i64 0)).setCell (p := ⟨w.heap.size, 2, none⟩) (Nat.le_refl _) (.bool false)).setCell (p := ⟨w.heap.size, 3, none⟩) (Nat.le_refl _) (.int .i64 0)).setCell (p := ⟨w.heap.size, 4, none⟩) (Nat.le_refl _) (.slice none 0 0)))
    have hT : wire_readB l = (false, r.2.2.2.2.2.2, r.2.2.2.2.2.1) := by unfold wire_readB; rw [← HRS.out, if_neg (by rw [HBF.out]; exact Bool.false_ne_true)]
    have HT := Aside0.mk hT
    clear hT z00 z01 z02 z03 z04 y00 y01 y02 y03 y04 d4 d5
    go_wp2_with fail
    (try rw [Exit.noGoto_ret])
    refine bodyPost_ret (ear_results3 rfl _ _ w.heap.size 24 ear_zs (0, 0) _ rfl HZz.out Try.underlying24 rfl (by kernel_rfl)) rfl ?_
    rw [HT.out]
    exact ⟨.slice none 0 0, rfl, fun h => Bool.noConfusion h, HBz.out⟩
  | true =>
    have HBT := Aside0.mk hb
    clear hb
    go_wp2_with (first | ((with_reducible refine gate_store (t := 24) (p := 6) rfl ?_); refine HW.store_box' rfl rfl 24 _ _ rfl rfl rfl (blk_new _ _) HCZ.out (by rw [HCZ.out]; kernel_rfl) HC1.out ?_; intro wy hk hg; have HK5 := Aside0.mk (((ear_At.keep HE1.out).below (below_alloc (Below.refl _ _) _)).fresh hg (Nat.le_trans (ear_At.keep HE1.out).1 (Nat.le_refl _))); have HE5 := Aside0.mk (ear_At.grown (ear_At.below HE1.out (below_alloc (Below.refl _ _) _)) hg (blk_new _ _) HK5.out); have HB5 := Aside0.mk ((below_alloc HB1.out _).grown hg (below_alloc HB1.out _).size (fun k he => by injection he with he; have := HB1.out.size; omega)); have HZ5 := Aside0.mk (blk_grown (blk_alloc HZ1.out _) hg (fun e => by injection e with e; have := blk_lt HZ1.out; omega)); have HV5 : Aside0 (r.2.1 = true → Kd.R (Kd.int .u8) 5 wy w.heap.size (fun _ => True) v4 (frame_readB (sumH l ear_s0).2.2.2.1).2.2.2.2.2.1) := ⟨fun h => frame_R_far (Kd.R_below (HV1.out h) (below_alloc (Below.refl _ _) _)) hg (blk_new _ _)⟩; have HY := Aside0.mk hk; clear hk hg HE1 HB1 HZ1 HV1))
    go_loopw [31] (fun v wr => ∃ j : Nat, j ≤ 10 ∧ v = .int .i64 (j : Int) ∧ wr = wy ∧ r.1 + j ≤ l.length ∧ Aside0 (tenT l r.1 10 = tenT l r.1 (10 - j))) (fun v _ => 10 - (intOf v).toNat)
    case atStart => exact ⟨0, by omega, rfl, rfl, HLE.out, ⟨rfl⟩⟩
    case round =>
      obtain ⟨j, hj, rfl, rfl, hjl, HQ⟩ := hrel
      have hn := HN.out
      have HRr := Kd.C_below HR.out HB5.out
      by_cases hlt : j < 10
      · obtain ⟨a, ha⟩ : ∃ a, a = r.1 + j := ⟨_, rfl⟩
        have e1 : wrap64 ((r.1 : Int) + (j : Int)) = (a : Int) := by unfold wrap64; omega
        have e3 : wrap64 ((j : Int) + 1) = ((j + 1 : Nat) : Int) := by unfold wrap64; omega
        have q0 : ((j : Int) < 10) = True := eq_true (by omega)
        have hk : 10 - j = (9 - j) + 1 := by omega
        have hk2 : r.1 + (9 - (9 - j)) = a := by omega
        have hk3 : 9 - (9 - j) = j := by omega
        by_cases hal : a = l.length
        · have HT : Aside0 (wire_readB l = (false, 1, (a : Int))) := ⟨by
            have h10 : tenT l r.1 10 = some (1, (l.length : Int)) := by rw [HQ.out, hk, tenT, hk2, if_pos hal]
            unfold wire_readB; rw [← HRS.out, if_pos HBT.out, h10, hal]⟩
          have q1 : ((a : Int) == (l.length : Int)) = true := beq_iff_eq.mpr (by omega)
          have q2 : ((a : Int) = (l.length : Int)) = True := eq_true (by omega)
          clear hk hk2 hk3 hal ha HQ hjl hlt hj HRr
          go_wp2_with (first | ((with_reducible refine gate_store (t := 24) (p := 2) rfl ?_); refine HW.store_box' rfl rfl 24 _ _ rfl rfl rfl HZ5.out rfl (by kernel_rfl) (by intro q hq; simp only [List.mem_cons, List.not_mem_nil, or_false] at hq; rcases hq with rfl | rfl | rfl | rfl | rfl <;> rfl) ?_; intro wz hk hg; have HBz := Aside0.mk (HB5.out.grown hg HB5.out.size (fun k he => by injection he with he; omega)); have HZz := Aside0.mk hk; clear hk hg))
          (try rw [Exit.noGoto_ret])
          refine bodyPost_ret (ear_results3 rfl _ _ w.heap.size 24 ear_zs (0, 0) _ rfl HZz.out Try.underlying24 rfl (by kernel_rfl)) rfl ?_
          rw [HT.out]
          refine ⟨.slice none 0 0, ?_, fun h => Bool.noConfusion h, HBz.out⟩
          show Ending.returned (.tuple #[.agg ear_zs, _, _]) = Ending.returned (.tuple #[.agg ear_zs, .int .i64 1, .int .i64 (a : Int)])
          first | rfl | (rw [← e1]; rfl)
        · have hlt2 : a < l.length := by omega
          obtain ⟨ad, eA, hx⟩ := Kd.at_int HRr (a : Int) (by omega) (by omega)
          subst eA
          rw [Int.toNat_natCast] at hx
          have q1 : ((a : Int) == (l.length : Int)) = false := beq_eq_false_iff_ne.mpr (by omega)
          have q2 : ((a : Int) = (l.length : Int)) = False := eq_false (by omega)
          have b1 : ((a : Int) < (l.length : Int)) = True := eq_true (by omega)
          have hrd : rd l (a : Int) = l.getD a 0 := by simp [rd]
          by_cases hz : ¬ j = 1 ∧ l.getD a 0 = 0
          · have HT : Aside0 (wire_readB l = (false, 3, (a : Int))) := ⟨by
              have h10 : tenT l r.1 10 = some (3, (a : Int)) := by rw [HQ.out, hk, tenT, hk2, hk3, if_neg hal, if_pos hz]
              unfold wire_readB; rw [← HRS.out, if_pos HBT.out, h10]⟩
            have q3 : ((j : Int) = 1) = False := eq_false (by omega)
            have q4 : ((j : Int) == 1) = false := beq_eq_false_iff_ne.mpr (by omega)
            have q5 : rd l (a : Int) = 0 := hrd.trans hz.2
            clear hk hk2 hk3 hal ha HQ hjl hlt hj HRr hz hrd hlt2
            go_wp2_with (first | ((with_reducible refine gate_store (t := 24) (p := 2) rfl ?_); refine HW.store_box' rfl rfl 24 _ _ rfl rfl rfl HZ5.out rfl (by kernel_rfl) (by intro q hq; simp only [List.mem_cons, List.not_mem_nil, or_false] at hq; rcases hq with rfl | rfl | rfl | rfl | rfl <;> rfl) ?_; intro wz hk hg; have HBz := Aside0.mk (HB5.out.grown hg HB5.out.size (fun k he => by injection he with he; omega)); have HZz := Aside0.mk hk; clear hk hg))
            (try rw [Exit.noGoto_ret])
            refine bodyPost_ret (ear_results3 rfl _ _ w.heap.size 24 ear_zs (0, 0) _ rfl HZz.out Try.underlying24 rfl (by kernel_rfl)) rfl ?_
            rw [HT.out]
            exact ⟨.slice none 0 0, rfl, fun h => Bool.noConfusion h, HBz.out⟩
          · have HQ2 : Aside0 (tenT l r.1 10 = tenT l r.1 (10 - (j + 1))) := ⟨by rw [HQ.out, hk, tenT, hk2, hk3, if_neg hal, if_neg hz, show 10 - (j + 1) = 9 - j by omega]⟩
            by_cases hj1 : j = 1
            · have q3 : ((j : Int) = 1) = True := eq_true (by omega)
              have q4 : ((j : Int) == 1) = true := beq_iff_eq.mpr (by omega)
              have HJ : Aside0 (r.1 + (j + 1) ≤ l.length) := ⟨by omega⟩
              clear hk hk2 hk3 hal ha HQ hjl hj HRr hz hrd hlt2 hj1
              go_wp2_with fail
              go_roundw
              case rel => exact ⟨j + 1, by omega, by first | rfl | exact congrArg _ e3 | simp, by first | rfl | trivial, HJ.out, HQ2⟩
              case measure => simp [intOf]; omega
            · have q3 : ((j : Int) = 1) = False := eq_false (by omega)
              have q4 : ((j : Int) == 1) = false := beq_eq_false_iff_ne.mpr (by omega)
              have hz2 : ¬ rd l (a : Int) = 0 := fun h => hz ⟨hj1, hrd.symm.trans h⟩
              have q5 : (rd l (a : Int) == 0) = false := beq_eq_false_iff_ne.mpr hz2
              have HJ : Aside0 (r.1 + (j + 1) ≤ l.length) := ⟨by omega⟩
              clear hk hk2 hk3 hal ha HQ hjl hj HRr hz hrd hlt2 hj1
              go_wp2_with fail
              go_roundw
              case rel => exact ⟨j + 1, by omega, by first | rfl | exact congrArg _ e3 | simp, by first | rfl | trivial, HJ.out, HQ2⟩
              case measure => simp [intOf]; omega
      · obtain rfl : j = 10 := by omega
        have h10 : tenT l r.1 10 = none := by rw [HQ.out]; rfl
        obtain ⟨a, ha⟩ : ∃ a, a = r.1 + 1 := ⟨_, rfl⟩
        have e1 : wrap64 ((r.1 : Int) + 1) = (a : Int) := by unfold wrap64; omega
        obtain ⟨ad, eA, hx⟩ := Kd.at_int HRr (a : Int) (by omega) (by omega)
        subst eA
        rw [Int.toNat_natCast] at hx
        have b1 : ((a : Int) < (l.length : Int)) = True := eq_true (by omega)
        have hrd : rd l (a : Int) = l.getD a 0 := by simp [rd]
        by_cases hz : rd l (a : Int) = 1
        · have HT : Aside0 (wire_readB l = (true, 5, (a : Int))) := ⟨by unfold wire_readB; rw [← HRS.out, if_pos HBT.out, h10, ← ha]; dsimp only; rw [if_pos (hrd.symm.trans hz)]⟩
          clear h10 ha HRr hrd hjl hj
          go_wp2_with (first | ((with_reducible refine gate_dst (N := 63) rfl ?_); refine wpList_load_row rfl 24 _ rfl _ rfl _ _ (0, 0) _ HY.out Try.underlying24 rfl (by rw [HCZ.out]; kernel_rfl) ?_) | ((with_reducible refine gate_store (t := 24) (p := 2) rfl ?_); refine HW.store_box' rfl rfl 24 _ _ rfl rfl rfl HZ5.out HCZ.out (by rw [HCZ.out]; kernel_rfl) HC1.out ?_; intro wz hk hg; have HBz := Aside0.mk (HB5.out.grown hg HB5.out.size (fun k he => by injection he with he; omega)); have HVz := Aside0.mk (frame_R_far (HV5.out HBT.out) hg HZ5.out); have HZz := Aside0.mk hk; clear hk hg))
          (try rw [Exit.noGoto_ret])
          refine bodyPost_ret (ear_results3 rfl _ _ w.heap.size 24 cs (0, 0) _ rfl HZz.out Try.underlying24 rfl (by rw [HCZ.out]; kernel_rfl)) rfl ?_
          rw [HT.out]
          refine ⟨v4, ?_, fun _ => HVz.out, HBz.out⟩
          show Ending.returned (.tuple #[.agg cs, _, _]) = Ending.returned (.tuple #[.agg (ear_Cells true (sumH l ear_s0).2.2.2.1 v4), .int .i64 5, .int .i64 (a : Int)])
          rw [HCS.out, HBT.out]
          first | rfl | (rw [← e1]; rfl)
        · have HT : Aside0 (wire_readB l = (true, 0, -1)) := ⟨by unfold wire_readB; rw [← HRS.out, if_pos HBT.out, h10, ← ha]; dsimp only; rw [if_neg (fun h => hz (hrd.trans h))]⟩
          have q5 : (rd l (a : Int) == 1) = false := beq_eq_false_iff_ne.mpr hz
          clear h10 ha HRr hrd hjl hj
          go_wp2_with (first | ((with_reducible refine gate_dst (N := 66) rfl ?_); refine wpList_load_row rfl 24 _ rfl _ rfl _ _ (0, 0) _ HY.out Try.underlying24 rfl (by rw [HCZ.out]; kernel_rfl) ?_) | ((with_reducible refine gate_store (t := 24) (p := 2) rfl ?_); refine HW.store_box' rfl rfl 24 _ _ rfl rfl rfl HZ5.out HCZ.out (by rw [HCZ.out]; kernel_rfl) HC1.out ?_; intro wz hk hg; have HBz := Aside0.mk (HB5.out.grown hg HB5.out.size (fun k he => by injection he with he; omega)); have HVz := Aside0.mk (frame_R_far (HV5.out HBT.out) hg HZ5.out); have HZz := Aside0.mk hk; clear hk hg))
          (try rw [Exit.noGoto_ret])
          refine bodyPost_ret (ear_results3 rfl _ _ w.heap.size 24 cs (0, 0) _ rfl HZz.out Try.underlying24 rfl (by rw [HCZ.out]; kernel_rfl)) rfl ?_
          rw [HT.out]
          refine ⟨v4, ?_, fun _ => HVz.out, HBz.out⟩
          show Ending.returned (.tuple #[.agg cs, _, _]) = Ending.returned (.tuple #[.agg (ear_Cells true (sumH l ear_s0).2.2.2.1 v4), .int .i64 0, .int .i64 (-1)])
          rw [HCS.out, HBT.out]
          rfl
theorem wire_Read.calls (A0 : Option Addr) (c0 : Nat) (l0 : List Int) (r1 : Bool) (r2 : Int) (r3 : Bool) (r4 : Int) (r5 : List Int) (r6 : Int) (r7 : Int) (w : World) (hr0 : Kd.C (Kd.int .i64) w A0 l0.length l0) (hc0 : l0.length ≤ c0) (h : wire_Read.f l0 = some (r1, r2, r3, r4, r5, r6, r7)) :
    Calls Try.prog 21 #[.slice A0 l0.length c0] w fun e w' => ∃ v4_ : Value, e = .returned (.tuple #[.agg #[.bool r1, .int .i64 r2, .bool r3, .int .i64 r4, v4_], .int .i64 r6, .int .i64 r7]) ∧ Kd.R (Kd.int .u8) 5 w' w.heap.size (fun _ => True) v4_ r5 ∧ Below w.heap.size w w' := by
  unfold wire_Read.f at h
  split at h
  case isFalse => cases h
  case isTrue hl =>
    split at h
    case isFalse => cases h
    case isTrue hw =>
      have hx := wire_Read_at A0 c0 l0 w hr0 hc0 hl (fun x hx => by
        have := of_decide_eq_true (List.all_eq_true.mp hw x hx)
        exact this)
      have he := Option.some.inj h
      simp only [Prod.mk.injEq] at he
      obtain ⟨e1, e2, e3, e4, e5, e6, e7⟩ := he
      refine hx.mono ?_
      rintro e w' ⟨v4, rfl, hV, hB⟩
      refine ⟨if (wire_readB l0).1 then v4 else .slice none 0 0, ?_, ?_, hB⟩
      · rw [wire_cells, e1, e2, e3, e4, e6, e7]
      · unfold wire_readF at e5
        cases hb : (wire_readB l0).1 with
        | true => rw [hb] at e5 hV; rw [if_pos rfl] at e5 ⊢; rw [← e5]; exact hV rfl
        | false => rw [hb] at e5; rw [if_neg Bool.false_ne_true] at e5 ⊢; rw [← e5]; exact Kd.R_nil _ _ _ _ _

/-! ### phaetonref01_SameBytes: function 39 -/
def phaetonref01_SameBytes.f (l0 : List Int) (l1 : List Int) : Option (Bool) := some ((strOfNums l0).toList == (strOfNums l1).toList)
set_option maxHeartbeats 8000000 in
set_option maxRecDepth 100000 in
theorem phaetonref01_SameBytes.calls (A0 : Option Addr) (c0 : Nat) (l0 : List Int) (A1 : Option Addr) (c1 : Nat) (l1 : List Int) (r : Bool) (w : World) (hr0 : Kd.C (Kd.int .u8) w A0 l0.length l0) (hc0 : l0.length ≤ c0) (hr1 : Kd.C (Kd.int .u8) w A1 l1.length l1) (hc1 : l1.length ≤ c1) (h : phaetonref01_SameBytes.f l0 l1 = some r) :
    Calls Try.prog 39 #[.slice A0 l0.length c0, .slice A1 l1.length c1] w fun e w' => e = .returned (.bool r) ∧ Drawn0 w w' := by
  have HR0 := Aside0.mk hr0
  have HC0 := Aside0.mk hc0
  clear hr0 hc0
  have HR1 := Aside0.mk hr1
  have HC1 := Aside0.mk hc1
  clear hr1 hc1
  have H : (some ((strOfNums l0).toList == (strOfNums l1).toList)) = some r := h
  clear h
  obtain rfl := Option.some.inj H
  have hcv3 := Kd.C_string (P := Try.prog) (A := A0) (c := c0) Try.underlying22 Try.underlying5 Try.underlying9 HR0.out
  have hcv4 := Kd.C_string (P := Try.prog) (A := A1) (c := c1) Try.underlying22 Try.underlying5 Try.underlying9 HR1.out
  go_enter Try.func39, Try.ntmps39
  go_wp2
  go_ret
  exact ⟨by first | rfl | (simp; done) | (simp [*]; done), by repeat (first | exact Drawn0.refl _ | apply Drawn0.step)⟩

/-! ### phaetonref04_Same: function 23 -/
def phaetonref04_Same.f (a0_0 : Bool) (a0_1 : Int) (a0_2 : Bool) (a0_3 : Int) (l0_4 : List Int) (a1_0 : Bool) (a1_1 : Int) (a1_2 : Bool) (a1_3 : Int) (l1_4 : List Int) : Option (Bool) := if (a0_0 == a1_0) = true then (if a0_1 = a1_1 then (if (a0_2 == a1_2) = true then (if a0_3 = a1_3 then ((phaetonref01_SameBytes.f l0_4 l1_4).bind fun t286 => (some t286)) else (some false)) else (some false)) else (some false)) else (some false)
set_option maxHeartbeats 8000000 in
set_option maxRecDepth 100000 in
theorem phaetonref04_Same.calls (a0_0 : Bool) (a0_1 : Int) (a0_2 : Bool) (a0_3 : Int) (A0_4 : Option Addr) (c0_4 : Nat) (l0_4 : List Int) (a1_0 : Bool) (a1_1 : Int) (a1_2 : Bool) (a1_3 : Int) (A1_4 : Option Addr) (c1_4 : Nat) (l1_4 : List Int) (r : Bool) (w : World) (hr0_4 : Kd.C (Kd.int .u8) w A0_4 l0_4.length l0_4) (hc0_4 : l0_4.length ≤ c0_4) (hr1_4 : Kd.C (Kd.int .u8) w A1_4 l1_4.length l1_4) (hc1_4 : l1_4.length ≤ c1_4) (h : phaetonref04_Same.f a0_0 a0_1 a0_2 a0_3 l0_4 a1_0 a1_1 a1_2 a1_3 l1_4 = some r) :
    Calls Try.prog 23 #[.agg #[.bool a0_0, .int .i64 a0_1, .bool a0_2, .int .i64 a0_3, .slice A0_4 l0_4.length c0_4], .agg #[.bool a1_0, .int .i64 a1_1, .bool a1_2, .int .i64 a1_3, .slice A1_4 l1_4.length c1_4]] w fun e w' => e = .returned (.bool r) ∧ Below w.heap.size w w' := by
  have hu24 := Try.underlying24
  have HR0_4 := Aside0.mk hr0_4
  have HC0_4 := Aside0.mk hc0_4
  clear hr0_4 hc0_4
  have HR1_4 := Aside0.mk hr1_4
  have HC1_4 := Aside0.mk hc1_4
  clear hr1_4 hc1_4
  have HB := Aside0.mk (Below.refl w.heap.size w)
  have H : (if (a0_0 == a1_0) = true then (if a0_1 = a1_1 then (if (a0_2 == a1_2) = true then (if a0_3 = a1_3 then ((phaetonref01_SameBytes.f l0_4 l1_4).bind fun t286 => (some t286)) else (some false)) else (some false)) else (some false)) else (some false)) = some r := h
  clear h
  by_cases c3 : (a0_0 == a1_0) = true
  · rw [if_pos c3] at H
    have c3b0 : (a0_0 == a1_0) = true := c3
    (try (have c3b1 : decide (a0_0 = a1_0) = true := by simpa using c3))
    (try (have c3b2 : (a0_0 == a1_0) = true := by simpa using c3))
    clear c3
    by_cases c4 : a0_1 = a1_1
    · rw [if_pos c4] at H
      have c4b0 : (a0_1 == a1_1) = true := beq_iff_eq.mpr c4
      have c4b1 : (a0_1 != a1_1) = false := bne_eq_false_iff_eq.mpr c4
      clear c4
      by_cases c5 : (a0_2 == a1_2) = true
      · rw [if_pos c5] at H
        have c5b0 : (a0_2 == a1_2) = true := c5
        (try (have c5b1 : decide (a0_2 = a1_2) = true := by simpa using c5))
        (try (have c5b2 : (a0_2 == a1_2) = true := by simpa using c5))
        clear c5
        by_cases c6 : a0_3 = a1_3
        · rw [if_pos c6] at H
          have c6b0 : (a0_3 == a1_3) = true := beq_iff_eq.mpr c6
          have c6b1 : (a0_3 != a1_3) = false := bne_eq_false_iff_eq.mpr c6
          clear c6
          replace H := Option.bind_eq_some_iff.mp H
          obtain ⟨t286, A70, H⟩ := H
          replace H : (some t286) = some r := H
          have A7 := Aside0.mk A70
          clear A70
          obtain rfl := Option.some.inj H
          go_enter Try.func23, Try.ntmps23
          go_wp2_with (first | ((with_reducible refine gate_store (t := 24) (p := 3) rfl ?_); refine HW.store_box5 rfl rfl 24 _ _ rfl rfl rfl BK285.out rfl (by kernel_rfl) rfl rfl rfl rfl rfl ?_; intro w1_ hw1_ hk1_; subst hw1_; have hcb285_0 := (blk_cell hk1_ 0).trans rfl; have hfb285_0 := blk_frozen hk1_ 0; have hcb285_1 := (blk_cell hk1_ 1).trans rfl; have hfb285_1 := blk_frozen hk1_ 1; have hcb285_2 := (blk_cell hk1_ 2).trans rfl; have hfb285_2 := blk_frozen hk1_ 2; have hcb285_3 := (blk_cell hk1_ 3).trans rfl; have hfb285_3 := blk_frozen hk1_ 3; have hcb285_4 := (blk_cell hk1_ 4).trans rfl; have hfb285_4 := blk_frozen hk1_ 4; clear hk1_) | ((with_reducible refine gate_store (t := 24) (p := 2) rfl ?_); refine HW.store_box5 rfl rfl 24 _ _ rfl rfl rfl BK284.out rfl (by kernel_rfl) rfl rfl rfl rfl rfl ?_; intro w1_ hw1_ hk1_; subst hw1_; have hcb284_0 := (blk_cell hk1_ 0).trans rfl; have hfb284_0 := blk_frozen hk1_ 0; have hcb284_1 := (blk_cell hk1_ 1).trans rfl; have hfb284_1 := blk_frozen hk1_ 1; have hcb284_2 := (blk_cell hk1_ 2).trans rfl; have hfb284_2 := blk_frozen hk1_ 2; have hcb284_3 := (blk_cell hk1_ 3).trans rfl; have hfb284_3 := blk_frozen hk1_ 3; have hcb284_4 := (blk_cell hk1_ 4).trans rfl; have hfb284_4 := blk_frozen hk1_ 4; clear hk1_) | ((with_reducible refine gate_dst (N := 2) rfl ?_); refine box_event ?hg (N := 2) ?hd (cs := #[.bool a0_0, .int .i64 a0_1, .bool a0_2, .int .i64 a0_3, .slice A0_4 l0_4.length c0_4]) (t := 24) ?hr ?_; (case hd => rfl); (case hg => rfl); (case hr => first | (go_simp; done) | (go_simp; rfl)); intro gb284 hg w8 hbox hb; have n0_ := Aside0.mk (below_step (by repeat (first | (with_reducible first | exact HB.out | apply below_alloc | apply pw_below_drewN | apply below_drew1) | exact HB.out)) hb); have n1_ := Aside0.mk (hbox); have n2_ := Aside0.mk ((by rw [hg]; exact (below_size (by repeat (first | (with_reducible first | exact HB.out | apply below_alloc | apply pw_below_drewN | apply below_drew1) | exact HB.out))) : w.heap.size ≤ gb284)); have n3_ := Aside0.mk ((by rw [hg]; exact (below_size (by repeat (first | (with_reducible first | exact HB.out | apply below_alloc | apply pw_below_drewN | apply below_drew1) | exact HB.out))) : w.heap.size ≤ gb284)); clear HB; have HB := n0_; have BK284 := n1_; have GW284 := n2_; have GE284 := n3_; clear n0_ n1_ n2_ n3_; clear hb hbox hg) | ((with_reducible refine gate_dst (N := 3) rfl ?_); refine box_event ?hg (N := 3) ?hd (cs := #[.bool a1_0, .int .i64 a1_1, .bool a1_2, .int .i64 a1_3, .slice A1_4 l1_4.length c1_4]) (t := 24) ?hr ?_; (case hd => rfl); (case hg => rfl); (case hr => first | (go_simp; done) | (go_simp; rfl)); intro gb285 hg w9 hbox hb; have n0_ := Aside0.mk (blk_below (g := gb284) (o := .cells #[.bool a0_0, .int .i64 a0_1, .bool a0_2, .int .i64 a0_3, .slice A0_4 l0_4.length c0_4] 24 (0, 0)) (by (with_reducible repeat (first | refine blk_drewN ?_ _ | refine blk_drew ?_ | refine blk_alloc ?_ _)); exact BK284.out) hb); have n1_ := Aside0.mk (below_step (by repeat (first | (with_reducible first | exact HB.out | apply below_alloc | apply pw_below_drewN | apply below_drew1 | refine below_set ?_ GE284.out) | exact HB.out)) hb); have n2_ := Aside0.mk (hbox); have n3_ := Aside0.mk ((by rw [hg]; exact (below_size (by repeat (first | (with_reducible first | exact HB.out | apply below_alloc | apply pw_below_drewN | apply below_drew1 | refine below_set ?_ GE284.out) | exact HB.out))) : w.heap.size ≤ gb285)); have n4_ := Aside0.mk ((by rw [hg]; exact (below_size (by repeat (first | (with_reducible first | exact HB.out | apply below_alloc | apply pw_below_drewN | apply below_drew1 | refine below_set ?_ GE284.out) | exact HB.out))) : w.heap.size ≤ gb285)); have n5_ := Aside0.mk ((by rw [hg]; exact Nat.ne_of_lt (blk_lt (g := gb284) (o := .cells #[.bool a0_0, .int .i64 a0_1, .bool a0_2, .int .i64 a0_3, .slice A0_4 l0_4.length c0_4] 24 (0, 0)) (by (with_reducible repeat (first | refine blk_drewN ?_ _ | refine blk_drew ?_ | refine blk_alloc ?_ _)); exact BK284.out)) : gb284 ≠ gb285)); have n6_ := Aside0.mk ((by rw [hg]; exact Nat.ne_of_gt (blk_lt (g := gb284) (o := .cells #[.bool a0_0, .int .i64 a0_1, .bool a0_2, .int .i64 a0_3, .slice A0_4 l0_4.length c0_4] 24 (0, 0)) (by (with_reducible repeat (first | refine blk_drewN ?_ _ | refine blk_drew ?_ | refine blk_alloc ?_ _)); exact BK284.out)) : gb285 ≠ gb284)); clear BK284; clear HB; have BK284 := n0_; have HB := n1_; have BK285 := n2_; have GW285 := n3_; have GE285 := n4_; have NB284_285 := n5_; have NB285_284 := n6_; clear n0_ n1_ n2_ n3_ n4_ n5_ n6_; clear hb hbox hg; have hnb10 := NB284_285.out; have hnc10 := NB285_284.out; have hcz11_0 : w9.cell? ⟨gb284, 0, none⟩ = some (.bool a0_0) := (blk_cell BK284.out 0).trans rfl; have hcz11_1 : w9.cell? ⟨gb284, 1, none⟩ = some (.int .i64 a0_1) := (blk_cell BK284.out 1).trans rfl; have hcz11_2 : w9.cell? ⟨gb284, 2, none⟩ = some (.bool a0_2) := (blk_cell BK284.out 2).trans rfl; have hcz11_3 : w9.cell? ⟨gb284, 3, none⟩ = some (.int .i64 a0_3) := (blk_cell BK284.out 3).trans rfl; have hcz11_4 : w9.cell? ⟨gb284, 4, none⟩ = some (.slice A0_4 l0_4.length c0_4) := (blk_cell BK284.out 4).trans rfl; have hfz11_0 := blk_frozen BK284.out 0; have hfz11_1 := blk_frozen BK284.out 1; have hfz11_2 := blk_frozen BK284.out 2; have hfz11_3 := blk_frozen BK284.out 3; have hfz11_4 := blk_frozen BK284.out 4; have hcz12_0 : w9.cell? ⟨gb285, 0, none⟩ = some (.bool a1_0) := (blk_cell BK285.out 0).trans rfl; have hcz12_1 : w9.cell? ⟨gb285, 1, none⟩ = some (.int .i64 a1_1) := (blk_cell BK285.out 1).trans rfl; have hcz12_2 : w9.cell? ⟨gb285, 2, none⟩ = some (.bool a1_2) := (blk_cell BK285.out 2).trans rfl; have hcz12_3 : w9.cell? ⟨gb285, 3, none⟩ = some (.int .i64 a1_3) := (blk_cell BK285.out 3).trans rfl; have hcz12_4 : w9.cell? ⟨gb285, 4, none⟩ = some (.slice A1_4 l1_4.length c1_4) := (blk_cell BK285.out 4).trans rfl; have hfz12_0 := blk_frozen BK285.out 0; have hfz12_1 := blk_frozen BK285.out 1; have hfz12_2 := blk_frozen BK285.out 2; have hfz12_3 := blk_frozen BK285.out 3; have hfz12_4 := blk_frozen BK285.out 4) | (go_at_call 39; (with_reducible refine (phaetonref01_SameBytes.calls _ _ l0_4 _ _ l1_4 t286 _ ?side1 ?side2 ?side3 ?side4 A7.out).mono ?_); (case side1 => repeat (first | exact (Kd.C_below HR0_4.out HB.out) | (with_reducible refine Kd.C_alloc ?_ _) | (with_reducible refine Kd.C_drewN ?_ _) | (with_reducible refine Kd.C_drew ?_))); (case side2 => exact HC0_4.out); (case side3 => repeat (first | exact (Kd.C_below HR1_4.out HB.out) | (with_reducible refine Kd.C_alloc ?_ _) | (with_reducible refine Kd.C_drewN ?_ _) | (with_reducible refine Kd.C_drew ?_))); (case side4 => exact HC1_4.out); rintro e w' ⟨rfl, ⟨nd, rfl⟩⟩))
          go_ret
          exact ⟨by first | rfl | (simp [errW_none, errW_some] <;> rfl) | (simp [*, errW_none, errW_some] <;> rfl), by repeat (first | (with_reducible first | exact HB.out | apply below_alloc | apply pw_below_drewN | apply below_drew1 | refine below_set ?_ GE284.out | refine below_set ?_ GE285.out) | exact HB.out)⟩
        · rw [if_neg c6] at H
          have c6b0 : (a0_3 == a1_3) = false := beq_eq_false_iff_ne.mpr c6
          have c6b1 : (a0_3 != a1_3) = true := bne_iff_ne.mpr c6
          obtain rfl := Option.some.inj H
          go_enter Try.func23, Try.ntmps23
          go_wp2_with (first | ((with_reducible refine gate_store (t := 24) (p := 3) rfl ?_); refine HW.store_box5 rfl rfl 24 _ _ rfl rfl rfl BK285.out rfl (by kernel_rfl) rfl rfl rfl rfl rfl ?_; intro w1_ hw1_ hk1_; subst hw1_; have hcb285_0 := (blk_cell hk1_ 0).trans rfl; have hfb285_0 := blk_frozen hk1_ 0; have hcb285_1 := (blk_cell hk1_ 1).trans rfl; have hfb285_1 := blk_frozen hk1_ 1; have hcb285_2 := (blk_cell hk1_ 2).trans rfl; have hfb285_2 := blk_frozen hk1_ 2; have hcb285_3 := (blk_cell hk1_ 3).trans rfl; have hfb285_3 := blk_frozen hk1_ 3; have hcb285_4 := (blk_cell hk1_ 4).trans rfl; have hfb285_4 := blk_frozen hk1_ 4; clear hk1_) | ((with_reducible refine gate_store (t := 24) (p := 2) rfl ?_); refine HW.store_box5 rfl rfl 24 _ _ rfl rfl rfl BK284.out rfl (by kernel_rfl) rfl rfl rfl rfl rfl ?_; intro w1_ hw1_ hk1_; subst hw1_; have hcb284_0 := (blk_cell hk1_ 0).trans rfl; have hfb284_0 := blk_frozen hk1_ 0; have hcb284_1 := (blk_cell hk1_ 1).trans rfl; have hfb284_1 := blk_frozen hk1_ 1; have hcb284_2 := (blk_cell hk1_ 2).trans rfl; have hfb284_2 := blk_frozen hk1_ 2; have hcb284_3 := (blk_cell hk1_ 3).trans rfl; have hfb284_3 := blk_frozen hk1_ 3; have hcb284_4 := (blk_cell hk1_ 4).trans rfl; have hfb284_4 := blk_frozen hk1_ 4; clear hk1_) | ((with_reducible refine gate_dst (N := 2) rfl ?_); refine box_event ?hg (N := 2) ?hd (cs := #[.bool a0_0, .int .i64 a0_1, .bool a0_2, .int .i64 a0_3, .slice A0_4 l0_4.length c0_4]) (t := 24) ?hr ?_; (case hd => rfl); (case hg => rfl); (case hr => first | (go_simp; done) | (go_simp; rfl)); intro gb284 hg w13 hbox hb; have n0_ := Aside0.mk (below_step (by repeat (first | (with_reducible first | exact HB.out | apply below_alloc | apply pw_below_drewN | apply below_drew1) | exact HB.out)) hb); have n1_ := Aside0.mk (hbox); have n2_ := Aside0.mk ((by rw [hg]; exact (below_size (by repeat (first | (with_reducible first | exact HB.out | apply below_alloc | apply pw_below_drewN | apply below_drew1) | exact HB.out))) : w.heap.size ≤ gb284)); have n3_ := Aside0.mk ((by rw [hg]; exact (below_size (by repeat (first | (with_reducible first | exact HB.out | apply below_alloc | apply pw_below_drewN | apply below_drew1) | exact HB.out))) : w.heap.size ≤ gb284)); clear HB; have HB := n0_; have BK284 := n1_; have GW284 := n2_; have GE284 := n3_; clear n0_ n1_ n2_ n3_; clear hb hbox hg) | ((with_reducible refine gate_dst (N := 3) rfl ?_); refine box_event ?hg (N := 3) ?hd (cs := #[.bool a1_0, .int .i64 a1_1, .bool a1_2, .int .i64 a1_3, .slice A1_4 l1_4.length c1_4]) (t := 24) ?hr ?_; (case hd => rfl); (case hg => rfl); (case hr => first | (go_simp; done) | (go_simp; rfl)); intro gb285 hg w14 hbox hb; have n0_ := Aside0.mk (blk_below (g := gb284) (o := .cells #[.bool a0_0, .int .i64 a0_1, .bool a0_2, .int .i64 a0_3, .slice A0_4 l0_4.length c0_4] 24 (0, 0)) (by (with_reducible repeat (first | refine blk_drewN ?_ _ | refine blk_drew ?_ | refine blk_alloc ?_ _)); exact BK284.out) hb); have n1_ := Aside0.mk (below_step (by repeat (first | (with_reducible first | exact HB.out | apply below_alloc | apply pw_below_drewN | apply below_drew1 | refine below_set ?_ GE284.out) | exact HB.out)) hb); have n2_ := Aside0.mk (hbox); have n3_ := Aside0.mk ((by rw [hg]; exact (below_size (by repeat (first | (with_reducible first | exact HB.out | apply below_alloc | apply pw_below_drewN | apply below_drew1 | refine below_set ?_ GE284.out) | exact HB.out))) : w.heap.size ≤ gb285)); have n4_ := Aside0.mk ((by rw [hg]; exact (below_size (by repeat (first | (with_reducible first | exact HB.out | apply below_alloc | apply pw_below_drewN | apply below_drew1 | refine below_set ?_ GE284.out) | exact HB.out))) : w.heap.size ≤ gb285)); have n5_ := Aside0.mk ((by rw [hg]; exact Nat.ne_of_lt (blk_lt (g := gb284) (o := .cells #[.bool a0_0, .int .i64 a0_1, .bool a0_2, .int .i64 a0_3, .slice A0_4 l0_4.length c0_4] 24 (0, 0)) (by (with_reducible repeat (first | refine blk_drewN ?_ _ | refine blk_drew ?_ | refine blk_alloc ?_ _)); exact BK284.out)) : gb284 ≠ gb285)); have n6_ := Aside0.mk ((by rw [hg]; exact Nat.ne_of_gt (blk_lt (g := gb284) (o := .cells #[.bool a0_0, .int .i64 a0_1, .bool a0_2, .int .i64 a0_3, .slice A0_4 l0_4.length c0_4] 24 (0, 0)) (by (with_reducible repeat (first | refine blk_drewN ?_ _ | refine blk_drew ?_ | refine blk_alloc ?_ _)); exact BK284.out)) : gb285 ≠ gb284)); clear BK284; clear HB; have BK284 := n0_; have HB := n1_; have BK285 := n2_; have GW285 := n3_; have GE285 := n4_; have NB284_285 := n5_; have NB285_284 := n6_; clear n0_ n1_ n2_ n3_ n4_ n5_ n6_; clear hb hbox hg; have hnb15 := NB284_285.out; have hnc15 := NB285_284.out; have hcz16_0 : w14.cell? ⟨gb284, 0, none⟩ = some (.bool a0_0) := (blk_cell BK284.out 0).trans rfl; have hcz16_1 : w14.cell? ⟨gb284, 1, none⟩ = some (.int .i64 a0_1) := (blk_cell BK284.out 1).trans rfl; have hcz16_2 : w14.cell? ⟨gb284, 2, none⟩ = some (.bool a0_2) := (blk_cell BK284.out 2).trans rfl; have hcz16_3 : w14.cell? ⟨gb284, 3, none⟩ = some (.int .i64 a0_3) := (blk_cell BK284.out 3).trans rfl; have hcz16_4 : w14.cell? ⟨gb284, 4, none⟩ = some (.slice A0_4 l0_4.length c0_4) := (blk_cell BK284.out 4).trans rfl; have hfz16_0 := blk_frozen BK284.out 0; have hfz16_1 := blk_frozen BK284.out 1; have hfz16_2 := blk_frozen BK284.out 2; have hfz16_3 := blk_frozen BK284.out 3; have hfz16_4 := blk_frozen BK284.out 4; have hcz17_0 : w14.cell? ⟨gb285, 0, none⟩ = some (.bool a1_0) := (blk_cell BK285.out 0).trans rfl; have hcz17_1 : w14.cell? ⟨gb285, 1, none⟩ = some (.int .i64 a1_1) := (blk_cell BK285.out 1).trans rfl; have hcz17_2 : w14.cell? ⟨gb285, 2, none⟩ = some (.bool a1_2) := (blk_cell BK285.out 2).trans rfl; have hcz17_3 : w14.cell? ⟨gb285, 3, none⟩ = some (.int .i64 a1_3) := (blk_cell BK285.out 3).trans rfl; have hcz17_4 : w14.cell? ⟨gb285, 4, none⟩ = some (.slice A1_4 l1_4.length c1_4) := (blk_cell BK285.out 4).trans rfl; have hfz17_0 := blk_frozen BK285.out 0; have hfz17_1 := blk_frozen BK285.out 1; have hfz17_2 := blk_frozen BK285.out 2; have hfz17_3 := blk_frozen BK285.out 3; have hfz17_4 := blk_frozen BK285.out 4))
          go_ret
          exact ⟨by first | rfl | (simp [errW_none, errW_some] <;> rfl) | (simp [*, errW_none, errW_some] <;> rfl), by repeat (first | (with_reducible first | exact HB.out | apply below_alloc | apply pw_below_drewN | apply below_drew1 | refine below_set ?_ GE284.out | refine below_set ?_ GE285.out) | exact HB.out)⟩
      · rw [if_neg c5] at H
        have c5b0 : (a0_2 == a1_2) = false := by simpa using c5
        (try (have c5b1 : decide (a0_2 = a1_2) = false := by simpa using c5))
        (try (have c5b2 : (a0_2 == a1_2) = false := by simpa using c5))
        (try (have c5b3 : ¬ (a0_2 = a1_2) := by simpa using c5))
        clear c5
        obtain rfl := Option.some.inj H
        go_enter Try.func23, Try.ntmps23
        go_wp2_with (first | ((with_reducible refine gate_store (t := 24) (p := 3) rfl ?_); refine HW.store_box5 rfl rfl 24 _ _ rfl rfl rfl BK285.out rfl (by kernel_rfl) rfl rfl rfl rfl rfl ?_; intro w1_ hw1_ hk1_; subst hw1_; have hcb285_0 := (blk_cell hk1_ 0).trans rfl; have hfb285_0 := blk_frozen hk1_ 0; have hcb285_1 := (blk_cell hk1_ 1).trans rfl; have hfb285_1 := blk_frozen hk1_ 1; have hcb285_2 := (blk_cell hk1_ 2).trans rfl; have hfb285_2 := blk_frozen hk1_ 2; have hcb285_3 := (blk_cell hk1_ 3).trans rfl; have hfb285_3 := blk_frozen hk1_ 3; have hcb285_4 := (blk_cell hk1_ 4).trans rfl; have hfb285_4 := blk_frozen hk1_ 4; clear hk1_) | ((with_reducible refine gate_store (t := 24) (p := 2) rfl ?_); refine HW.store_box5 rfl rfl 24 _ _ rfl rfl rfl BK284.out rfl (by kernel_rfl) rfl rfl rfl rfl rfl ?_; intro w1_ hw1_ hk1_; subst hw1_; have hcb284_0 := (blk_cell hk1_ 0).trans rfl; have hfb284_0 := blk_frozen hk1_ 0; have hcb284_1 := (blk_cell hk1_ 1).trans rfl; have hfb284_1 := blk_frozen hk1_ 1; have hcb284_2 := (blk_cell hk1_ 2).trans rfl; have hfb284_2 := blk_frozen hk1_ 2; have hcb284_3 := (blk_cell hk1_ 3).trans rfl; have hfb284_3 := blk_frozen hk1_ 3; have hcb284_4 := (blk_cell hk1_ 4).trans rfl; have hfb284_4 := blk_frozen hk1_ 4; clear hk1_) | ((with_reducible refine gate_dst (N := 2) rfl ?_); refine box_event ?hg (N := 2) ?hd (cs := #[.bool a0_0, .int .i64 a0_1, .bool a0_2, .int .i64 a0_3, .slice A0_4 l0_4.length c0_4]) (t := 24) ?hr ?_; (case hd => rfl); (case hg => rfl); (case hr => first | (go_simp; done) | (go_simp; rfl)); intro gb284 hg w18 hbox hb; have n0_ := Aside0.mk (below_step (by repeat (first | (with_reducible first | exact HB.out | apply below_alloc | apply pw_below_drewN | apply below_drew1) | exact HB.out)) hb); have n1_ := Aside0.mk (hbox); have n2_ := Aside0.mk ((by rw [hg]; exact (below_size (by repeat (first | (with_reducible first | exact HB.out | apply below_alloc | apply pw_below_drewN | apply below_drew1) | exact HB.out))) : w.heap.size ≤ gb284)); have n3_ := Aside0.mk ((by rw [hg]; exact (below_size (by repeat (first | (with_reducible first | exact HB.out | apply below_alloc | apply pw_below_drewN | apply below_drew1) | exact HB.out))) : w.heap.size ≤ gb284)); clear HB; have HB := n0_; have BK284 := n1_; have GW284 := n2_; have GE284 := n3_; clear n0_ n1_ n2_ n3_; clear hb hbox hg) | ((with_reducible refine gate_dst (N := 3) rfl ?_); refine box_event ?hg (N := 3) ?hd (cs := #[.bool a1_0, .int .i64 a1_1, .bool a1_2, .int .i64 a1_3, .slice A1_4 l1_4.length c1_4]) (t := 24) ?hr ?_; (case hd => rfl); (case hg => rfl); (case hr => first | (go_simp; done) | (go_simp; rfl)); intro gb285 hg w19 hbox hb; have n0_ := Aside0.mk (blk_below (g := gb284) (o := .cells #[.bool a0_0, .int .i64 a0_1, .bool a0_2, .int .i64 a0_3, .slice A0_4 l0_4.length c0_4] 24 (0, 0)) (by (with_reducible repeat (first | refine blk_drewN ?_ _ | refine blk_drew ?_ | refine blk_alloc ?_ _)); exact BK284.out) hb); have n1_ := Aside0.mk (below_step (by repeat (first | (with_reducible first | exact HB.out | apply below_alloc | apply pw_below_drewN | apply below_drew1 | refine below_set ?_ GE284.out) | exact HB.out)) hb); have n2_ := Aside0.mk (hbox); have n3_ := Aside0.mk ((by rw [hg]; exact (below_size (by repeat (first | (with_reducible first | exact HB.out | apply below_alloc | apply pw_below_drewN | apply below_drew1 | refine below_set ?_ GE284.out) | exact HB.out))) : w.heap.size ≤ gb285)); have n4_ := Aside0.mk ((by rw [hg]; exact (below_size (by repeat (first | (with_reducible first | exact HB.out | apply below_alloc | apply pw_below_drewN | apply below_drew1 | refine below_set ?_ GE284.out) | exact HB.out))) : w.heap.size ≤ gb285)); have n5_ := Aside0.mk ((by rw [hg]; exact Nat.ne_of_lt (blk_lt (g := gb284) (o := .cells #[.bool a0_0, .int .i64 a0_1, .bool a0_2, .int .i64 a0_3, .slice A0_4 l0_4.length c0_4] 24 (0, 0)) (by (with_reducible repeat (first | refine blk_drewN ?_ _ | refine blk_drew ?_ | refine blk_alloc ?_ _)); exact BK284.out)) : gb284 ≠ gb285)); have n6_ := Aside0.mk ((by rw [hg]; exact Nat.ne_of_gt (blk_lt (g := gb284) (o := .cells #[.bool a0_0, .int .i64 a0_1, .bool a0_2, .int .i64 a0_3, .slice A0_4 l0_4.length c0_4] 24 (0, 0)) (by (with_reducible repeat (first | refine blk_drewN ?_ _ | refine blk_drew ?_ | refine blk_alloc ?_ _)); exact BK284.out)) : gb285 ≠ gb284)); clear BK284; clear HB; have BK284 := n0_; have HB := n1_; have BK285 := n2_; have GW285 := n3_; have GE285 := n4_; have NB284_285 := n5_; have NB285_284 := n6_; clear n0_ n1_ n2_ n3_ n4_ n5_ n6_; clear hb hbox hg; have hnb20 := NB284_285.out; have hnc20 := NB285_284.out; have hcz21_0 : w19.cell? ⟨gb284, 0, none⟩ = some (.bool a0_0) := (blk_cell BK284.out 0).trans rfl; have hcz21_1 : w19.cell? ⟨gb284, 1, none⟩ = some (.int .i64 a0_1) := (blk_cell BK284.out 1).trans rfl; have hcz21_2 : w19.cell? ⟨gb284, 2, none⟩ = some (.bool a0_2) := (blk_cell BK284.out 2).trans rfl; have hcz21_3 : w19.cell? ⟨gb284, 3, none⟩ = some (.int .i64 a0_3) := (blk_cell BK284.out 3).trans rfl; have hcz21_4 : w19.cell? ⟨gb284, 4, none⟩ = some (.slice A0_4 l0_4.length c0_4) := (blk_cell BK284.out 4).trans rfl; have hfz21_0 := blk_frozen BK284.out 0; have hfz21_1 := blk_frozen BK284.out 1; have hfz21_2 := blk_frozen BK284.out 2; have hfz21_3 := blk_frozen BK284.out 3; have hfz21_4 := blk_frozen BK284.out 4; have hcz22_0 : w19.cell? ⟨gb285, 0, none⟩ = some (.bool a1_0) := (blk_cell BK285.out 0).trans rfl; have hcz22_1 : w19.cell? ⟨gb285, 1, none⟩ = some (.int .i64 a1_1) := (blk_cell BK285.out 1).trans rfl; have hcz22_2 : w19.cell? ⟨gb285, 2, none⟩ = some (.bool a1_2) := (blk_cell BK285.out 2).trans rfl; have hcz22_3 : w19.cell? ⟨gb285, 3, none⟩ = some (.int .i64 a1_3) := (blk_cell BK285.out 3).trans rfl; have hcz22_4 : w19.cell? ⟨gb285, 4, none⟩ = some (.slice A1_4 l1_4.length c1_4) := (blk_cell BK285.out 4).trans rfl; have hfz22_0 := blk_frozen BK285.out 0; have hfz22_1 := blk_frozen BK285.out 1; have hfz22_2 := blk_frozen BK285.out 2; have hfz22_3 := blk_frozen BK285.out 3; have hfz22_4 := blk_frozen BK285.out 4))
        go_ret
        exact ⟨by first | rfl | (simp [errW_none, errW_some] <;> rfl) | (simp [*, errW_none, errW_some] <;> rfl), by repeat (first | (with_reducible first | exact HB.out | apply below_alloc | apply pw_below_drewN | apply below_drew1 | refine below_set ?_ GE284.out | refine below_set ?_ GE285.out) | exact HB.out)⟩
    · rw [if_neg c4] at H
      have c4b0 : (a0_1 == a1_1) = false := beq_eq_false_iff_ne.mpr c4
      have c4b1 : (a0_1 != a1_1) = true := bne_iff_ne.mpr c4
      obtain rfl := Option.some.inj H
      go_enter Try.func23, Try.ntmps23
      go_wp2_with (first | ((with_reducible refine gate_store (t := 24) (p := 3) rfl ?_); refine HW.store_box5 rfl rfl 24 _ _ rfl rfl rfl BK285.out rfl (by kernel_rfl) rfl rfl rfl rfl rfl ?_; intro w1_ hw1_ hk1_; subst hw1_; have hcb285_0 := (blk_cell hk1_ 0).trans rfl; have hfb285_0 := blk_frozen hk1_ 0; have hcb285_1 := (blk_cell hk1_ 1).trans rfl; have hfb285_1 := blk_frozen hk1_ 1; have hcb285_2 := (blk_cell hk1_ 2).trans rfl; have hfb285_2 := blk_frozen hk1_ 2; have hcb285_3 := (blk_cell hk1_ 3).trans rfl; have hfb285_3 := blk_frozen hk1_ 3; have hcb285_4 := (blk_cell hk1_ 4).trans rfl; have hfb285_4 := blk_frozen hk1_ 4; clear hk1_) | ((with_reducible refine gate_store (t := 24) (p := 2) rfl ?_); refine HW.store_box5 rfl rfl 24 _ _ rfl rfl rfl BK284.out rfl (by kernel_rfl) rfl rfl rfl rfl rfl ?_; intro w1_ hw1_ hk1_; subst hw1_; have hcb284_0 := (blk_cell hk1_ 0).trans rfl; have hfb284_0 := blk_frozen hk1_ 0; have hcb284_1 := (blk_cell hk1_ 1).trans rfl; have hfb284_1 := blk_frozen hk1_ 1; have hcb284_2 := (blk_cell hk1_ 2).trans rfl; have hfb284_2 := blk_frozen hk1_ 2; have hcb284_3 := (blk_cell hk1_ 3).trans rfl; have hfb284_3 := blk_frozen hk1_ 3; have hcb284_4 := (blk_cell hk1_ 4).trans rfl; have hfb284_4 := blk_frozen hk1_ 4; clear hk1_) | ((with_reducible refine gate_dst (N := 2) rfl ?_); refine box_event ?hg (N := 2) ?hd (cs := #[.bool a0_0, .int .i64 a0_1, .bool a0_2, .int .i64 a0_3, .slice A0_4 l0_4.length c0_4]) (t := 24) ?hr ?_; (case hd => rfl); (case hg => rfl); (case hr => first | (go_simp; done) | (go_simp; rfl)); intro gb284 hg w23 hbox hb; have n0_ := Aside0.mk (below_step (by repeat (first | (with_reducible first | exact HB.out | apply below_alloc | apply pw_below_drewN | apply below_drew1) | exact HB.out)) hb); have n1_ := Aside0.mk (hbox); have n2_ := Aside0.mk ((by rw [hg]; exact (below_size (by repeat (first | (with_reducible first | exact HB.out | apply below_alloc | apply pw_below_drewN | apply below_drew1) | exact HB.out))) : w.heap.size ≤ gb284)); have n3_ := Aside0.mk ((by rw [hg]; exact (below_size (by repeat (first | (with_reducible first | exact HB.out | apply below_alloc | apply pw_below_drewN | apply below_drew1) | exact HB.out))) : w.heap.size ≤ gb284)); clear HB; have HB := n0_; have BK284 := n1_; have GW284 := n2_; have GE284 := n3_; clear n0_ n1_ n2_ n3_; clear hb hbox hg) | ((with_reducible refine gate_dst (N := 3) rfl ?_); refine box_event ?hg (N := 3) ?hd (cs := #[.bool a1_0, .int .i64 a1_1, .bool a1_2, .int .i64 a1_3, .slice A1_4 l1_4.length c1_4]) (t := 24) ?hr ?_; (case hd => rfl); (case hg => rfl); (case hr => first | (go_simp; done) | (go_simp; rfl)); intro gb285 hg w24 hbox hb; have n0_ := Aside0.mk (blk_below (g := gb284) (o := .cells #[.bool a0_0, .int .i64 a0_1, .bool a0_2, .int .i64 a0_3, .slice A0_4 l0_4.length c0_4] 24 (0, 0)) (by (with_reducible repeat (first | refine blk_drewN ?_ _ | refine blk_drew ?_ | refine blk_alloc ?_ _)); exact BK284.out) hb); have n1_ := Aside0.mk (below_step (by repeat (first | (with_reducible first | exact HB.out | apply below_alloc | apply pw_below_drewN | apply below_drew1 | refine below_set ?_ GE284.out) | exact HB.out)) hb); have n2_ := Aside0.mk (hbox); have n3_ := Aside0.mk ((by rw [hg]; exact (below_size (by repeat (first | (with_reducible first | exact HB.out | apply below_alloc | apply pw_below_drewN | apply below_drew1 | refine below_set ?_ GE284.out) | exact HB.out))) : w.heap.size ≤ gb285)); have n4_ := Aside0.mk ((by rw [hg]; exact (below_size (by repeat (first | (with_reducible first | exact HB.out | apply below_alloc | apply pw_below_drewN | apply below_drew1 | refine below_set ?_ GE284.out) | exact HB.out))) : w.heap.size ≤ gb285)); have n5_ := Aside0.mk ((by rw [hg]; exact Nat.ne_of_lt (blk_lt (g := gb284) (o := .cells #[.bool a0_0, .int .i64 a0_1, .bool a0_2, .int .i64 a0_3, .slice A0_4 l0_4.length c0_4] 24 (0, 0)) (by (with_reducible repeat (first | refine blk_drewN ?_ _ | refine blk_drew ?_ | refine blk_alloc ?_ _)); exact BK284.out)) : gb284 ≠ gb285)); have n6_ := Aside0.mk ((by rw [hg]; exact Nat.ne_of_gt (blk_lt (g := gb284) (o := .cells #[.bool a0_0, .int .i64 a0_1, .bool a0_2, .int .i64 a0_3, .slice A0_4 l0_4.length c0_4] 24 (0, 0)) (by (with_reducible repeat (first | refine blk_drewN ?_ _ | refine blk_drew ?_ | refine blk_alloc ?_ _)); exact BK284.out)) : gb285 ≠ gb284)); clear BK284; clear HB; have BK284 := n0_; have HB := n1_; have BK285 := n2_; have GW285 := n3_; have GE285 := n4_; have NB284_285 := n5_; have NB285_284 := n6_; clear n0_ n1_ n2_ n3_ n4_ n5_ n6_; clear hb hbox hg; have hnb25 := NB284_285.out; have hnc25 := NB285_284.out; have hcz26_0 : w24.cell? ⟨gb284, 0, none⟩ = some (.bool a0_0) := (blk_cell BK284.out 0).trans rfl; have hcz26_1 : w24.cell? ⟨gb284, 1, none⟩ = some (.int .i64 a0_1) := (blk_cell BK284.out 1).trans rfl; have hcz26_2 : w24.cell? ⟨gb284, 2, none⟩ = some (.bool a0_2) := (blk_cell BK284.out 2).trans rfl; have hcz26_3 : w24.cell? ⟨gb284, 3, none⟩ = some (.int .i64 a0_3) := (blk_cell BK284.out 3).trans rfl; have hcz26_4 : w24.cell? ⟨gb284, 4, none⟩ = some (.slice A0_4 l0_4.length c0_4) := (blk_cell BK284.out 4).trans rfl; have hfz26_0 := blk_frozen BK284.out 0; have hfz26_1 := blk_frozen BK284.out 1; have hfz26_2 := blk_frozen BK284.out 2; have hfz26_3 := blk_frozen BK284.out 3; have hfz26_4 := blk_frozen BK284.out 4; have hcz27_0 : w24.cell? ⟨gb285, 0, none⟩ = some (.bool a1_0) := (blk_cell BK285.out 0).trans rfl; have hcz27_1 : w24.cell? ⟨gb285, 1, none⟩ = some (.int .i64 a1_1) := (blk_cell BK285.out 1).trans rfl; have hcz27_2 : w24.cell? ⟨gb285, 2, none⟩ = some (.bool a1_2) := (blk_cell BK285.out 2).trans rfl; have hcz27_3 : w24.cell? ⟨gb285, 3, none⟩ = some (.int .i64 a1_3) := (blk_cell BK285.out 3).trans rfl; have hcz27_4 : w24.cell? ⟨gb285, 4, none⟩ = some (.slice A1_4 l1_4.length c1_4) := (blk_cell BK285.out 4).trans rfl; have hfz27_0 := blk_frozen BK285.out 0; have hfz27_1 := blk_frozen BK285.out 1; have hfz27_2 := blk_frozen BK285.out 2; have hfz27_3 := blk_frozen BK285.out 3; have hfz27_4 := blk_frozen BK285.out 4))
      go_ret
      exact ⟨by first | rfl | (simp [errW_none, errW_some] <;> rfl) | (simp [*, errW_none, errW_some] <;> rfl), by repeat (first | (with_reducible first | exact HB.out | apply below_alloc | apply pw_below_drewN | apply below_drew1 | refine below_set ?_ GE284.out | refine below_set ?_ GE285.out) | exact HB.out)⟩
  · rw [if_neg c3] at H
    have c3b0 : (a0_0 == a1_0) = false := by simpa using c3
    (try (have c3b1 : decide (a0_0 = a1_0) = false := by simpa using c3))
    (try (have c3b2 : (a0_0 == a1_0) = false := by simpa using c3))
    (try (have c3b3 : ¬ (a0_0 = a1_0) := by simpa using c3))
    clear c3
    obtain rfl := Option.some.inj H
    go_enter Try.func23, Try.ntmps23
    go_wp2_with (first | ((with_reducible refine gate_store (t := 24) (p := 3) rfl ?_); refine HW.store_box5 rfl rfl 24 _ _ rfl rfl rfl BK285.out rfl (by kernel_rfl) rfl rfl rfl rfl rfl ?_; intro w1_ hw1_ hk1_; subst hw1_; have hcb285_0 := (blk_cell hk1_ 0).trans rfl; have hfb285_0 := blk_frozen hk1_ 0; have hcb285_1 := (blk_cell hk1_ 1).trans rfl; have hfb285_1 := blk_frozen hk1_ 1; have hcb285_2 := (blk_cell hk1_ 2).trans rfl; have hfb285_2 := blk_frozen hk1_ 2; have hcb285_3 := (blk_cell hk1_ 3).trans rfl; have hfb285_3 := blk_frozen hk1_ 3; have hcb285_4 := (blk_cell hk1_ 4).trans rfl; have hfb285_4 := blk_frozen hk1_ 4; clear hk1_) | ((with_reducible refine gate_store (t := 24) (p := 2) rfl ?_); refine HW.store_box5 rfl rfl 24 _ _ rfl rfl rfl BK284.out rfl (by kernel_rfl) rfl rfl rfl rfl rfl ?_; intro w1_ hw1_ hk1_; subst hw1_; have hcb284_0 := (blk_cell hk1_ 0).trans rfl; have hfb284_0 := blk_frozen hk1_ 0; have hcb284_1 := (blk_cell hk1_ 1).trans rfl; have hfb284_1 := blk_frozen hk1_ 1; have hcb284_2 := (blk_cell hk1_ 2).trans rfl; have hfb284_2 := blk_frozen hk1_ 2; have hcb284_3 := (blk_cell hk1_ 3).trans rfl; have hfb284_3 := blk_frozen hk1_ 3; have hcb284_4 := (blk_cell hk1_ 4).trans rfl; have hfb284_4 := blk_frozen hk1_ 4; clear hk1_) | ((with_reducible refine gate_dst (N := 2) rfl ?_); refine box_event ?hg (N := 2) ?hd (cs := #[.bool a0_0, .int .i64 a0_1, .bool a0_2, .int .i64 a0_3, .slice A0_4 l0_4.length c0_4]) (t := 24) ?hr ?_; (case hd => rfl); (case hg => rfl); (case hr => first | (go_simp; done) | (go_simp; rfl)); intro gb284 hg w28 hbox hb; have n0_ := Aside0.mk (below_step (by repeat (first | (with_reducible first | exact HB.out | apply below_alloc | apply pw_below_drewN | apply below_drew1) | exact HB.out)) hb); have n1_ := Aside0.mk (hbox); have n2_ := Aside0.mk ((by rw [hg]; exact (below_size (by repeat (first | (with_reducible first | exact HB.out | apply below_alloc | apply pw_below_drewN | apply below_drew1) | exact HB.out))) : w.heap.size ≤ gb284)); have n3_ := Aside0.mk ((by rw [hg]; exact (below_size (by repeat (first | (with_reducible first | exact HB.out | apply below_alloc | apply pw_below_drewN | apply below_drew1) | exact HB.out))) : w.heap.size ≤ gb284)); clear HB; have HB := n0_; have BK284 := n1_; have GW284 := n2_; have GE284 := n3_; clear n0_ n1_ n2_ n3_; clear hb hbox hg) | ((with_reducible refine gate_dst (N := 3) rfl ?_); refine box_event ?hg (N := 3) ?hd (cs := #[.bool a1_0, .int .i64 a1_1, .bool a1_2, .int .i64 a1_3, .slice A1_4 l1_4.length c1_4]) (t := 24) ?hr ?_; (case hd => rfl); (case hg => rfl); (case hr => first | (go_simp; done) | (go_simp; rfl)); intro gb285 hg w29 hbox hb; have n0_ := Aside0.mk (blk_below (g := gb284) (o := .cells #[.bool a0_0, .int .i64 a0_1, .bool a0_2, .int .i64 a0_3, .slice A0_4 l0_4.length c0_4] 24 (0, 0)) (by (with_reducible repeat (first | refine blk_drewN ?_ _ | refine blk_drew ?_ | refine blk_alloc ?_ _)); exact BK284.out) hb); have n1_ := Aside0.mk (below_step (by repeat (first | (with_reducible first | exact HB.out | apply below_alloc | apply pw_below_drewN | apply below_drew1 | refine below_set ?_ GE284.out) | exact HB.out)) hb); have n2_ := Aside0.mk (hbox); have n3_ := Aside0.mk ((by rw [hg]; exact (below_size (by repeat (first | (with_reducible first | exact HB.out | apply below_alloc | apply pw_below_drewN | apply below_drew1 | refine below_set ?_ GE284.out) | exact HB.out))) : w.heap.size ≤ gb285)); have n4_ := Aside0.mk ((by rw [hg]; exact (below_size (by repeat (first | (with_reducible first | exact HB.out | apply below_alloc | apply pw_below_drewN | apply below_drew1 | refine below_set ?_ GE284.out) | exact HB.out))) : w.heap.size ≤ gb285)); have n5_ := Aside0.mk ((by rw [hg]; exact Nat.ne_of_lt (blk_lt (g := gb284) (o := .cells #[.bool a0_0, .int .i64 a0_1, .bool a0_2, .int .i64 a0_3, .slice A0_4 l0_4.length c0_4] 24 (0, 0)) (by (with_reducible repeat (first | refine blk_drewN ?_ _ | refine blk_drew ?_ | refine blk_alloc ?_ _)); exact BK284.out)) : gb284 ≠ gb285)); have n6_ := Aside0.mk ((by rw [hg]; exact Nat.ne_of_gt (blk_lt (g := gb284) (o := .cells #[.bool a0_0, .int .i64 a0_1, .bool a0_2, .int .i64 a0_3, .slice A0_4 l0_4.length c0_4] 24 (0, 0)) (by (with_reducible repeat (first | refine blk_drewN ?_ _ | refine blk_drew ?_ | refine blk_alloc ?_ _)); exact BK284.out)) : gb285 ≠ gb284)); clear BK284; clear HB; have BK284 := n0_; have HB := n1_; have BK285 := n2_; have GW285 := n3_; have GE285 := n4_; have NB284_285 := n5_; have NB285_284 := n6_; clear n0_ n1_ n2_ n3_ n4_ n5_ n6_; clear hb hbox hg; have hnb30 := NB284_285.out; have hnc30 := NB285_284.out; have hcz31_0 : w29.cell? ⟨gb284, 0, none⟩ = some (.bool a0_0) := (blk_cell BK284.out 0).trans rfl; have hcz31_1 : w29.cell? ⟨gb284, 1, none⟩ = some (.int .i64 a0_1) := (blk_cell BK284.out 1).trans rfl; have hcz31_2 : w29.cell? ⟨gb284, 2, none⟩ = some (.bool a0_2) := (blk_cell BK284.out 2).trans rfl; have hcz31_3 : w29.cell? ⟨gb284, 3, none⟩ = some (.int .i64 a0_3) := (blk_cell BK284.out 3).trans rfl; have hcz31_4 : w29.cell? ⟨gb284, 4, none⟩ = some (.slice A0_4 l0_4.length c0_4) := (blk_cell BK284.out 4).trans rfl; have hfz31_0 := blk_frozen BK284.out 0; have hfz31_1 := blk_frozen BK284.out 1; have hfz31_2 := blk_frozen BK284.out 2; have hfz31_3 := blk_frozen BK284.out 3; have hfz31_4 := blk_frozen BK284.out 4; have hcz32_0 : w29.cell? ⟨gb285, 0, none⟩ = some (.bool a1_0) := (blk_cell BK285.out 0).trans rfl; have hcz32_1 : w29.cell? ⟨gb285, 1, none⟩ = some (.int .i64 a1_1) := (blk_cell BK285.out 1).trans rfl; have hcz32_2 : w29.cell? ⟨gb285, 2, none⟩ = some (.bool a1_2) := (blk_cell BK285.out 2).trans rfl; have hcz32_3 : w29.cell? ⟨gb285, 3, none⟩ = some (.int .i64 a1_3) := (blk_cell BK285.out 3).trans rfl; have hcz32_4 : w29.cell? ⟨gb285, 4, none⟩ = some (.slice A1_4 l1_4.length c1_4) := (blk_cell BK285.out 4).trans rfl; have hfz32_0 := blk_frozen BK285.out 0; have hfz32_1 := blk_frozen BK285.out 1; have hfz32_2 := blk_frozen BK285.out 2; have hfz32_3 := blk_frozen BK285.out 3; have hfz32_4 := blk_frozen BK285.out 4))
    go_ret
    exact ⟨by first | rfl | (simp [errW_none, errW_some] <;> rfl) | (simp [*, errW_none, errW_some] <;> rfl), by repeat (first | (with_reducible first | exact HB.out | apply below_alloc | apply pw_below_drewN | apply below_drew1 | refine below_set ?_ GE284.out | refine below_set ?_ GE285.out) | exact HB.out)⟩

/-! ### phaetonlaw04_One: function 25 -/
def phaetonlaw04_One.f  : Option (Bool × Int × Bool × Int × List Int) := some (false, 1, false, 1, (([128] : List Int)))
set_option maxHeartbeats 8000000 in
set_option maxRecDepth 100000 in
theorem phaetonlaw04_One.calls  (r1 : Bool) (r2 : Int) (r3 : Bool) (r4 : Int) (r5 : List Int) (w : World) (h : phaetonlaw04_One.f  = some (r1, r2, r3, r4, r5)) :
    Calls Try.prog 25 #[] w fun e w' => ∃ v4_ : Value, e = .returned (.agg #[.bool r1, .int .i64 r2, .bool r3, .int .i64 r4, v4_]) ∧ Kd.R (Kd.int .u8) 5 w' w.heap.size (fun _ => True) v4_ r5 ∧ Below w.heap.size w w' := by
  have hu24 := Try.underlying24
  have HB := Aside0.mk (Below.refl w.heap.size w)
  have H : (some (false, 1, false, 1, (([128] : List Int)))) = some (r1, r2, r3, r4, r5) := h
  clear h
  obtain ⟨y288, hy288⟩ : ∃ y_ : List Int, y_ = (([128] : List Int)) := ⟨_, rfl⟩
  replace H : (some (false, 1, false, 1, y288)) = some (r1, r2, r3, r4, r5) := by first | (rw [hy288]; with_reducible exact H) | (have H2_ := (Option.bind_some _ _).symm.trans H; rw [hy288]; with_reducible exact H2_) | (have H2_ := (Option.bind_some _ _).symm.trans H; with_reducible exact H2_) | with_reducible exact H | (rw [hy288]; exact H) | exact H
  have Ny288 := Aside0.mk hy288
  clear hy288
  simp only [Option.some.injEq, Prod.mk.injEq] at H
  obtain ⟨rfl, rfl, rfl, rfl, rfl⟩ := H
  go_enter Try.func25, Try.ntmps25
  (try simp only [List.append])
  go_wp2_with (first | ((with_reducible refine gate_store (t := 24) (p := 0) rfl ?_); refine HW.store_box5 rfl rfl 24 _ _ rfl rfl rfl BK287.out rfl (by kernel_rfl) rfl rfl rfl rfl rfl ?_; intro w1_ hw1_ hk1_; subst hw1_; have hcb287_0 := (blk_cell hk1_ 0).trans rfl; have hfb287_0 := blk_frozen hk1_ 0; have hcb287_1 := (blk_cell hk1_ 1).trans rfl; have hfb287_1 := blk_frozen hk1_ 1; have hcb287_2 := (blk_cell hk1_ 2).trans rfl; have hfb287_2 := blk_frozen hk1_ 2; have hcb287_3 := (blk_cell hk1_ 3).trans rfl; have hfb287_3 := blk_frozen hk1_ 3; have hcb287_4 := (blk_cell hk1_ 4).trans rfl; have hfb287_4 := blk_frozen hk1_ 4; clear hk1_) | ((with_reducible refine gate_dst (N := 0) rfl ?_); refine box_event ?hg (N := 0) ?hd (cs := #[.bool false, .int .i64 0, .bool false, .int .i64 0, .slice none 0 0]) (t := 24) ?hr ?_; (case hd => rfl); (case hg => rfl); (case hr => first | (go_simp; done) | (go_simp; rfl)); intro gb287 hg w1 hbox hb; have n0_ := Aside0.mk (below_step (by repeat (first | (with_reducible first | exact HB.out | apply below_alloc | apply pw_below_drewN | apply below_drew1) | exact HB.out)) hb); have n1_ := Aside0.mk (hbox); have n2_ := Aside0.mk ((by rw [hg]; exact (below_size (by repeat (first | (with_reducible first | exact HB.out | apply below_alloc | apply pw_below_drewN | apply below_drew1) | exact HB.out))) : w.heap.size ≤ gb287)); have n3_ := Aside0.mk ((by rw [hg]; exact (below_size (by repeat (first | (with_reducible first | exact HB.out | apply below_alloc | apply pw_below_drewN | apply below_drew1) | exact HB.out))) : w.heap.size ≤ gb287)); clear HB; have HB := n0_; have BK287 := n1_; have GW287 := n2_; have GE287 := n3_; clear n0_ n1_ n2_ n3_; clear hb hbox hg) | ((with_reducible refine gate_dst (N := 1) rfl ?_); refine Kd.R_lit (Kd.int .u8) _ 5 ?hg (N := 1) ?hd (xs := ([128] : List Int)) (inner := [.int .u8 128]) (ok := fun _ => True) (okp := fun _ => True) ?hr ?hp (fun _ hk => hk) trivial (Below.refl _ _) (Nat.le_refl _) (by simp) ?_; (case hd => rfl); (case hg => rfl); (case hr => first | (go_simp; done) | (go_simp; rfl)); (case hp => exact (Reps.one (show Kd.M (Kd.int .u8) _ _ _ 128 [.int .u8 128] from rfl) (Reps.none _ _))); intro v289 w2 ho3 hb hg_ hnew_; clear hg_ hnew_; (first | rw [← Ny288.out] at ho3 | (simp only [Int.reduceToNat] at ho3; rw [← Ny288.out] at ho3)); have n0_ := Aside0.mk (Kd.R_lower ho3 (below_size (by repeat (first | (with_reducible first | exact HB.out | apply below_alloc | apply pw_below_drewN | apply below_drew1 | refine below_set ?_ GE287.out) | exact HB.out)))); have n1_ := Aside0.mk (blk_below (g := gb287) (o := .cells #[.bool false, .int .i64 0, .bool false, .int .i64 0, .slice none 0 0] 24 (0, 0)) (by (with_reducible repeat (first | refine blk_drewN ?_ _ | refine blk_drew ?_ | refine blk_alloc ?_ _)); exact BK287.out) hb); have n2_ := Aside0.mk (below_step (by repeat (first | (with_reducible first | exact HB.out | apply below_alloc | apply pw_below_drewN | apply below_drew1 | refine below_set ?_ GE287.out) | exact HB.out)) hb); clear BK287; clear HB; have HO290 := n0_; have BK287 := n1_; have HB := n2_; clear n0_ n1_ n2_; clear hb ho3; obtain ⟨Ao4, co4, eo4⟩ := Kd.R_slice HO290.out; subst eo4; have hcz5_0 : w2.cell? ⟨gb287, 0, none⟩ = some (.bool false) := (blk_cell BK287.out 0).trans rfl; have hcz5_1 : w2.cell? ⟨gb287, 1, none⟩ = some (.int .i64 0) := (blk_cell BK287.out 1).trans rfl; have hcz5_2 : w2.cell? ⟨gb287, 2, none⟩ = some (.bool false) := (blk_cell BK287.out 2).trans rfl; have hcz5_3 : w2.cell? ⟨gb287, 3, none⟩ = some (.int .i64 0) := (blk_cell BK287.out 3).trans rfl; have hcz5_4 : w2.cell? ⟨gb287, 4, none⟩ = some (.slice none 0 0) := (blk_cell BK287.out 4).trans rfl; have hfz5_0 := blk_frozen BK287.out 0; have hfz5_1 := blk_frozen BK287.out 1; have hfz5_2 := blk_frozen BK287.out 2; have hfz5_3 := blk_frozen BK287.out 3; have hfz5_4 := blk_frozen BK287.out 4))
  refine bodyPost_ret (results_cell_row rfl _ _ gb287 24 #[.bool false, .int .i64 1, .bool false, .int .i64 1, .slice Ao4 y288.length co4] (0, 0) _ rfl (by (with_reducible repeat (first | refine blk_drewN ?_ _ | refine blk_drew ?_ | refine blk_alloc ?_ _)); refine HW.blk_put5 (cs := #[.bool false, .int .i64 0, .bool false, .int .i64 0, .slice none 0 0]) ?_ rfl; (with_reducible repeat (first | refine blk_drewN ?_ _ | refine blk_drew ?_ | refine blk_alloc ?_ _)); exact BK287.out) Try.underlying24 rfl (by kernel_rfl)) rfl ?_
  exact ⟨_, by first | rfl | (simp [errW_none, errW_some] <;> rfl) | (simp [*, errW_none, errW_some] <;> rfl), by (with_reducible repeat (first | apply Kd.R_alloc | apply Kd.R_drewN | apply Kd.R_drew)); exact Kd.R_mono (Kd.R_far (p := ⟨gb287, 4, none⟩) (Kd.R_far (p := ⟨gb287, 3, none⟩) (Kd.R_far (p := ⟨gb287, 2, none⟩) (Kd.R_far (p := ⟨gb287, 1, none⟩) (Kd.R_far (p := ⟨gb287, 0, none⟩) (Kd.R_types HO290.out BK287.out (by decide)) (fun _ hk => hk.2) (.bool false)) (fun _ hk => hk.2) (.int .i64 1)) (fun _ hk => hk.2) (.bool false)) (fun _ hk => hk.2) (.int .i64 1)) (fun _ hk => hk.2) (.slice Ao4 y288.length co4)) (fun _ hk => trivial), by repeat (first | (with_reducible first | exact HB.out | apply below_alloc | apply pw_below_drewN | apply below_drew1 | refine below_set ?_ GE287.out) | exact HB.out)⟩

/-! ### phaetonref05_Heard: function 26 -/
def phaetonref05_Heard.f (k : Nat) (a0_0 : Bool) (a0_1 : Int) (a0_2 : Bool) (a0_3 : Int) (l0_4 : List Int) : Option (List Int) := (phaetonref05_Bits.f k a0_0 a0_1 a0_2 a0_3 l0_4).bind fun t292 => (if 0 ≤ (wrap64 ((t292.length : Int) - 9)) then (if (wrap64 ((t292.length : Int) - 9)) < (t292.length : Int) then (some (t292.set ((wrap64 ((t292.length : Int) - 9)) : Int).toNat 0)) else (none)) else (none))
theorem phaetonref05_Heard.mono : ∀ a0 a1 a2 a3 a4 k, LeO (phaetonref05_Heard.f k a0 a1 a2 a3 a4) (phaetonref05_Heard.f (k + 1) a0 a1 a2 a3 a4) := by
  intro a0 a1 a2 a3 a4 k
  unfold phaetonref05_Heard.f
  repeat' first
      | (with_reducible exact phaetonref05_Bits.mono _ _ _ _ _ _)
      | (with_reducible exact LeO.refl _)
      | (with_reducible exact LeO.none _)
      | (with_reducible refine LeO.ite ?_ ?_)
      | (with_reducible refine LeO.bind ?_ (fun _ => ?_))
      | exact phaetonref05_Bits.mono _ _ _ _ _ _
      | exact LeO.none _
      | refine LeO.ite ?_ ?_
      | refine LeO.bind ?_ (fun _ => ?_)
set_option maxHeartbeats 8000000 in
set_option maxRecDepth 100000 in
theorem phaetonref05_Heard.calls (k : Nat) (a0_0 : Bool) (a0_1 : Int) (a0_2 : Bool) (a0_3 : Int) (A0_4 : Option Addr) (c0_4 : Nat) (l0_4 : List Int) (r : List Int) (w : World) (hr0_4 : Kd.C (Kd.int .u8) w A0_4 l0_4.length l0_4) (hc0_4 : l0_4.length ≤ c0_4) (h : phaetonref05_Heard.f k a0_0 a0_1 a0_2 a0_3 l0_4 = some r) :
    Calls Try.prog 26 #[.agg #[.bool a0_0, .int .i64 a0_1, .bool a0_2, .int .i64 a0_3, .slice A0_4 l0_4.length c0_4]] w fun e w' => ∃ v0_ : Value, e = .returned (v0_) ∧ Kd.R (Kd.int .i64) 3 w' w.heap.size (fun _ => True) v0_ r ∧ Below w.heap.size w w' := by
  have hu24 := Try.underlying24
  have HR0_4 := Aside0.mk hr0_4
  have HC0_4 := Aside0.mk hc0_4
  clear hr0_4 hc0_4
  have HB := Aside0.mk (Below.refl w.heap.size w)
  have H : ((phaetonref05_Bits.f k a0_0 a0_1 a0_2 a0_3 l0_4).bind fun t292 => (if 0 ≤ (wrap64 ((t292.length : Int) - 9)) then (if (wrap64 ((t292.length : Int) - 9)) < (t292.length : Int) then (some (t292.set ((wrap64 ((t292.length : Int) - 9)) : Int).toNat 0)) else (none)) else (none))) = some r := h
  clear h
  replace H := Option.bind_eq_some_iff.mp H
  obtain ⟨t292, A20, H⟩ := H
  replace H : (if 0 ≤ (wrap64 ((t292.length : Int) - 9)) then (if (wrap64 ((t292.length : Int) - 9)) < (t292.length : Int) then (some (t292.set ((wrap64 ((t292.length : Int) - 9)) : Int).toNat 0)) else (none)) else (none)) = some r := H
  have A2 := Aside0.mk A20
  clear A20
  obtain ⟨ji3, hji3⟩ : ∃ j_ : Int, (wrap64 ((t292.length : Int) - 9)) = j_ := ⟨_, rfl⟩
  replace H : (if 0 ≤ (ji3) then (if (ji3) < (t292.length : Int) then (some (t292.set ((ji3) : Int).toNat 0)) else (none)) else (none)) = some r := by first | (rw [hji3] at H; exact H) | (simp only [hji3] at H ⊢; exact H)
  (try rw [hji3] at A2)
  have hji3w : (IntKind.i64.wrap ((t292.length : Int) - 9)) = ji3 := (i64_w _).trans hji3
  by_cases c4 : 0 ≤ (ji3)
  · rw [if_pos c4] at H
    have c4b0 : decide (0 ≤ (ji3)) = true := decide_eq_true c4
    clear c4
    by_cases c5 : (ji3) < (t292.length : Int)
    · rw [if_pos c5] at H
      have c5b0 : decide ((ji3) < (t292.length : Int)) = true := decide_eq_true c5
      clear c5
      obtain ⟨y295, hy295⟩ : ∃ y_ : List Int, y_ = (t292.set ((ji3) : Int).toNat 0) := ⟨_, rfl⟩
      replace H : (some y295) = some r := by first | (rw [hy295]; with_reducible exact H) | (have H2_ := (Option.bind_some _ _).symm.trans H; rw [hy295]; with_reducible exact H2_) | (have H2_ := (Option.bind_some _ _).symm.trans H; with_reducible exact H2_) | with_reducible exact H | (rw [hy295]; exact H) | exact H
      have Ny295 := Aside0.mk hy295
      clear hy295
      obtain rfl := Option.some.inj H
      go_enter Try.func26, Try.ntmps26
      go_wp2_with (first | ((with_reducible refine gate_store (t := 24) (p := 1) rfl ?_); refine HW.store_box5 rfl rfl 24 _ _ rfl rfl rfl BK291.out rfl (by kernel_rfl) rfl rfl rfl rfl rfl ?_; intro w1_ hw1_ hk1_; subst hw1_; have hcb291_0 := (blk_cell hk1_ 0).trans rfl; have hfb291_0 := blk_frozen hk1_ 0; have hcb291_1 := (blk_cell hk1_ 1).trans rfl; have hfb291_1 := blk_frozen hk1_ 1; have hcb291_2 := (blk_cell hk1_ 2).trans rfl; have hfb291_2 := blk_frozen hk1_ 2; have hcb291_3 := (blk_cell hk1_ 3).trans rfl; have hfb291_3 := blk_frozen hk1_ 3; have hcb291_4 := (blk_cell hk1_ 4).trans rfl; have hfb291_4 := blk_frozen hk1_ 4; clear hk1_) | ((with_reducible refine gate_dst (N := 1) rfl ?_); refine box_event ?hg (N := 1) ?hd (cs := #[.bool a0_0, .int .i64 a0_1, .bool a0_2, .int .i64 a0_3, .slice A0_4 l0_4.length c0_4]) (t := 24) ?hr ?_; (case hd => rfl); (case hg => rfl); (case hr => first | (go_simp; done) | (go_simp; rfl)); intro gb291 hg w7 hbox hb; have n0_ := Aside0.mk (below_step (by repeat (first | (with_reducible first | exact HB.out | apply below_alloc | apply pw_below_drewN | apply below_drew1) | exact HB.out)) hb); have n1_ := Aside0.mk (hbox); have n2_ := Aside0.mk ((by rw [hg]; exact (below_size (by repeat (first | (with_reducible first | exact HB.out | apply below_alloc | apply pw_below_drewN | apply below_drew1) | exact HB.out))) : w.heap.size ≤ gb291)); have n3_ := Aside0.mk ((by rw [hg]; exact (below_size (by repeat (first | (with_reducible first | exact HB.out | apply below_alloc | apply pw_below_drewN | apply below_drew1) | exact HB.out))) : w.heap.size ≤ gb291)); clear HB; have HB := n0_; have BK291 := n1_; have GW291 := n2_; have GE291 := n3_; clear n0_ n1_ n2_ n3_; clear hb hbox hg; have hcz8_0 : w7.cell? ⟨gb291, 0, none⟩ = some (.bool a0_0) := (blk_cell BK291.out 0).trans rfl; have hcz8_1 : w7.cell? ⟨gb291, 1, none⟩ = some (.int .i64 a0_1) := (blk_cell BK291.out 1).trans rfl; have hcz8_2 : w7.cell? ⟨gb291, 2, none⟩ = some (.bool a0_2) := (blk_cell BK291.out 2).trans rfl; have hcz8_3 : w7.cell? ⟨gb291, 3, none⟩ = some (.int .i64 a0_3) := (blk_cell BK291.out 3).trans rfl; have hcz8_4 : w7.cell? ⟨gb291, 4, none⟩ = some (.slice A0_4 l0_4.length c0_4) := (blk_cell BK291.out 4).trans rfl; have hfz8_0 := blk_frozen BK291.out 0; have hfz8_1 := blk_frozen BK291.out 1; have hfz8_2 := blk_frozen BK291.out 2; have hfz8_3 := blk_frozen BK291.out 3; have hfz8_4 := blk_frozen BK291.out 4) | ((with_reducible refine gate_callee (f := 15) rfl ?_); refine goesL_ (some 5) rfl rfl Try.func15 (by kernel_rfl) rfl #[.agg #[.bool a0_0, .int .i64 a0_1, .bool a0_2, .int .i64 a0_3, .slice A0_4 l0_4.length c0_4]] rfl (by (try simp only [List.map_toArray, List.map_cons, List.map_nil]); first | done | rfl | (simp only [List.length_drop, List.length_take]; rfl)) ?_; (with_reducible refine (phaetonref05_Bits.calls k a0_0 a0_1 a0_2 a0_3 _ _ l0_4 t292 _ ?side1 ?side2 A2.out).mono ?_); (case side1 => repeat (first | exact (Kd.C_below HR0_4.out HB.out) | (with_reducible refine Kd.C_alloc ?_ _) | (with_reducible refine Kd.C_drewN ?_ _) | (with_reducible refine Kd.C_drew ?_))); (case side2 => exact HC0_4.out); rintro e w9 ⟨v293, rfl, ho0, hb⟩; refine ⟨_, rfl, ?_⟩; have n0_ := Aside0.mk (Kd.R_lower ho0 (below_size (by repeat (first | (with_reducible first | exact HB.out | apply below_alloc | apply pw_below_drewN | apply below_drew1 | refine below_set ?_ GE291.out) | exact HB.out)))); have n1_ := Aside0.mk (blk_below (g := gb291) (o := .cells #[.bool a0_0, .int .i64 a0_1, .bool a0_2, .int .i64 a0_3, .slice A0_4 l0_4.length c0_4] 24 (0, 0)) (by (with_reducible repeat (first | refine blk_drewN ?_ _ | refine blk_drew ?_ | refine blk_alloc ?_ _)); exact BK291.out) hb); have n2_ := Aside0.mk (below_step (by repeat (first | (with_reducible first | exact HB.out | apply below_alloc | apply pw_below_drewN | apply below_drew1 | refine below_set ?_ GE291.out) | exact HB.out)) hb); clear BK291; clear HB; have HO294 := n0_; have BK291 := n1_; have HB := n2_; clear n0_ n1_ n2_; (try clear hb); (try clear hb2); (try clear hk); (try clear hi); (try clear ho0); obtain ⟨Ao10, co10, eo10⟩ := Kd.R_slice HO294.out; subst eo10; have p6 : 0 ≤ ((ji3) : Int) := of_decide_eq_true (by first | (with_reducible assumption) | assumption); have q6 : ((ji3) : Int) < ((t292.length : Int) : Int) := of_decide_eq_true (by first | (with_reducible assumption) | assumption); obtain ⟨go6, co6, eo6, gb6, gl6, cl6, HG6⟩ := Kd.R_form HO294.out (by omega); (first | cases eo6 | (injection eo6 with ea_ en_ ec_; (first | subst ea_ | (injection ea_ with ea_; subst ea_)); subst ec_; clear en_)); have GB6 := Aside0.mk gb6; have GG6 := Aside0.mk HG6; clear gb6 gl6 HG6; obtain ⟨hx6_0, hf6_0⟩ := Kd.R_celln 0 HO294.out ((ji3) : Int) p6 q6; replace p6 := eq_true p6; replace q6 := eq_true q6; obtain ⟨hy11_, hz11_⟩ := Kd.R_celln 0 HO294.out ((ji3) : Int) (of_decide_eq_true (by first | (with_reducible assumption) | assumption)) (of_decide_eq_true (by first | (with_reducible assumption) | assumption)); have HP11 := Kd.R_putg HO294.out ((ji3) : Int) 0) | ((with_reducible refine gate_store (t := 3) (p := 10) rfl ?_); refine store_event (t := 3) (p := 10) (v := ?vo_w12) (w1 := (w9.setCell ⟨go6, ((ji3) : Int).toNat, none⟩ (.int .i64 0))) ?hg ?ho ?hn ?hr ?_; (case ho => rfl); (case hg => rfl); (case hn => rfl); (case hr => first | (go_simp; done) | (go_simp; rfl)); intro w12 hw; have hg : w9.grownBy w12 (some go6) := (by rw [hw]; exact HP11.2); have hp_ : Kd.R (Kd.int .i64) 3 w12 w.heap.size (fun _ => True) (.slice (some ⟨go6, 0, none⟩) t292.length co10) y295 := (by rw [hw, Ny295.out]; exact HP11.1); clear HP11; have n0_ := Aside0.mk (blk_grown (g := gb291) (o := .cells #[.bool a0_0, .int .i64 a0_1, .bool a0_2, .int .i64 a0_3, .slice A0_4 l0_4.length c0_4] 24 (0, 0)) (by (with_reducible repeat (first | refine blk_drewN ?_ _ | refine blk_drew ?_ | refine blk_alloc ?_ _)); exact BK291.out) hg (Kd.R_ne HO294.out BK291.out (by decide))); have n1_ := Aside0.mk (hp_); have n2_ := Aside0.mk ((by rw [hw]; exact below_set (HB.out) GB6.out : Below w.heap.size w w12)); clear BK291; clear HO294; clear HB; have BK291 := n0_; have HO294 := n1_; have HB := n2_; clear n0_ n1_ n2_; clear hg hw hp_))
      go_ret
      exact ⟨_, by first | rfl | (simp [errW_none, errW_some] <;> rfl) | (simp only [← hji3]; first | rfl | (simp [errW_none, errW_some] <;> rfl)) | (simp [*, errW_none, errW_some] <;> rfl), by (with_reducible repeat (first | apply Kd.R_alloc | apply Kd.R_drewN | apply Kd.R_drew)); exact HO294.out, by repeat (first | (with_reducible first | exact HB.out | apply below_alloc | apply pw_below_drewN | apply below_drew1 | refine below_set ?_ GE291.out) | exact HB.out)⟩
    · rw [if_neg c5] at H
      exact absurd H (by simp)
  · rw [if_neg c4] at H
    exact absurd H (by simp)

/-! ### phaetonlaw05_head: function 10 -/
def phaetonlaw05_head.f (k : Nat) : Option Bool := some true
theorem phaetonlaw05_head.mono : ∀ k, LeO (phaetonlaw05_head.f k) (phaetonlaw05_head.f (k + 1)) := fun _ => LeO.refl _
set_option synthInstance.maxSize 4000 in
set_option synthInstance.maxHeartbeats 1000000 in
theorem hd5_facts : ∃ (d L L2 Z : List Int) (K : Nat), d = [128] ∧ wire_Bits.f false 1 false 1 d = some L ∧ phaetonref05_Bits.f K false 1 false 1 d = some L2 ∧ phaetonref01_Same.f K L L2 = some true ∧ phaetonref05_Heard.f K false 1 false 1 d = some Z ∧ wire_Read.f L = some (false, 1, false, 1, d, 5, wrap64 ((L.length : Int) - 9)) ∧ wire_Read.f Z = some (false, 1, false, 1, d, 0, -1) ∧ wire_Read.f (L.take 9) = some (false, 0, false, 0, [], 1, 9) ∧ phaetonref04_Same.f false 1 false 1 d false 1 false 1 d = some true ∧ wire_Length.f false 1 false 1 d = some (L.length : Int) ∧ 20 ≤ L.length ∧ L.length ≤ 100 :=
  ⟨[128], (wire_Bits.f false 1 false 1 [128]).getD [], (phaetonref05_Bits.f 300 false 1 false 1 [128]).getD [], (phaetonref05_Heard.f 300 false 1 false 1 [128]).getD [], 300, by decide +kernel, by decide +kernel, by decide +kernel, by decide +kernel, by decide +kernel, by decide +kernel, by decide +kernel, by decide +kernel, by decide +kernel, by decide +kernel, by decide +kernel, by decide +kernel⟩
set_option synthInstance.maxSize 4000 in
set_option synthInstance.maxHeartbeats 1000000 in
theorem hd5_wrong : wire_Read.f [0, 0, 0, 0, 0, 0, 1] = some (false, 0, false, 0, [], 2, 5) ∧ wire_Most.f false 0 = some 52 ∧ wire_Most.f true 8 = some 157 := by decide +kernel
theorem hd5_fresh {W w1 : World} {o : Obj} (hg : (W.alloc o).grownBy w1 (some W.heap.size)) : Below W.heap.size W w1 :=
  (below_alloc (Below.refl _ _) o).grown hg (by rw [World.size_alloc]; omega) (fun k he => by injection he with he; omega)
set_option maxHeartbeats 3200000 in
set_option maxRecDepth 100000 in
theorem phaetonlaw05_head.calls (k : Nat) (r : Bool) (w : World) (h : phaetonlaw05_head.f k = some r) :
    Calls Try.prog 10 #[] w fun e w' => e = .returned (.bool r) ∧ Below w.heap.size w w' := by
  obtain rfl : true = r := Option.some.inj h
  clear h
  obtain ⟨d, L, L2, Z, K, f0, f1, f2, f3, f4, f5, f6, f7, f8, f9, f10, f11⟩ := hd5_facts
  have hu := Try.underlying24
  have F0 := Aside0.mk f0
  have F1 := Aside0.mk f1
  have F2 := Aside0.mk f2
  have F3 := Aside0.mk f3
  have F4 := Aside0.mk f4
  have F5 := Aside0.mk f5
  have F6 := Aside0.mk f6
  have F7 := Aside0.mk f7
  have F8 := Aside0.mk f8
  have F9 := Aside0.mk f9
  have F10 := Aside0.mk f10
  have F11 := Aside0.mk f11
  clear f0 f1 f2 f3 f4 f5 f6 f7 f8 f9 f10 f11
  go_enter Try.func10, Try.ntmps10
  go_wp2_with fail
  refine (phaetonlaw04_One.calls false 1 false 1 d w (by rw [F0.out]; rfl)).mono ?_
  rintro e w1 ⟨v1, rfl, hv1, hb1⟩
  obtain ⟨A1, c1, rfl⟩ := Kd.R_slice hv1
  have HV1 := Aside0.mk hv1
  have HB := Aside0.mk hb1
  clear hv1 hb1
  go_wp2_with (first | ((with_reducible refine gate_store (t := 24) (p := 1) rfl ?_); refine HW.store_box' rfl rfl 24 _ _ rfl rfl rfl (blk_new _ _) rfl (by kernel_rfl) (by intro q hq; simp only [List.mem_cons, List.not_mem_nil, or_false] at hq; rcases hq with rfl | rfl | rfl | rfl | rfl <;> rfl) ?_; intro y1 hk hg; have hbs := hd5_fresh hg; have nV1 := Aside0.mk (Kd.R_below HV1.out hbs); have nB := Aside0.mk (HB.out.trans (hbs.mono HB.out.size)); clear HV1; have HV1 := nV1; clear nV1; clear HB; have HB := nB; clear nB; have HY1 := Aside0.mk hk; clear hk hg hbs) | ((with_reducible refine gate_dst (N := 16) rfl ?_); refine wpList_load_row rfl 24 _ rfl _ rfl _ _ (0, 0) _ HY1.out Try.underlying24 rfl (by kernel_rfl) ?_))
  refine (wire_Bits.calls false 1 false 1 A1 c1 d L y1 (Kd.R_reads' HV1.out).2.2 (Kd.R_reads' HV1.out).2.1 F1.out).mono ?_
  rintro e w2 ⟨vL, rfl, hvL, hb⟩
  obtain ⟨AL, cL, rfl⟩ := Kd.R_slice hvL
  have HL := Aside0.mk hvL
  have nV1 := Aside0.mk (Kd.R_below HV1.out hb)
  have nY1 := Aside0.mk (blk_below HY1.out hb)
  have nB := Aside0.mk (HB.out.trans (hb.mono HB.out.size))
  clear HV1
  have HV1 := nV1
  clear nV1
  clear HY1
  have HY1 := nY1
  clear nY1
  clear HB
  have HB := nB
  clear nB
  clear hvL hb
  have f10 := F10.out
  have f11 := F11.out
  have q20 : ((L.length : Int) < 20) = False := eq_false (by omega)
  clear f10 f11
  go_wp2_with (first | ((with_reducible refine gate_dst (N := 23) rfl ?_); (try (refine gate_guard (by rfl) ?_; dsimp only)); refine wpList_load_row rfl 24 _ rfl _ rfl _ _ (0, 0) _ HY1.out Try.underlying24 rfl (by kernel_rfl) ?_) | (go_at_call 15; refine (phaetonref05_Bits.calls K false 1 false 1 A1 c1 d L2 w2 (Kd.R_reads' HV1.out).2.2 (Kd.R_reads' HV1.out).2.1 F2.out).mono ?_; rintro e w3 ⟨vZ, rfl, hvL, hb⟩; obtain ⟨AZ, cZ, rfl⟩ := Kd.R_slice hvL; have HZ := Aside0.mk hvL; have nV1 := Aside0.mk (Kd.R_below HV1.out hb); have nL := Aside0.mk (Kd.R_below HL.out hb); have nY1 := Aside0.mk (blk_below HY1.out hb); have nB := Aside0.mk (HB.out.trans (hb.mono HB.out.size)); clear HV1; have HV1 := nV1; clear nV1; clear HL; have HL := nL; clear nL; clear HY1; have HY1 := nY1; clear nY1; clear HB; have HB := nB; clear nB; clear hvL hb) | (go_at_call 13; refine (phaetonref01_Same.calls K AL cL L AZ cZ L2 true w3 (Kd.R_reads' HL.out).2.2 (Kd.R_reads' HL.out).2.1 (Kd.R_reads' HZ.out).2.2 (Kd.R_reads' HZ.out).2.1 F3.out).mono ?_; rintro e w4 ⟨rfl, hd⟩; obtain ⟨⟨nd, rfl⟩⟩ := hd; have hb : Below w3.heap.size w3 (w3.drewN nd) := pw_below_drewN (Below.refl _ _) nd; have nV1 := Aside0.mk (Kd.R_below HV1.out hb); have nL := Aside0.mk (Kd.R_below HL.out hb); have nY1 := Aside0.mk (blk_below HY1.out hb); have nB := Aside0.mk (HB.out.trans (hb.mono HB.out.size)); clear HV1; have HV1 := nV1; clear nV1; clear HL; have HL := nL; clear nL; clear HY1; have HY1 := nY1; clear nY1; clear HB; have HB := nB; clear nB; clear hb HZ))
  refine (wire_Read.calls AL cL L false 1 false 1 d 5 (wrap64 ((L.length : Int) - 9)) _ (Kd.R_reads' HL.out).2.2 (Kd.R_reads' HL.out).2.1 F5.out).mono ?_
  rintro e w5 ⟨v3, rfl, hv, hb⟩
  obtain ⟨A3, c3, rfl⟩ := Kd.R_slice hv
  have HV3 := Aside0.mk hv
  have nV1 := Aside0.mk (Kd.R_below HV1.out hb)
  have nL := Aside0.mk (Kd.R_below HL.out hb)
  have nY1 := Aside0.mk (blk_below HY1.out hb)
  have nB := Aside0.mk (HB.out.trans (hb.mono HB.out.size))
  clear HV1
  have HV1 := nV1
  clear nV1
  clear HL
  have HL := nL
  clear nL
  clear HY1
  have HY1 := nY1
  clear nY1
  clear HB
  have HB := nB
  clear nB
  clear hv hb
  go_wp2_with (first | ((with_reducible refine gate_store (t := 24) (p := 3) rfl ?_); refine HW.store_box' rfl rfl 24 _ _ rfl rfl rfl (blk_new _ _) rfl (by kernel_rfl) (by intro q hq; simp only [List.mem_cons, List.not_mem_nil, or_false] at hq; rcases hq with rfl | rfl | rfl | rfl | rfl <;> rfl) ?_; intro y3 hk hg; have hbs := hd5_fresh hg; have nV1 := Aside0.mk (Kd.R_below HV1.out hbs); have nV3 := Aside0.mk (Kd.R_below HV3.out hbs); have nL := Aside0.mk (Kd.R_below HL.out hbs); have nY1 := Aside0.mk (blk_below HY1.out hbs); have nB := Aside0.mk (HB.out.trans (hbs.mono HB.out.size)); clear HV1; have HV1 := nV1; clear nV1; clear HV3; have HV3 := nV3; clear nV3; clear HL; have HL := nL; clear nL; clear HY1; have HY1 := nY1; clear nY1; clear HB; have HB := nB; clear nB; have HY3 := Aside0.mk hk; clear hk hg hbs) | ((with_reducible refine gate_dst (N := 35) rfl ?_); refine wpList_load_row rfl 24 _ rfl _ rfl _ _ (0, 0) _ HY1.out Try.underlying24 rfl (by kernel_rfl) ?_))
  refine (phaetonref05_Heard.calls K false 1 false 1 A1 c1 d Z _ (Kd.R_reads' HV1.out).2.2 (Kd.R_reads' HV1.out).2.1 F4.out).mono ?_
  rintro e w6 ⟨vZ, rfl, hv, hb⟩
  obtain ⟨AZ, cZ, rfl⟩ := Kd.R_slice hv
  have HZ := Aside0.mk hv
  have nV1 := Aside0.mk (Kd.R_below HV1.out hb)
  have nV3 := Aside0.mk (Kd.R_below HV3.out hb)
  have nL := Aside0.mk (Kd.R_below HL.out hb)
  have nY1 := Aside0.mk (blk_below HY1.out hb)
  have nY3 := Aside0.mk (blk_below HY3.out hb)
  have nB := Aside0.mk (HB.out.trans (hb.mono HB.out.size))
  clear HV1
  have HV1 := nV1
  clear nV1
  clear HV3
  have HV3 := nV3
  clear nV3
  clear HL
  have HL := nL
  clear nL
  clear HY1
  have HY1 := nY1
  clear nY1
  clear HY3
  have HY3 := nY3
  clear nY3
  clear HB
  have HB := nB
  clear nB
  clear hv hb
  go_wp2_with fail
  refine (wire_Read.calls AZ cZ Z false 1 false 1 d 0 (-1) _ (Kd.R_reads' HZ.out).2.2 (Kd.R_reads' HZ.out).2.1 F6.out).mono ?_
  rintro e w7 ⟨v6, rfl, hv, hb⟩
  obtain ⟨A6, c6, rfl⟩ := Kd.R_slice hv
  have HV6 := Aside0.mk hv
  clear HZ
  have nV1 := Aside0.mk (Kd.R_below HV1.out hb)
  have nV3 := Aside0.mk (Kd.R_below HV3.out hb)
  have nL := Aside0.mk (Kd.R_below HL.out hb)
  have nY1 := Aside0.mk (blk_below HY1.out hb)
  have nY3 := Aside0.mk (blk_below HY3.out hb)
  have nB := Aside0.mk (HB.out.trans (hb.mono HB.out.size))
  clear HV1
  have HV1 := nV1
  clear nV1
  clear HV3
  have HV3 := nV3
  clear nV3
  clear HL
  have HL := nL
  clear nL
  clear HY1
  have HY1 := nY1
  clear nY1
  clear HY3
  have HY3 := nY3
  clear nY3
  clear HB
  have HB := nB
  clear nB
  clear hv hb
  have f10 := F10.out
  have hc9 := (Kd.R_reads' HL.out).2.1
  obtain ⟨i0, hi, hz0, hz1, hz2⟩ := info_parts info3
  have hcut := cut_to (P := Try.prog) 25 3 .i64 Try.underlying25 hi AL L.length cL 9 (by omega) (by omega) hc9
  have h9l : (L.take 9).length = 9 := by rw [List.length_take]; omega
  have hcl : (9 : Int).toNat = 9 := rfl
  rw [hcl] at hcut
  have H9 := Aside0.mk hcut
  have H9L := Aside0.mk h9l
  have H9C : Aside0 (9 ≤ cL) := ⟨by omega⟩
  have H9N : Aside0 (9 ≤ L.length) := ⟨by omega⟩
  clear f10 hc9 hi hz0 hz1 hz2 h9l hcl
  go_wp2_with (first | ((with_reducible refine gate_store (t := 24) (p := 6) rfl ?_); refine HW.store_box' rfl rfl 24 _ _ rfl rfl rfl (blk_new _ _) rfl (by kernel_rfl) (by intro q hq; simp only [List.mem_cons, List.not_mem_nil, or_false] at hq; rcases hq with rfl | rfl | rfl | rfl | rfl <;> rfl) ?_; intro y6 hk hg; have hbs := hd5_fresh hg; have nV1 := Aside0.mk (Kd.R_below HV1.out hbs); have nV3 := Aside0.mk (Kd.R_below HV3.out hbs); have nV6 := Aside0.mk (Kd.R_below HV6.out hbs); have nL := Aside0.mk (Kd.R_below HL.out hbs); have nY1 := Aside0.mk (blk_below HY1.out hbs); have nY3 := Aside0.mk (blk_below HY3.out hbs); have nB := Aside0.mk (HB.out.trans (hbs.mono HB.out.size)); clear HV1; have HV1 := nV1; clear nV1; clear HV3; have HV3 := nV3; clear nV3; clear HV6; have HV6 := nV6; clear nV6; clear HL; have HL := nL; clear nL; clear HY1; have HY1 := nY1; clear nY1; clear HY3; have HY3 := nY3; clear nY3; clear HB; have HB := nB; clear nB; have HY6 := Aside0.mk hk; clear hk hg hbs))
  have h7 : ∀ W : World, Kd.C (Kd.int .i64) W AL L.length L → Calls Try.prog 21 #[.slice AL 9 cL] W fun e w' => ∃ v4_ : Value, e = .returned (.tuple #[.agg #[.bool false, .int .i64 0, .bool false, .int .i64 0, v4_], .int .i64 1, .int .i64 9]) ∧ Kd.R (Kd.int .u8) 5 w' W.heap.size (fun _ => True) v4_ [] ∧ Below W.heap.size W w' := fun W hC => by
    have := wire_Read.calls AL cL (L.take 9) false 0 false 0 [] 1 9 W (Kd.C_take hC H9N.out) (by rw [H9L.out]; exact H9C.out) F7.out
    rw [H9L.out] at this
    exact this
  refine (h7 _ (Kd.R_reads' HL.out).2.2).mono ?_
  clear h7 hcut
  rintro e w8 ⟨v9, rfl, hv, hb⟩
  obtain ⟨A9, c9, rfl⟩ := Kd.R_slice hv
  have nV1 := Aside0.mk (Kd.R_below HV1.out hb)
  have nV3 := Aside0.mk (Kd.R_below HV3.out hb)
  have nV6 := Aside0.mk (Kd.R_below HV6.out hb)
  have nL := Aside0.mk (Kd.R_below HL.out hb)
  have nY1 := Aside0.mk (blk_below HY1.out hb)
  have nY3 := Aside0.mk (blk_below HY3.out hb)
  have nY6 := Aside0.mk (blk_below HY6.out hb)
  have nB := Aside0.mk (HB.out.trans (hb.mono HB.out.size))
  clear HV1
  have HV1 := nV1
  clear nV1
  clear HV3
  have HV3 := nV3
  clear nV3
  clear HV6
  have HV6 := nV6
  clear nV6
  clear HL
  have HL := nL
  clear nL
  clear HY1
  have HY1 := nY1
  clear nY1
  clear HY3
  have HY3 := nY3
  clear nY3
  clear HY6
  have HY6 := nY6
  clear nY6
  clear HB
  have HB := nB
  clear nB
  clear hv hb
  go_wp2_with (first | ((with_reducible refine gate_store (t := 24) (p := 9) rfl ?_); refine HW.store_box' rfl rfl 24 _ _ rfl rfl rfl (blk_new _ _) rfl (by kernel_rfl) (by intro q hq; simp only [List.mem_cons, List.not_mem_nil, or_false] at hq; rcases hq with rfl | rfl | rfl | rfl | rfl <;> rfl) ?_; intro y9 hk hg; have hbs := hd5_fresh hg; have nV1 := Aside0.mk (Kd.R_below HV1.out hbs); have nV3 := Aside0.mk (Kd.R_below HV3.out hbs); have nV6 := Aside0.mk (Kd.R_below HV6.out hbs); have nL := Aside0.mk (Kd.R_below HL.out hbs); have nY1 := Aside0.mk (blk_below HY1.out hbs); have nY3 := Aside0.mk (blk_below HY3.out hbs); have nY6 := Aside0.mk (blk_below HY6.out hbs); have nB := Aside0.mk (HB.out.trans (hbs.mono HB.out.size)); clear HV1; have HV1 := nV1; clear nV1; clear HV3; have HV3 := nV3; clear nV3; clear HV6; have HV6 := nV6; clear nV6; clear HL; have HL := nL; clear nL; clear HY1; have HY1 := nY1; clear nY1; clear HY3; have HY3 := nY3; clear nY3; clear HY6; have HY6 := nY6; clear nY6; clear HB; have HB := nB; clear nB; clear hk hg hbs) | ((with_reducible refine gate_dst (N := 49) rfl ?_); refine Kd.R_lit (Kd.int .i64) (w0 := y9) y9.heap.size 3 ?hg (N := 49) ?hd (xs := ([0, 0, 0, 0, 0, 0, 1] : List Int)) (inner := [.int .i64 0, .int .i64 0, .int .i64 0, .int .i64 0, .int .i64 0, .int .i64 0, .int .i64 1]) (ok := fun _ => True) (okp := fun _ => True) ?hr ?hp (fun _ hk => hk) trivial (Below.refl _ _) (Nat.le_refl _) (by simp) ?_; (case hd => rfl); (case hg => rfl); (case hr => first | (go_simp; done) | (go_simp; rfl)); (case hp => exact (Reps.one (show Kd.M (Kd.int .i64) _ _ _ 0 [.int .i64 0] from rfl) (Reps.one (show Kd.M (Kd.int .i64) _ _ _ 0 [.int .i64 0] from rfl) (Reps.one (show Kd.M (Kd.int .i64) _ _ _ 0 [.int .i64 0] from rfl) (Reps.one (show Kd.M (Kd.int .i64) _ _ _ 0 [.int .i64 0] from rfl) (Reps.one (show Kd.M (Kd.int .i64) _ _ _ 0 [.int .i64 0] from rfl) (Reps.one (show Kd.M (Kd.int .i64) _ _ _ 0 [.int .i64 0] from rfl) (Reps.one (show Kd.M (Kd.int .i64) _ _ _ 1 [.int .i64 1] from rfl) (Reps.none _ _))))))))); intro vq wq hoq hb hg_ hnew_; obtain ⟨xs_, hxs_⟩ : ∃ x : List Int, x = [0, 0, 0, 0, 0, 0, 1] := ⟨_, rfl⟩; rw [← hxs_] at hoq; obtain ⟨AQ, cQ, rfl⟩ := Kd.R_slice hoq; have HW9 := Aside0.mk hoq; have HX9 := Aside0.mk hxs_; have nV1 := Aside0.mk (Kd.R_below HV1.out hb); have nV3 := Aside0.mk (Kd.R_below HV3.out hb); have nV6 := Aside0.mk (Kd.R_below HV6.out hb); have nL := Aside0.mk (Kd.R_below HL.out hb); have nY1 := Aside0.mk (blk_below HY1.out hb); have nY3 := Aside0.mk (blk_below HY3.out hb); have nY6 := Aside0.mk (blk_below HY6.out hb); have nB := Aside0.mk (HB.out.trans (hb.mono HB.out.size)); clear HV1; have HV1 := nV1; clear nV1; clear HV3; have HV3 := nV3; clear nV3; clear HV6; have HV6 := nV6; clear nV6; clear HL; have HL := nL; clear nL; clear HY1; have HY1 := nY1; clear nY1; clear HY3; have HY3 := nY3; clear nY3; clear HY6; have HY6 := nY6; clear nY6; clear HB; have HB := nB; clear nB; clear hb hg_ hnew_ hoq hxs_))
  refine (wire_Read.calls AQ cQ xs_ false 0 false 0 [] 2 5 _ (Kd.R_reads' HW9.out).2.2 (Kd.R_reads' HW9.out).2.1 (by rw [HX9.out]; exact hd5_wrong.1)).mono ?_
  rintro e w9 ⟨v12, rfl, hv, hb⟩
  obtain ⟨A12, c12, rfl⟩ := Kd.R_slice hv
  clear HW9 HX9 H9 H9L H9C H9N
  have nV1 := Aside0.mk (Kd.R_below HV1.out hb)
  have nV3 := Aside0.mk (Kd.R_below HV3.out hb)
  have nV6 := Aside0.mk (Kd.R_below HV6.out hb)
  have nL := Aside0.mk (Kd.R_below HL.out hb)
  have nY1 := Aside0.mk (blk_below HY1.out hb)
  have nY3 := Aside0.mk (blk_below HY3.out hb)
  have nY6 := Aside0.mk (blk_below HY6.out hb)
  have nB := Aside0.mk (HB.out.trans (hb.mono HB.out.size))
  clear HV1
  have HV1 := nV1
  clear nV1
  clear HV3
  have HV3 := nV3
  clear nV3
  clear HV6
  have HV6 := nV6
  clear nV6
  clear HL
  have HL := nL
  clear nL
  clear HY1
  have HY1 := nY1
  clear nY1
  clear HY3
  have HY3 := nY3
  clear nY3
  clear HY6
  have HY6 := nY6
  clear nY6
  clear HB
  have HB := nB
  clear nB
  clear hv hb
  go_wp2_with (first | ((with_reducible refine gate_store (t := 24) (p := 12) rfl ?_); refine HW.store_box' rfl rfl 24 _ _ rfl rfl rfl (blk_new _ _) rfl (by kernel_rfl) (by intro q hq; simp only [List.mem_cons, List.not_mem_nil, or_false] at hq; rcases hq with rfl | rfl | rfl | rfl | rfl <;> rfl) ?_; intro y12 hk hg; have hbs := hd5_fresh hg; have nV1 := Aside0.mk (Kd.R_below HV1.out hbs); have nV3 := Aside0.mk (Kd.R_below HV3.out hbs); have nV6 := Aside0.mk (Kd.R_below HV6.out hbs); have nL := Aside0.mk (Kd.R_below HL.out hbs); have nY1 := Aside0.mk (blk_below HY1.out hbs); have nY3 := Aside0.mk (blk_below HY3.out hbs); have nY6 := Aside0.mk (blk_below HY6.out hbs); have nB := Aside0.mk (HB.out.trans (hbs.mono HB.out.size)); clear HV1; have HV1 := nV1; clear nV1; clear HV3; have HV3 := nV3; clear nV3; clear HV6; have HV6 := nV6; clear nV6; clear HL; have HL := nL; clear nL; clear HY1; have HY1 := nY1; clear nY1; clear HY3; have HY3 := nY3; clear nY3; clear HY6; have HY6 := nY6; clear nY6; clear HB; have HB := nB; clear nB; clear hk hg hbs) | ((with_reducible refine gate_dst (N := 54) rfl ?_); refine wpList_load_row rfl 24 _ rfl _ rfl _ _ (0, 0) _ HY3.out Try.underlying24 rfl (by kernel_rfl) ?_) | ((with_reducible refine gate_dst (N := 55) rfl ?_); refine wpList_load_row rfl 24 _ rfl _ rfl _ _ (0, 0) _ HY1.out Try.underlying24 rfl (by kernel_rfl) ?_))
  refine (phaetonref04_Same.calls false 1 false 1 A3 c3 d false 1 false 1 A1 c1 d true _ (Kd.R_reads' HV3.out).2.2 (Kd.R_reads' HV3.out).2.1 (Kd.R_reads' HV1.out).2.2 (Kd.R_reads' HV1.out).2.1 F8.out).mono ?_
  rintro e w10 ⟨rfl, hb⟩
  have nV1 := Aside0.mk (Kd.R_below HV1.out hb)
  have nV6 := Aside0.mk (Kd.R_below HV6.out hb)
  have nL := Aside0.mk (Kd.R_below HL.out hb)
  have nY1 := Aside0.mk (blk_below HY1.out hb)
  have nY6 := Aside0.mk (blk_below HY6.out hb)
  have nB := Aside0.mk (HB.out.trans (hb.mono HB.out.size))
  clear HV1
  have HV1 := nV1
  clear nV1
  clear HV6
  have HV6 := nV6
  clear nV6
  clear HL
  have HL := nL
  clear nL
  clear HY1
  have HY1 := nY1
  clear nY1
  clear HY6
  have HY6 := nY6
  clear nY6
  clear HB
  have HB := nB
  clear nB
  clear hb HV3 HY3
  go_wp2_with (first | ((with_reducible refine gate_dst (N := 69) rfl ?_); (try (refine gate_guard (by rfl) ?_; dsimp only)); refine wpList_load_row rfl 24 _ rfl _ rfl _ _ (0, 0) _ HY6.out Try.underlying24 rfl (by kernel_rfl) ?_) | ((with_reducible refine gate_dst (N := 70) rfl ?_); (try (refine gate_guard (by rfl) ?_; dsimp only)); refine wpList_load_row rfl 24 _ rfl _ rfl _ _ (0, 0) _ HY1.out Try.underlying24 rfl (by kernel_rfl) ?_))
  refine (phaetonref04_Same.calls false 1 false 1 A6 c6 d false 1 false 1 A1 c1 d true w10 (Kd.R_reads' HV6.out).2.2 (Kd.R_reads' HV6.out).2.1 (Kd.R_reads' HV1.out).2.2 (Kd.R_reads' HV1.out).2.1 F8.out).mono ?_
  rintro e w11 ⟨rfl, hb⟩
  have nV1 := Aside0.mk (Kd.R_below HV1.out hb)
  have nY1 := Aside0.mk (blk_below HY1.out hb)
  have nB := Aside0.mk (HB.out.trans (hb.mono HB.out.size))
  clear HV1
  have HV1 := nV1
  clear nV1
  clear HY1
  have HY1 := nY1
  clear nY1
  clear HB
  have HB := nB
  clear nB
  clear hb HV6 HY6 HL
  go_wp2_with (first | ((with_reducible refine gate_dst (N := 98) rfl ?_); (try (refine gate_guard (by rfl) ?_; dsimp only)); refine wpList_load_row rfl 24 _ rfl _ rfl _ _ (0, 0) _ HY1.out Try.underlying24 rfl (by kernel_rfl) ?_))
  refine (wire_Length.calls false 1 false 1 A1 c1 d _ w11 (Kd.R_reads' HV1.out).2.2 (Kd.R_reads' HV1.out).2.1 F9.out).mono ?_
  rintro e w12 ⟨rfl, hb⟩
  have nB := Aside0.mk (HB.out.trans (hb.mono HB.out.size))
  clear HB
  have HB := nB
  clear nB
  clear hb HV1 HY1
  go_wp2_with fail
  refine (wire_Most.calls false 0 52 w12 hd5_wrong.2.1).mono ?_
  rintro e wm ⟨rfl, hd⟩
  obtain ⟨⟨n52, rfl⟩⟩ := hd
  go_wp2_with fail
  refine (wire_Most.calls true 8 157 (w12.drewN n52) hd5_wrong.2.2).mono ?_
  rintro e wm ⟨rfl, hd⟩
  obtain ⟨⟨n157, rfl⟩⟩ := hd
  go_wp2_with fail
  go_ret
  exact ⟨rfl, pw_below_drewN HB.out _⟩

/-! ### phaetonlaw04_Great: function 11 -/
def phaetonlaw04_Great.f (a0_0 : Bool) (a0_1 : Int) (a0_2 : Bool) (a0_3 : Int) (l0_4 : List Int) : Option (Bool) := some (decide ((l0_4.length : Int) > 100))
set_option maxHeartbeats 8000000 in
set_option maxRecDepth 100000 in
theorem phaetonlaw04_Great.calls (a0_0 : Bool) (a0_1 : Int) (a0_2 : Bool) (a0_3 : Int) (A0_4 : Option Addr) (c0_4 : Nat) (l0_4 : List Int) (r : Bool) (w : World) (hr0_4 : Kd.C (Kd.int .u8) w A0_4 l0_4.length l0_4) (hc0_4 : l0_4.length ≤ c0_4) (h : phaetonlaw04_Great.f a0_0 a0_1 a0_2 a0_3 l0_4 = some r) :
    Calls Try.prog 11 #[.agg #[.bool a0_0, .int .i64 a0_1, .bool a0_2, .int .i64 a0_3, .slice A0_4 l0_4.length c0_4]] w fun e w' => e = .returned (.bool r) ∧ Below w.heap.size w w' := by
  have hu24 := Try.underlying24
  have HR0_4 := Aside0.mk hr0_4
  have HC0_4 := Aside0.mk hc0_4
  clear hr0_4 hc0_4
  have HB := Aside0.mk (Below.refl w.heap.size w)
  have H : (some (decide ((l0_4.length : Int) > 100))) = some r := h
  clear h
  obtain rfl := Option.some.inj H
  go_enter Try.func11, Try.ntmps11
  (try simp only [List.append])
  go_wp2_with (first | ((with_reducible refine gate_store (t := 24) (p := 1) rfl ?_); refine HW.store_box5 rfl rfl 24 _ _ rfl rfl rfl BK296.out rfl (by kernel_rfl) rfl rfl rfl rfl rfl ?_; intro w1_ hw1_ hk1_; subst hw1_; have hcb296_0 := (blk_cell hk1_ 0).trans rfl; have hfb296_0 := blk_frozen hk1_ 0; have hcb296_1 := (blk_cell hk1_ 1).trans rfl; have hfb296_1 := blk_frozen hk1_ 1; have hcb296_2 := (blk_cell hk1_ 2).trans rfl; have hfb296_2 := blk_frozen hk1_ 2; have hcb296_3 := (blk_cell hk1_ 3).trans rfl; have hfb296_3 := blk_frozen hk1_ 3; have hcb296_4 := (blk_cell hk1_ 4).trans rfl; have hfb296_4 := blk_frozen hk1_ 4; clear hk1_) | ((with_reducible refine gate_dst (N := 1) rfl ?_); refine box_event ?hg (N := 1) ?hd (cs := #[.bool a0_0, .int .i64 a0_1, .bool a0_2, .int .i64 a0_3, .slice A0_4 l0_4.length c0_4]) (t := 24) ?hr ?_; (case hd => rfl); (case hg => rfl); (case hr => first | (go_simp; done) | (go_simp; rfl)); intro gb296 hg w2 hbox hb; have n0_ := Aside0.mk (below_step (by repeat (first | (with_reducible first | exact HB.out | apply below_alloc | apply pw_below_drewN | apply below_drew1) | exact HB.out)) hb); have n1_ := Aside0.mk (hbox); have n2_ := Aside0.mk ((by rw [hg]; exact (below_size (by repeat (first | (with_reducible first | exact HB.out | apply below_alloc | apply pw_below_drewN | apply below_drew1) | exact HB.out))) : w.heap.size ≤ gb296)); have n3_ := Aside0.mk ((by rw [hg]; exact (below_size (by repeat (first | (with_reducible first | exact HB.out | apply below_alloc | apply pw_below_drewN | apply below_drew1) | exact HB.out))) : w.heap.size ≤ gb296)); clear HB; have HB := n0_; have BK296 := n1_; have GW296 := n2_; have GE296 := n3_; clear n0_ n1_ n2_ n3_; clear hb hbox hg; have hcz3_0 : w2.cell? ⟨gb296, 0, none⟩ = some (.bool a0_0) := (blk_cell BK296.out 0).trans rfl; have hcz3_1 : w2.cell? ⟨gb296, 1, none⟩ = some (.int .i64 a0_1) := (blk_cell BK296.out 1).trans rfl; have hcz3_2 : w2.cell? ⟨gb296, 2, none⟩ = some (.bool a0_2) := (blk_cell BK296.out 2).trans rfl; have hcz3_3 : w2.cell? ⟨gb296, 3, none⟩ = some (.int .i64 a0_3) := (blk_cell BK296.out 3).trans rfl; have hcz3_4 : w2.cell? ⟨gb296, 4, none⟩ = some (.slice A0_4 l0_4.length c0_4) := (blk_cell BK296.out 4).trans rfl; have hfz3_0 := blk_frozen BK296.out 0; have hfz3_1 := blk_frozen BK296.out 1; have hfz3_2 := blk_frozen BK296.out 2; have hfz3_3 := blk_frozen BK296.out 3; have hfz3_4 := blk_frozen BK296.out 4))
  go_ret
  exact ⟨by first | rfl | (simp [errW_none, errW_some] <;> rfl) | (simp [*, errW_none, errW_some] <;> rfl), by repeat (first | (with_reducible first | exact HB.out | apply below_alloc | apply pw_below_drewN | apply below_drew1 | refine below_set ?_ GE296.out) | exact HB.out)⟩

end Go.Proofs.Ythgeekcobmhbfaa.Px

-- Written by myprint.py, a program of this session's, over the kit's print.py; not a text of print.sh's own.
import Derived.Test.YtechlakahpkdpaaHandBox
import Derived.Test.YtechlakahpkdpaaHandFive
import Derived.Test.YtechlakahpkdpaaPx0
import Derived.Test.YtechlakahpkdpaaPx1
import Derived.Test.YtechlakahpkdpaaPx2
namespace Go.Proofs.Ytechlakahpkdpaa.Px
open Go.RowKit Go.Proofs.YtechlakahpkdpaaW.PrintWords Go.Proofs.YtechlakahpkdpaaW.PrintLast Go.Proofs.YtechlakahpkdpaaW.PrintMore
attribute [local go_sem] max2_int min2_int max_two min_two max_three min_three max_four min_four   -- for this text's walks alone
set_option linter.unusedVariables false
set_option linter.unusedSimpArgs false

/-! ### frame_Head: function 17 -/
def frame_Head.f (b0 : Bool) (n1 : Int) (b2 : Bool) (n3 : Int) (l4 : List Int) : Option (List Int) := if l4.length ≤ 1073741824 then some (frame_headB b0 n1 b2 n3 l4) else none
set_option maxHeartbeats 3200000 in
set_option maxRecDepth 100000 in
theorem frame_Head.calls (a0_0 : Bool) (a0_1 : Int) (a0_2 : Bool) (a0_3 : Int) (A0_4 : Option Addr) (c0_4 : Nat) (l0_4 : List Int) (r : List Int) (w : World) (hr0_4 : Kd.C (Kd.int .u8) w A0_4 l0_4.length l0_4) (hc0_4 : l0_4.length ≤ c0_4) (h : frame_Head.f a0_0 a0_1 a0_2 a0_3 l0_4 = some r) :
  Calls Try.prog 17 #[.agg #[.bool a0_0, .int .i64 a0_1, .bool a0_2, .int .i64 a0_3, .slice A0_4 l0_4.length c0_4]] w fun e w' => ∃ v0_ : Value, e = .returned v0_ ∧ Kd.R (Kd.int .i64) 3 w' w.heap.size (fun _ => True) v0_ r ∧ Below w.heap.size w w' := by
 unfold frame_Head.f at h
 by_cases hle : l0_4.length ≤ 1073741824
 case neg => rw [if_neg hle] at h; cases h
 rw [if_pos hle] at h
 obtain rfl := Option.some.inj h
 clear h
 have HLE := Aside0.mk hle
 have HR0 := Aside0.mk hr0_4
 have HC0 := Aside0.mk hc0_4
 clear hr0_4 hc0_4 hle
 have hu := Try.underlying26
 have hF := blk_alloc (blk_new w (.cells #[.bool a0_0, .int .i64 a0_1, .bool a0_2, .int .i64 a0_3, .slice A0_4 l0_4.length c0_4] 26)) (.cells #[.slice none 0 0] 49)
 have hr := blk_new (w.alloc (.cells #[.bool a0_0, .int .i64 a0_1, .bool a0_2, .int .i64 a0_3, .slice A0_4 l0_4.length c0_4] 26)) (.cells #[.slice none 0 0] 49)
 rw [World.size_alloc] at hr
 have hb := below_alloc (below_alloc (Below.refl w.heap.size w) (.cells #[.bool a0_0, .int .i64 a0_1, .bool a0_2, .int .i64 a0_3, .slice A0_4 l0_4.length c0_4] 26)) (.cells #[.slice none 0 0] 49)
 have HNE := Aside0.mk (show w.heap.size ≠ w.heap.size + 1 by omega)
 have HF := Aside0.mk hF
 have HR := Aside0.mk hr
 have HB := Aside0.mk hb
 clear hF hr hb
 cases a0_0 with
 | true =>
  go_enter Try.func17, Try.ntmps17
  go_wp2_with fail
  refine (frame_put (w.heap.size + 1) w.heap.size [] 0 1 w _ ⟨by omega, _, HR.out, Kd.R_nil _ _ _ _ _⟩ HB.out (by simp)).mono ?_
  rintro e w1 ⟨rfl, hr1, hB1, hk1⟩
  have hF1 := hk1.2 _ _ _ _ HF.out HNE.out (by decide)
  have c0 := (blk_cell hF1 0).trans rfl
  have c1 := (blk_cell hF1 1).trans rfl
  have c2 := (blk_cell hF1 2).trans rfl
  have c3 := (blk_cell hF1 3).trans rfl
  have c4 := (blk_cell hF1 4).trans rfl
  have HF1 := Aside0.mk hF1
  have HR1 := Aside0.mk hr1
  have HB1 := Aside0.mk hB1
  clear hr1 hB1 hk1 hF1
  go_wp2_with fail
  refine (frame_rank (w.heap.size + 1) w.heap.size _ true a0_1 a0_2 a0_3 A0_4 l0_4.length c0_4 w _ HR1.out HB1.out (Nat.le_trans (frame_app_len _ _ (k := 0) (Nat.le_refl _)) (by decide))).mono ?_
  rintro e w2 ⟨rfl, hr2, hB2, hk2⟩
  have HF2 := Aside0.mk (hk2.2 _ _ _ _ HF1.out HNE.out (by decide))
  have HR2 := Aside0.mk hr2
  have HB2 := Aside0.mk hB2
  have HL2 := Aside0.mk (show ([] ++ (H.putB 0 1).1 ++ frame_rankB true a0_1 a0_2).length ≤ 160 by have := frame_rankB_len true a0_1 a0_2; have := frame_rankB_len false a0_1 a0_2; have := frame_putB_len 0 1; simp only [List.nil_append, List.length_append]; omega)
  clear hr2 hB2 hk2 HF1 HR1 HB1 c0 c1 c2 c3 c4
  go_wp2_with fail
  refine (frame_put (w.heap.size + 1) w.heap.size _ 0 1 w _ HR2.out HB2.out (Nat.le_trans HL2.out (by decide))).mono ?_
  rintro e w3 ⟨rfl, hr3, hB3, hk3⟩
  have hF3 := hk3.2 _ _ _ _ HF2.out HNE.out (by decide)
  have c0 := (blk_cell hF3 0).trans rfl
  have HF3 := Aside0.mk hF3
  have HR3 := Aside0.mk hr3
  have HB3 := Aside0.mk hB3
  have HL3 := Aside0.mk (frame_app_len 0 1 HL2.out)
  clear hr3 hB3 hk3 hF3 HF2 HR2 HB2 HL2
  go_wp2_with fail
  refine (frame_put (w.heap.size + 1) w.heap.size _ 0 1 w _ HR3.out HB3.out (Nat.le_trans HL3.out (by decide))).mono ?_
  rintro e w4 ⟨rfl, hr4, hB4, hk4⟩
  have hF4 := hk4.2 _ _ _ _ HF3.out HNE.out (by decide)
  have c3 := (blk_cell hF4 3).trans rfl
  have HF4 := Aside0.mk hF4
  have HR4 := Aside0.mk hr4
  have HB4 := Aside0.mk hB4
  have HL4 := Aside0.mk (frame_app_len 0 1 HL3.out)
  clear hr4 hB4 hk4 hF4 HF3 HR3 HB3 HL3 c0
  go_wp2_with fail
  refine (frame_put (w.heap.size + 1) w.heap.size _ a0_3 4 w _ HR4.out HB4.out (Nat.le_trans HL4.out (by decide))).mono ?_
  rintro e w5 ⟨rfl, hr5, hB5, hk5⟩
  have hF5 := hk5.2 _ _ _ _ HF4.out HNE.out (by decide)
  have c4 := (blk_cell hF5 4).trans rfl
  have HL5 := Aside0.mk (frame_app_len a0_3 4 HL4.out)
  clear HF4 HR4 HB4 HL4 c3
  obtain ⟨_, v, hv, hR⟩ := hr5
  obtain ⟨A1, k1, rfl⟩ := Kd.R_slice hR
  have d0 := (blk_cell hv 0).trans rfl
  have HF5 := Aside0.mk hF5
  have HV5 := Aside0.mk hv
  have HR5 := Aside0.mk hR
  have HB5 := Aside0.mk hB5
  clear hF5 hv hR hB5 hk5
  generalize hLL : ([] ++ (H.putB 0 1).1 ++ frame_rankB true a0_1 a0_2 ++ (H.putB 0 1).1 ++ (H.putB 0 1).1 ++ (H.putB a0_3 4).1) = L at *
  have HLL := Aside0.mk hLL
  clear hLL
  replace d0 : w5.cell? ⟨w.heap.size + 1, 0, none⟩ = some (.slice A1 L.length k1) := d0
  replace c4 : w5.cell? ⟨w.heap.size, 4, none⟩ = some (.slice A0_4 l0_4.length c0_4) := c4
  have HD0 := Aside0.mk d0
  go_wp2_with fail
  go_region_law (first | (refine HW.step_append_ints .i64 (w0 := w) w.heap.size (by rfl) _ _ 30 3 8 (by rfl) Try.underlying30 info3 (by decide) _ L (H.spreadB l0_4) _ _ _ (by rfl) (by rfl) HR6.out HC6.out HB6.out (below_size HB6.out) (by have := HLE.out; have := HL5.out; have := bits_spread_length l0_4; omega) ?_; intro v7 w7 hR7 hB7 hG7) | (go_simp; go_at_call 21; refine (bits_Spread.calls A0_4 c0_4 l0_4 (H.spreadB l0_4) _ (Kd.C_below HR0.out (pw_below_drewN HB5.out 1)) HC0.out (if_pos (by have := HLE.out; omega))).mono ?_; rintro e w6 ⟨v6, rfl, hR6, hb6⟩; obtain ⟨A6, k6, rfl, hk6, hC6⟩ := Kd.R_reads hR6; have hd6 := pw_cell_below hb6 HD0.out; have HR6 := Aside0.mk (Kd.R_below (Kd.R_drewN HR5.out 1) hb6); have HC6 := Aside0.mk hC6; have HB6 := Aside0.mk (below_step (pw_below_drewN HB5.out 1) hb6); clear hR6 hb6 hk6 hC6))
  all_goals
   have HR7 := Aside0.mk hR7
   have HB7 := Aside0.mk hB7
   clear hR7 hB7 hG7
   go_wp2_with fail
   go_ret
   refine ⟨v7, rfl, ?_, HB7.out⟩
   have hfin := HR7.out
   rw [← HLL.out] at hfin
   unfold frame_headB
   rw [if_pos rfl]
   simpa only [List.nil_append, List.append_nil, List.append_assoc] using hfin
 | false =>
  go_enter Try.func17, Try.ntmps17
  go_wp2_with fail
  refine (frame_put (w.heap.size + 1) w.heap.size [] 0 1 w _ ⟨by omega, _, HR.out, Kd.R_nil _ _ _ _ _⟩ HB.out (by simp)).mono ?_
  rintro e w1 ⟨rfl, hr1, hB1, hk1⟩
  have hF1 := hk1.2 _ _ _ _ HF.out HNE.out (by decide)
  have c0 := (blk_cell hF1 0).trans rfl
  have c1 := (blk_cell hF1 1).trans rfl
  have c2 := (blk_cell hF1 2).trans rfl
  have c3 := (blk_cell hF1 3).trans rfl
  have c4 := (blk_cell hF1 4).trans rfl
  have HF1 := Aside0.mk hF1
  have HR1 := Aside0.mk hr1
  have HB1 := Aside0.mk hB1
  clear hr1 hB1 hk1 hF1
  go_wp2_with fail
  refine (frame_rank (w.heap.size + 1) w.heap.size _ false a0_1 a0_2 a0_3 A0_4 l0_4.length c0_4 w _ HR1.out HB1.out (Nat.le_trans (frame_app_len _ _ (k := 0) (Nat.le_refl _)) (by decide))).mono ?_
  rintro e w2 ⟨rfl, hr2, hB2, hk2⟩
  have HF2 := Aside0.mk (hk2.2 _ _ _ _ HF1.out HNE.out (by decide))
  have HR2 := Aside0.mk hr2
  have HB2 := Aside0.mk hB2
  have HL2 := Aside0.mk (show ([] ++ (H.putB 0 1).1 ++ frame_rankB false a0_1 a0_2).length ≤ 160 by have := frame_rankB_len true a0_1 a0_2; have := frame_rankB_len false a0_1 a0_2; have := frame_putB_len 0 1; simp only [List.nil_append, List.length_append]; omega)
  clear hr2 hB2 hk2 HF1 HR1 HB1 c0 c1 c2 c3 c4
  go_wp2_with fail
  refine (frame_put (w.heap.size + 1) w.heap.size _ 0 1 w _ HR2.out HB2.out (Nat.le_trans HL2.out (by decide))).mono ?_
  rintro e w3 ⟨rfl, hr3, hB3, hk3⟩
  have hF3 := hk3.2 _ _ _ _ HF2.out HNE.out (by decide)
  have c0 := (blk_cell hF3 0).trans rfl
  have c3 := (blk_cell hF3 3).trans rfl
  have HF4 := Aside0.mk hF3
  have HR4 := Aside0.mk hr3
  have HB4 := Aside0.mk hB3
  have HL4 := Aside0.mk (frame_app_len 0 1 HL2.out)
  clear hr3 hB3 hk3 hF3 HF2 HR2 HB2 HL2
  go_wp2_with fail
  refine (frame_put (w.heap.size + 1) w.heap.size _ a0_3 4 w _ HR4.out HB4.out (Nat.le_trans HL4.out (by decide))).mono ?_
  rintro e w5 ⟨rfl, hr5, hB5, hk5⟩
  have hF5 := hk5.2 _ _ _ _ HF4.out HNE.out (by decide)
  have c4 := (blk_cell hF5 4).trans rfl
  have HL5 := Aside0.mk (frame_app_len a0_3 4 HL4.out)
  clear HF4 HR4 HB4 HL4 c3 c0
  obtain ⟨_, v, hv, hR⟩ := hr5
  obtain ⟨A1, k1, rfl⟩ := Kd.R_slice hR
  have d0 := (blk_cell hv 0).trans rfl
  have HF5 := Aside0.mk hF5
  have HV5 := Aside0.mk hv
  have HR5 := Aside0.mk hR
  have HB5 := Aside0.mk hB5
  clear hF5 hv hR hB5 hk5
  generalize hLL : ([] ++ (H.putB 0 1).1 ++ frame_rankB false a0_1 a0_2 ++ (H.putB 0 1).1 ++ (H.putB a0_3 4).1) = L at *
  have HLL := Aside0.mk hLL
  clear hLL
  replace d0 : w5.cell? ⟨w.heap.size + 1, 0, none⟩ = some (.slice A1 L.length k1) := d0
  replace c4 : w5.cell? ⟨w.heap.size, 4, none⟩ = some (.slice A0_4 l0_4.length c0_4) := c4
  have HD0 := Aside0.mk d0
  go_wp2_with fail
  go_region_law (first | (refine HW.step_append_ints .i64 (w0 := w) w.heap.size (by rfl) _ _ 30 3 8 (by rfl) Try.underlying30 info3 (by decide) _ L (H.spreadB l0_4) _ _ _ (by rfl) (by rfl) HR6.out HC6.out HB6.out (below_size HB6.out) (by have := HLE.out; have := HL5.out; have := bits_spread_length l0_4; omega) ?_; intro v7 w7 hR7 hB7 hG7) | (go_simp; go_at_call 21; refine (bits_Spread.calls A0_4 c0_4 l0_4 (H.spreadB l0_4) _ (Kd.C_below HR0.out (pw_below_drewN HB5.out 1)) HC0.out (if_pos (by have := HLE.out; omega))).mono ?_; rintro e w6 ⟨v6, rfl, hR6, hb6⟩; obtain ⟨A6, k6, rfl, hk6, hC6⟩ := Kd.R_reads hR6; have hd6 := pw_cell_below hb6 HD0.out; have HR6 := Aside0.mk (Kd.R_below (Kd.R_drewN HR5.out 1) hb6); have HC6 := Aside0.mk hC6; have HB6 := Aside0.mk (below_step (pw_below_drewN HB5.out 1) hb6); clear hR6 hb6 hk6 hC6))
  all_goals
   have HR7 := Aside0.mk hR7
   have HB7 := Aside0.mk hB7
   clear hR7 hB7 hG7
   go_wp2_with fail
   go_ret
   refine ⟨v7, rfl, ?_, HB7.out⟩
   have hfin := HR7.out
   rw [← HLL.out] at hfin
   unfold frame_headB
   rw [if_neg (show ¬ (false = true) by decide)]
   simpa only [List.nil_append, List.append_nil, List.append_assoc] using hfin

/-! ### crc_Bits: function 19 -/
theorem crc_and15 (s : BitVec 15) : Go.bits .and .i64 ((s.toNat : Int) * 2) 32767 = (((s <<< 1 : BitVec 15).toNat : Nat) : Int) := by
 have h := H.and_i64 (s.toNat * 2) 32767 (by have := s.isLt; omega) (by decide)
 rw [show ((s.toNat : Int) * 2) = ((s.toNat * 2 : Nat) : Int) by omega]
 refine h.trans ?_
 rw [show s.toNat * 2 &&& 32767 = s.toNat * 2 % 32768 from Nat.and_two_pow_sub_one_eq_mod _ 15, BitVec.toNat_shiftLeft, Nat.shiftLeft_eq]
theorem crc_and8 (s : BitVec 8) : Go.bits .and .i64 ((s.toNat : Int) * 2) 255 = (((s <<< 1 : BitVec 8).toNat : Nat) : Int) := by
 have h := H.and_i64 (s.toNat * 2) 255 (by have := s.isLt; omega) (by decide)
 rw [show ((s.toNat : Int) * 2) = ((s.toNat * 2 : Nat) : Int) by omega]
 refine h.trans ?_
 rw [show s.toNat * 2 &&& 255 = s.toNat * 2 % 256 from Nat.and_two_pow_sub_one_eq_mod _ 8, BitVec.toNat_shiftLeft, Nat.shiftLeft_eq]
theorem crc_xor15 (s : BitVec 15) : Go.bits .xor .i64 (s.toNat : Int) 17817 = (((s ^^^ 0x4599#15 : BitVec 15).toNat : Nat) : Int) := by
 have h := H.xor_i64 s.toNat 17817 (by have := s.isLt; omega) (by decide)
 refine h.trans ?_
 rw [BitVec.toNat_xor]; rfl
theorem crc_xor8 (s : BitVec 8) : Go.bits .xor .i64 (s.toNat : Int) 29 = (((s ^^^ 0x1D#8 : BitVec 8).toNat : Nat) : Int) := by
 have h := H.xor_i64 s.toNat 29 (by have := s.isLt; omega) (by decide)
 refine h.trans ?_
 rw [BitVec.toNat_xor]; rfl
set_option maxHeartbeats 800000 in
set_option maxRecDepth 100000 in
theorem crc_take15 (g B0 : Nat) (s : BitVec 15) (b : Int) (w0 w : World) (hblk : w.heap[g]? = some (.cells #[.int .i64 s.toNat, .int .i64 15, .int .i64 17817] 62 (0, 0))) (hB : Below B0 w0 w) (hg : B0 ≤ g) :
  Calls Try.prog 30 #[.pointer (some ⟨g, 0, none⟩), .int .i64 b] w fun e w' => e = .returned (.tuple #[]) ∧ w'.heap[g]? = some (.cells #[.int .i64 (H.regB 0x4599#15 s b).toNat, .int .i64 15, .int .i64 17817] 62 (0, 0)) ∧ Below B0 w0 w' := by
 have c0 : w.cell? ⟨g, 0, none⟩ = some (.int .i64 s.toNat) := by rw [blk_cell hblk]; rfl
 have c1 : w.cell? ⟨g, 1, none⟩ = some (.int .i64 15) := by rw [blk_cell hblk]; rfl
 have c2 : w.cell? ⟨g, 2, none⟩ = some (.int .i64 17817) := by rw [blk_cell hblk]; rfl
 have f0 : w.frozen? ⟨g, 0, none⟩ = false := blk_frozen hblk 0
 have HBL := Aside0.mk hblk
 have HB0 := Aside0.mk hB
 have hs1 : (s.toNat : Int) ≤ 32767 := by have := s.isLt; omega
 have hs0 : 0 ≤ (s.toNat : Int) := by omega
 have HS := Aside0.mk (show H.regB 0x4599#15 s b = if Go.bits .xor .i64 ((s.toNat : Int) / 16384) b = 1 then s <<< 1 ^^^ 0x4599#15 else s <<< 1 from rfl)
 have HA := Aside0.mk (crc_and15 s)
 have HX1 := Aside0.mk (crc_xor15 (s <<< 1))
 clear hblk hB
 generalize hn : (s.toNat : Int) = n at *
 have HN := Aside0.mk hn
 clear hn
 by_cases hx : Go.bits .xor .i64 (n / 16384) b = 1
 ·have hxb : (Go.bits .xor .i64 (n / 16384) b == 1) = true := beq_iff_eq.mpr hx
  have HX := Aside0.mk hx
  clear hx
  go_enter Try.func30, Try.ntmps30
  go_wp2_with fail
  go_quiet (fail)
  go_wp2_with fail
  go_region
  go_wp2_with fail
  go_region
  go_wp2_with fail
  go_end0
  refine ⟨rfl, ?_, ?_⟩
  ·rw [HS.out, if_pos HX.out, ← HX1.out, ← HA.out]
   exact blk_set (blk_drewN (blk_set (blk_drewN HBL.out (nq + 1)) 0 _) 1) 0 _
  ·exact (pw_below_drewN ((pw_below_drewN HB0.out (nq + 1)).setCell (p := ⟨g, 0, none⟩) hg _) 1).setCell (p := ⟨g, 0, none⟩) hg _
 ·have hxb : (Go.bits .xor .i64 (n / 16384) b == 1) = false := beq_eq_false_iff_ne.mpr hx
  have HX := Aside0.mk hx
  clear hx
  go_enter Try.func30, Try.ntmps30
  go_wp2_with fail
  go_quiet (fail)
  go_wp2_with fail
  go_region
  go_wp2_with fail
  go_end0
  refine ⟨rfl, ?_, ?_⟩
  ·rw [HS.out, if_neg HX.out, ← HA.out]
   exact blk_set (blk_drewN HBL.out (nq + 1)) 0 _
  ·exact (pw_below_drewN HB0.out (nq + 1)).setCell (p := ⟨g, 0, none⟩) hg _
set_option maxHeartbeats 800000 in
set_option maxRecDepth 100000 in
theorem crc_take8 (g B0 : Nat) (s : BitVec 8) (b : Int) (w0 w : World) (hblk : w.heap[g]? = some (.cells #[.int .i64 s.toNat, .int .i64 8, .int .i64 29] 62 (0, 0))) (hB : Below B0 w0 w) (hg : B0 ≤ g) :
  Calls Try.prog 30 #[.pointer (some ⟨g, 0, none⟩), .int .i64 b] w fun e w' => e = .returned (.tuple #[]) ∧ w'.heap[g]? = some (.cells #[.int .i64 (H.regB 0x1D#8 s b).toNat, .int .i64 8, .int .i64 29] 62 (0, 0)) ∧ Below B0 w0 w' := by
 have c0 : w.cell? ⟨g, 0, none⟩ = some (.int .i64 s.toNat) := by rw [blk_cell hblk]; rfl
 have c1 : w.cell? ⟨g, 1, none⟩ = some (.int .i64 8) := by rw [blk_cell hblk]; rfl
 have c2 : w.cell? ⟨g, 2, none⟩ = some (.int .i64 29) := by rw [blk_cell hblk]; rfl
 have f0 : w.frozen? ⟨g, 0, none⟩ = false := blk_frozen hblk 0
 have HBL := Aside0.mk hblk
 have HB0 := Aside0.mk hB
 have hs1 : (s.toNat : Int) ≤ 255 := by have := s.isLt; omega
 have hs0 : 0 ≤ (s.toNat : Int) := by omega
 have HS := Aside0.mk (show H.regB 0x1D#8 s b = if Go.bits .xor .i64 ((s.toNat : Int) / 128) b = 1 then s <<< 1 ^^^ 0x1D#8 else s <<< 1 from rfl)
 have HA := Aside0.mk (crc_and8 s)
 have HX1 := Aside0.mk (crc_xor8 (s <<< 1))
 clear hblk hB
 generalize hn : (s.toNat : Int) = n at *
 have HN := Aside0.mk hn
 clear hn
 by_cases hx : Go.bits .xor .i64 (n / 128) b = 1
 ·have hxb : (Go.bits .xor .i64 (n / 128) b == 1) = true := beq_iff_eq.mpr hx
  have HX := Aside0.mk hx
  clear hx
  go_enter Try.func30, Try.ntmps30
  go_wp2_with fail
  go_quiet (fail)
  go_wp2_with fail
  go_region
  go_wp2_with fail
  go_region
  go_wp2_with fail
  go_end0
  refine ⟨rfl, ?_, ?_⟩
  ·rw [HS.out, if_pos HX.out, ← HX1.out, ← HA.out]
   exact blk_set (blk_drewN (blk_set (blk_drewN HBL.out (nq + 1)) 0 _) 1) 0 _
  ·exact (pw_below_drewN ((pw_below_drewN HB0.out (nq + 1)).setCell (p := ⟨g, 0, none⟩) hg _) 1).setCell (p := ⟨g, 0, none⟩) hg _
 ·have hxb : (Go.bits .xor .i64 (n / 128) b == 1) = false := beq_eq_false_iff_ne.mpr hx
  have HX := Aside0.mk hx
  clear hx
  go_enter Try.func30, Try.ntmps30
  go_wp2_with fail
  go_quiet (fail)
  go_wp2_with fail
  go_region
  go_wp2_with fail
  go_end0
  refine ⟨rfl, ?_, ?_⟩
  ·rw [HS.out, if_neg HX.out, ← HA.out]
   exact blk_set (blk_drewN HBL.out (nq + 1)) 0 _
  ·exact (pw_below_drewN HB0.out (nq + 1)).setCell (p := ⟨g, 0, none⟩) hg _
def crc_Bits.f (l0 : List Int) : Option Int := some ((H.crcB l0).toNat : Int)
set_option maxHeartbeats 800000 in
set_option maxRecDepth 100000 in
theorem crc_Bits.calls (A0 : Option Addr) (c0 : Nat) (l0 : List Int) (r : Int) (w : World) (hr0 : Kd.C (Kd.int .i64) w A0 l0.length l0) (hc0 : l0.length ≤ c0) (h : crc_Bits.f l0 = some r) :
  Calls Try.prog 19 #[.slice A0 l0.length c0] w fun e w' => e = .returned (.int .i64 r) ∧ Below w.heap.size w w' := by
 have hmf : ∀ (fn : Fn) (first cap : Array Value) (w : World), (Instr.makeFunc fn first cap).run Try.prog w = .ok (.func fn first cap) w := fun _ _ _ _ => rfl
 have HR0 := Aside0.mk hr0
 have HC0 := Aside0.mk hc0
 have hm := hr0.2.1
 clear hr0 hc0
 obtain rfl := Option.some.inj h
 clear h
 go_enter Try.func19, Try.ntmps19
 go_wp2
 go_loopw [13] (fun v wr => ∃ k : Nat, k ≤ l0.length ∧ v = .int .i64 k ∧ Aside0 (wr.heap[w.heap.size]? = some (.cells #[.int .i64 (H.crcB (l0.take k)).toNat, .int .i64 15, .int .i64 17817] 62 (0, 0))) ∧ Aside0 (Below w.heap.size w wr)) (fun v _ => l0.length - (intOf v).toNat)
 case atStart => exact ⟨0, Nat.zero_le _, rfl, ⟨blk_new _ _⟩, ⟨below_alloc (Below.refl _ _) _⟩⟩
 case round =>
  obtain ⟨k, hk, rfl, HB, HW⟩ := hrel
  by_cases hlt : k < l0.length
  ·have p1 : 0 ≤ (k : Int) := by omega
   have q1 : (k : Int) < (l0.length : Int) := by omega
   obtain ⟨ad, e1, hx⟩ := Kd.at_int HR0.out k p1 q1
   cases e1
   have hx2 : wr.cell? (ad.add k) = some (.int .i64 (rd l0 k)) := pw_cell_below HW.out hx
   clear hx
   go_wp2_with fail
   refine (crc_take15 w.heap.size w.heap.size (H.crcB (l0.take k)) (rd l0 k) w _ HB.out HW.out (Nat.le_refl _)).mono ?_
   rintro e w1 ⟨rfl, hb1, hw1⟩
   have HB1 := Aside0.mk hb1
   have HW1 := Aside0.mk hw1
   clear hb1 hw1
   go_wp2_with fail
   go_roundw
   case rel => exact ⟨k + 1, by omega, by go_num, ⟨by rw [H.take_snoc 0 l0 k hlt, H.crcB_snoc]; exact HB1.out⟩, HW1⟩
   case measure => simp [intOf]; omega
  ·obtain rfl : k = l0.length := by omega
   have c0 : wr.cell? ⟨w.heap.size, 0, none⟩ = some (.int .i64 (H.crcB l0).toNat) := by rw [blk_cell HB.out, List.take_length]; rfl
   go_wp2_with fail
   go_ret
   exact ⟨rfl, HW.out⟩

/-! ### stuff_runner: helper -/
set_option maxHeartbeats 800000 in
set_option maxRecDepth 100000 in
theorem stuff_run1 (p q B0 : Nat) (s : Int × Int) (b : Int) (w0 w : World) (hp : w.heap[p]? = some (.cells #[.int .i64 s.1] 3 (0, 0))) (hq : w.heap[q]? = some (.cells #[.int .i64 s.2] 3 (0, 0))) (hpq : p ≠ q) (hB : Below B0 w0 w) (hBp : B0 ≤ p) (hBq : B0 ≤ q) :
  Calls Try.prog 37 #[.int .i64 b, .pointer (some ⟨p, 0, none⟩), .pointer (some ⟨q, 0, none⟩)] w fun e w' => e = .returned (.int .i64 (H.runS s b).2) ∧
   w'.heap[p]? = some (.cells #[.int .i64 (H.runS s b).1] 3 (0, 0)) ∧ w'.heap[q]? = some (.cells #[.int .i64 (H.runS s b).2] 3 (0, 0)) ∧ Below B0 w0 w' ∧ Kept w w' (fun k => k = p ∨ k = q) ∧ (∀ J : World → Prop, (∀ A B row, J A → A.grownBy B row → (∀ r, row = some r → r = p ∨ r = q) → J B) → J w → J w') := by
 obtain ⟨last, n⟩ := s
 have c0 : w.cell? ⟨p, 0, none⟩ = some (.int .i64 last) := by rw [blk_cell hp]; rfl
 have c1 : w.cell? ⟨q, 0, none⟩ = some (.int .i64 n) := by rw [blk_cell hq]; rfl
 have f0 : w.frozen? ⟨p, 0, none⟩ = false := blk_frozen hp 0
 have f1 : w.frozen? ⟨q, 0, none⟩ = false := blk_frozen hq 0
 have HP := Aside0.mk hp
 have HQ := Aside0.mk hq
 have HBB := Aside0.mk hB
 clear hp hq hB
 have kS : ∀ (W : World) (u : Value), Kept w W (fun k => k = p ∨ k = q) → Kept w (W.setCell ⟨q, 0, none⟩ u) (fun k => k = p ∨ k = q) := fun W u h => h.setCell (.inl (.inr rfl)) u
 by_cases hx : b = last
 ·have hxb : (b != last) = false := by rw [bne_eq_false_iff_eq]; exact hx
  have HR := Aside0.mk (show H.runS (last, n) last = (last, wrap64 (n + 1)) by unfold H.runS; rw [if_pos rfl])
  subst hx
  go_enter Try.func37, Try.ntmps37
  go_wp2_with fail
  go_ret
  rw [HR.out]
  exact ⟨rfl, blk_far HP.out hpq _, blk_set HQ.out 0 _, HBB.out.setCell (p := ⟨q, 0, none⟩) hBq _, kS _ _ (Kept.refl _ _), fun J hJ h0 => hJ _ _ _ h0 (grownBy_setCell' _ q _) (fun r e => by cases e; exact .inr rfl)⟩
 ·have hxb : (b != last) = true := by rw [bne_iff_ne]; exact hx
  have HR := Aside0.mk (show H.runS (last, n) b = (b, 1) by unfold H.runS; rw [if_neg hx])
  have hq1 := blk_far HQ.out (p := ⟨p, 0, none⟩) (Ne.symm hpq) (.int .i64 b)
  have hq2 := blk_set hq1 0 (.int .i64 0)
  have hq3 := blk_set hq2 0 (.int .i64 1)
  have hp1 := blk_set HP.out 0 (.int .i64 b)
  have hp2 := blk_far hp1 (p := ⟨q, 0, none⟩) hpq (.int .i64 0)
  have hp3 := blk_far hp2 (p := ⟨q, 0, none⟩) hpq (.int .i64 1)
  have c3 : (((w.setCell ⟨p, 0, none⟩ (.int .i64 b)).setCell ⟨q, 0, none⟩ (.int .i64 0)).setCell ⟨q, 0, none⟩ (.int .i64 1)).cell? ⟨q, 0, none⟩ = some (.int .i64 1) := by rw [blk_cell hq3]; rfl
  have HP3 := Aside0.mk hp3
  have HQ3 := Aside0.mk hq3
  clear hq1 hq2 hq3 hp1 hp2 hp3
  go_enter Try.func37, Try.ntmps37
  go_wp2_with fail
  go_ret
  rw [HR.out]
  refine ⟨rfl, HP3.out, HQ3.out, ((HBB.out.setCell (p := ⟨p, 0, none⟩) hBp _).setCell (p := ⟨q, 0, none⟩) hBq _).setCell (p := ⟨q, 0, none⟩) hBq _, kS _ _ (kS _ _ ((Kept.refl _ _).setCell (.inl (.inl rfl)) _)), fun J hJ h0 => hJ _ _ _ (hJ _ _ _ (hJ _ _ _ h0 (grownBy_setCell' _ p _) (fun r e => by cases e; exact .inl rfl)) (grownBy_setCell' _ q _) (fun r e => by cases e; exact .inr rfl)) (grownBy_setCell' _ q _) (fun r e => by cases e; exact .inr rfl)⟩
theorem stuff_runner_calls (w : World) : Calls Try.prog 27 #[] w fun e w' => e = .returned (.func (.func 37) #[] #[.pointer (some ⟨w.heap.size, 0, none⟩), .pointer (some ⟨w.heap.size + 1, 0, none⟩)]) ∧
   w'.heap[w.heap.size]? = some (.cells #[.int .i64 (-1)] 3 (0, 0)) ∧ w'.heap[w.heap.size + 1]? = some (.cells #[.int .i64 0] 3 (0, 0)) ∧ Below w.heap.size w w' ∧ w'.heap.size = w.heap.size + 2 ∧ (∀ J : World → Prop, (∀ A B, J A → A.grownBy B none → J B) → J w → J w') := by
 have hmf : ∀ (fn : Fn) (first cap : Array Value) (w : World), (Instr.makeFunc fn first cap).run Try.prog w = .ok (.func fn first cap) w := fun _ _ _ _ => rfl
 go_enter Try.func27, Try.ntmps27
 go_wp2
 go_ret
 refine ⟨rfl, ?_, ?_, ?_, ?_, fun J hJ h0 => hJ _ _ (hJ _ _ h0 (World.grownBy_alloc _ _ none)) (World.grownBy_alloc _ _ none)⟩
 ·exact blk_alloc (blk_new _ _) _
 ·have := blk_new (w.alloc (.cells #[.int .i64 (-1)] 3)) (.cells #[.int .i64 0] 3)
  simpa using this
 ·exact below_alloc (below_alloc (Below.refl _ _) _) _
 ·simp

/-! ### stuff_Stuff: function 20 -/
def stuff_Stuff.f (l0 : List Int) : Option (List Int) := if l0.length ≤ 1099511627776 then some (H.stuffB l0) else none
set_option maxHeartbeats 1600000 in
set_option maxRecDepth 100000 in
theorem stuff_Stuff.calls (A0 : Option Addr) (c0 : Nat) (l0 : List Int) (r : List Int) (w : World) (hr0 : Kd.C (Kd.int .i64) w A0 l0.length l0) (hc0 : l0.length ≤ c0) (h : stuff_Stuff.f l0 = some r) :
  Calls Try.prog 20 #[.slice A0 l0.length c0] w fun e w' => ∃ v0_ : Value, e = .returned v0_ ∧ Kd.R (Kd.int .i64) 3 w' w.heap.size (fun _ => True) v0_ r ∧ Below w.heap.size w w' := by
 unfold stuff_Stuff.f at h
 by_cases hle : l0.length ≤ 1099511627776
 case neg => rw [if_neg hle] at h; cases h
 rw [if_pos hle] at h
 obtain rfl := Option.some.inj h
 clear h
 have HR0 := Aside0.mk hr0
 have HC0 := Aside0.mk hc0
 clear hr0 hc0
 go_enter Try.func20, Try.ntmps20
 go_wp2_with fail
 refine (stuff_runner_calls w).mono ?_
 rintro e w1 ⟨rfl, hp1, hq1, hb1, hs1, hj1⟩
 have HP := Aside0.mk hp1
 have HQ := Aside0.mk hq1
 have HB := Aside0.mk hb1
 clear hp1 hq1 hb1 hs1 hj1
 go_wp2_with fail
 go_loopw [3, 10] (fun u v wr => ∃ k : Nat, k ≤ l0.length ∧ v = .int .i64 k ∧ Aside0 (Kd.R (Kd.int .i64) 3 wr w.heap.size (fun k => k ≠ w.heap.size ∧ k ≠ w.heap.size + 1) u (H.stuffS (l0.take k)).1) ∧
   Aside0 (wr.heap[w.heap.size]? = some (.cells #[.int .i64 (H.stuffS (l0.take k)).2.1] 3 (0, 0))) ∧ Aside0 (wr.heap[w.heap.size + 1]? = some (.cells #[.int .i64 (H.stuffS (l0.take k)).2.2] 3 (0, 0))) ∧ Aside0 (Below w.heap.size w wr)) (fun _ v _ => l0.length - (intOf v).toNat)
 case atStart => exact ⟨0, Nat.zero_le _, rfl, ⟨Kd.R_nil _ _ _ _ _⟩, HP, HQ, HB⟩
 case round =>
  clear HP HQ HB
  obtain ⟨k, hk, rfl, HO, HP, HQ, HB⟩ := hrel
  by_cases hlt : k < l0.length
  ·have p1 : 0 ≤ (k : Int) := by omega
   have q1 : (k : Int) < (l0.length : Int) := by omega
   obtain ⟨ad, e1, hx⟩ := Kd.at_int HR0.out k p1 q1
   cases e1
   have hx2 : wr.cell? (ad.add k) = some (.int .i64 (rd l0 k)) := pw_cell_below HB.out hx
   clear hx
   have hlen := H.stuffS_len (l0.take k)
   have hsn : H.stuffS (l0.take (k + 1)) = H.stuffStep (H.stuffS (l0.take k)) (rd l0 k) := by rw [H.take_snoc 0 l0 k hlt, H.stuffS_snoc]; rfl
   rw [List.length_take] at hlen
   have hsz := blk_lt HQ.out
   generalize hS : H.stuffS (l0.take k) = S at HO HP HQ hlen hsn
   obtain ⟨out, s⟩ := S
   clear hS
   have HSN := Aside0.mk hsn
   clear hsn
   replace hlen : out.length ≤ 2 * min k l0.length := hlen
   have hl8 : (out.length + 1) * 8 ≤ 140737488355328 := by omega
   go_wp2_with (first | ((with_reducible refine gate_builtin (b := .append) (xs := #[.tmp 14, .tmp 16]) rfl ?_); at_builtin; refine Kd.R_append (Kd.int .i64) (w0 := w) w.heap.size rfl (.tmp 14) (.tmp 16) 30 3 (.int .i64 0) 8 rfl Try.underlying30 info3 rfl (by decide) (by omega) u3 out (rd l0 k) [.int .i64 (rd l0 k)] (fun k => k ≠ w.heap.size ∧ k ≠ w.heap.size + 1) (fun _ => False) rfl rfl rfl (fun _ hk => hk.elim) (fun j hj => ⟨by omega, by omega⟩) HO.out HB.out (by omega) hl8 ?_; intro v1 w2 ho2 hb2 hg2 hat2))
   have hp2 := blk_grown HP.out hg2 (fun he => (HO.out.1 _ he.symm).1 rfl)
   have hq2 := blk_grown HQ.out hg2 (fun he => (HO.out.1 _ he.symm).2 rfl)
   refine (stuff_run1 w.heap.size (w.heap.size + 1) w.heap.size s (rd l0 k) w _ hp2 hq2 (by omega) hb2 (by omega) (by omega)).mono ?_
   clear hp2 hq2 hat2 hg2 hb2
   rintro e w3 ⟨rfl, hp3, hq3, hb3, hk3, hj3⟩
   have ho3 := Kd.R_kept ho2 hk3 (fun j hj hs => hs.elim hj.1 hj.2)
   clear hj3 hk3 ho2 HP HQ HO HB
   have hsz3 := blk_lt hq3
   generalize hs1 : H.runS s (rd l0 k) = s1 at *
   have HS1 := Aside0.mk hs1
   have HP3 := Aside0.mk hp3
   have HQ3 := Aside0.mk hq3
   have HO3 := Aside0.mk ho3
   have HB3 := Aside0.mk hb3
   clear hp3 hq3 ho3 hb3 hs1
   by_cases c : s1.2 = 5
   ·have cb : (s1.2 == 5) = true := beq_iff_eq.mpr c
    have hl8 : ((out ++ [rd l0 k]).length + 1) * 8 ≤ 140737488355328 := by rw [List.length_append, List.length_singleton]; omega
    go_wp2_with (first | ((with_reducible refine gate_builtin (b := .append) (xs := #[.tmp 22, .tmp 25]) rfl ?_); at_builtin; refine Kd.R_append (Kd.int .i64) (w0 := w) w.heap.size rfl (.tmp 22) (.tmp 25) 30 3 (.int .i64 0) 8 rfl Try.underlying30 info3 rfl (by decide) (by omega) v1 (out ++ [rd l0 k]) (wrap64 (1 - rd l0 k)) [.int .i64 (wrap64 (1 - rd l0 k))] (fun k => k ≠ w.heap.size ∧ k ≠ w.heap.size + 1) (fun _ => False) rfl rfl rfl (fun _ hk => hk.elim) (fun j hj => ⟨by omega, by omega⟩) HO3.out HB3.out (by omega) hl8 ?_; intro v4 w4 ho4 hb4 hg4 hat4))
    have hp4 := blk_grown HP3.out hg4 (fun he => (HO3.out.1 _ he.symm).1 rfl)
    have hq4 := blk_grown HQ3.out hg4 (fun he => (HO3.out.1 _ he.symm).2 rfl)
    refine (stuff_run1 w.heap.size (w.heap.size + 1) w.heap.size s1 (wrap64 (1 - rd l0 k)) w _ hp4 hq4 (by omega) hb4 (by omega) (by omega)).mono ?_
    clear hp4 hq4 hat4 hg4 hb4
    rintro e w5 ⟨rfl, hp5, hq5, hb5, hk5, hj5⟩
    have ho5 := Kd.R_kept ho4 hk5 (fun j hj hs => hs.elim hj.1 hj.2)
    have hst : H.stuffStep (out, s) (rd l0 k) = (out ++ [rd l0 k] ++ [wrap64 (1 - rd l0 k)], H.runS s1 (wrap64 (1 - rd l0 k))) := by unfold H.stuffStep; rw [HS1.out, if_pos c]
    rw [hst] at HSN
    have HP5 := Aside0.mk hp5
    have HQ5 := Aside0.mk hq5
    have HO5 := Aside0.mk ho5
    have HB5 := Aside0.mk hb5
    clear hj5 hp5 hq5 ho5 hb5 hk5 ho4 hst
    go_wp2_with fail
    go_roundw
    case rel => exact ⟨k + 1, by omega, by go_num, ⟨by rw [HSN.out]; exact HO5.out⟩, ⟨by rw [HSN.out]; exact HP5.out⟩, ⟨by rw [HSN.out]; exact HQ5.out⟩, HB5⟩
    case measure => simp [intOf]; omega
   ·have cb : (s1.2 == 5) = false := beq_eq_false_iff_ne.mpr c
    have hst : H.stuffStep (out, s) (rd l0 k) = (out ++ [rd l0 k], s1) := by unfold H.stuffStep; rw [HS1.out, if_neg c]
    rw [hst] at HSN
    clear hst
    go_wp2_with fail
    go_roundw
    case rel => exact ⟨k + 1, by omega, by go_num, ⟨by rw [HSN.out]; exact HO3.out⟩, ⟨by rw [HSN.out]; exact HP3.out⟩, ⟨by rw [HSN.out]; exact HQ3.out⟩, HB3⟩
    case measure => simp [intOf]; omega
  ·obtain rfl : k = l0.length := by omega
   rw [List.take_length] at HO
   go_wp2_with fail
   go_ret
   exact ⟨_, rfl, Kd.R_mono HO.out (fun _ _ => trivial), HB.out⟩

/-! ### wire_Bits: function 13 -/
def wire_Bits.f (a0_0 : Bool) (a0_1 : Int) (a0_2 : Bool) (a0_3 : Int) (l0_4 : List Int) : Option (List Int) := (frame_Head.f a0_0 a0_1 a0_2 a0_3 l0_4).bind fun t110 => ((crc_Bits.f t110).bind fun t113 => ((bits_Put.f t113 15).bind fun bt114 => ((bits_Put.f 1023 10).bind fun bt118 => (if t110.length + bt114.1.length < 17592186044416 then ((stuff_Stuff.f (t110 ++ bt114.1)).bind fun t125 => (if t125.length + bt118.1.length < 17592186044416 then (some (t125 ++ bt118.1)) else (none))) else (none)))))
set_option maxHeartbeats 8000000 in
set_option maxRecDepth 100000 in
theorem wire_Bits.calls (a0_0 : Bool) (a0_1 : Int) (a0_2 : Bool) (a0_3 : Int) (A0_4 : Option Addr) (c0_4 : Nat) (l0_4 : List Int) (r : List Int) (w : World) (hr0_4 : Kd.C (Kd.int .u8) w A0_4 l0_4.length l0_4) (hc0_4 : l0_4.length ≤ c0_4) (h : wire_Bits.f a0_0 a0_1 a0_2 a0_3 l0_4 = some r) :
  Calls Try.prog 13 #[.agg #[.bool a0_0, .int .i64 a0_1, .bool a0_2, .int .i64 a0_3, .slice A0_4 l0_4.length c0_4]] w fun e w' => ∃ v0_ : Value, e = .returned (v0_) ∧ Kd.R (Kd.int .i64) 3 w' w.heap.size (fun _ => True) v0_ r ∧ Below w.heap.size w w' := by
 have hu26 := Try.underlying26
 have HR0_4 := Aside0.mk hr0_4
 have HC0_4 := Aside0.mk hc0_4
 clear hr0_4 hc0_4
 have HB := Aside0.mk (Below.refl w.heap.size w)
 have H : ((frame_Head.f a0_0 a0_1 a0_2 a0_3 l0_4).bind fun t110 => ((crc_Bits.f t110).bind fun t113 => ((bits_Put.f t113 15).bind fun bt114 => ((bits_Put.f 1023 10).bind fun bt118 => (if t110.length + bt114.1.length < 17592186044416 then ((stuff_Stuff.f (t110 ++ bt114.1)).bind fun t125 => (if t125.length + bt118.1.length < 17592186044416 then (some (t125 ++ bt118.1)) else (none))) else (none)))))) = some r := h
 clear h
 replace H := Option.bind_eq_some_iff.mp H
 obtain ⟨t110, A20, H⟩ := H
 replace H : ((crc_Bits.f t110).bind fun t113 => ((bits_Put.f t113 15).bind fun bt114 => ((bits_Put.f 1023 10).bind fun bt118 => (if t110.length + bt114.1.length < 17592186044416 then ((stuff_Stuff.f (t110 ++ bt114.1)).bind fun t125 => (if t125.length + bt118.1.length < 17592186044416 then (some (t125 ++ bt118.1)) else (none))) else (none))))) = some r := H
 have A2 := Aside0.mk A20
 clear A20
 replace H := Option.bind_eq_some_iff.mp H
 obtain ⟨t113, A30, H⟩ := H
 replace H : ((bits_Put.f t113 15).bind fun bt114 => ((bits_Put.f 1023 10).bind fun bt118 => (if t110.length + bt114.1.length < 17592186044416 then ((stuff_Stuff.f (t110 ++ bt114.1)).bind fun t125 => (if t125.length + bt118.1.length < 17592186044416 then (some (t125 ++ bt118.1)) else (none))) else (none)))) = some r := H
 have A3 := Aside0.mk A30
 clear A30
 replace H := Option.bind_eq_some_iff.mp H
 obtain ⟨⟨t114, t115⟩, A40, H⟩ := H
 replace H : ((bits_Put.f 1023 10).bind fun bt118 => (if t110.length + t114.length < 17592186044416 then ((stuff_Stuff.f (t110 ++ t114)).bind fun t125 => (if t125.length + bt118.1.length < 17592186044416 then (some (t125 ++ bt118.1)) else (none))) else (none))) = some r := H
 have A4 := Aside0.mk A40
 clear A40
 replace H := Option.bind_eq_some_iff.mp H
 obtain ⟨⟨t118, t119⟩, A50, H⟩ := H
 replace H : (if t110.length + t114.length < 17592186044416 then ((stuff_Stuff.f (t110 ++ t114)).bind fun t125 => (if t125.length + t118.length < 17592186044416 then (some (t125 ++ t118)) else (none))) else (none)) = some r := H
 have A5 := Aside0.mk A50
 clear A50
 by_cases c6 : t110.length + t114.length < 17592186044416
 ·rw [if_pos c6] at H
  have LMc6 := Aside0.mk c6
  clear c6
  obtain ⟨y122, hy122⟩ : ∃ y_ : List Int, y_ = (t110 ++ t114) := ⟨_, rfl⟩
  replace H : ((stuff_Stuff.f y122).bind fun t125 => (if t125.length + t118.length < 17592186044416 then (some (t125 ++ t118)) else (none))) = some r := by first | (rw [hy122]; with_reducible exact H) | (have H2_ := (Option.bind_some _ _).symm.trans H; rw [hy122]; with_reducible exact H2_) | (have H2_ := (Option.bind_some _ _).symm.trans H; with_reducible exact H2_) | with_reducible exact H | (rw [hy122]; exact H) | exact H
  have Ny122 := Aside0.mk hy122
  clear hy122
  replace H := Option.bind_eq_some_iff.mp H
  obtain ⟨t125, A70, H⟩ := H
  replace H : (if t125.length + t118.length < 17592186044416 then (some (t125 ++ t118)) else (none)) = some r := H
  have A7 := Aside0.mk A70
  clear A70
  by_cases c8 : t125.length + t118.length < 17592186044416
  ·rw [if_pos c8] at H
   have LMc8 := Aside0.mk c8
   clear c8
   obtain ⟨y128, hy128⟩ : ∃ y_ : List Int, y_ = (t125 ++ t118) := ⟨_, rfl⟩
   replace H : (some y128) = some r := by first | (rw [hy128]; with_reducible exact H) | (have H2_ := (Option.bind_some _ _).symm.trans H; rw [hy128]; with_reducible exact H2_) | (have H2_ := (Option.bind_some _ _).symm.trans H; with_reducible exact H2_) | with_reducible exact H | (rw [hy128]; exact H) | exact H
   have Ny128 := Aside0.mk hy128
   clear hy128
   obtain rfl := Option.some.inj H
   go_enter Try.func13, Try.ntmps13
   go_wp2_with (first | ((with_reducible refine gate_store (t := 26) (p := 1) rfl ?_); refine HW.store_box2 rfl rfl 26 _ _ rfl rfl rfl BK109.out rfl (by kernel_rfl) (by intro q hq; simp only [List.mem_cons, List.not_mem_nil, or_false] at hq; rcases hq with rfl | rfl | rfl | rfl | rfl <;> rfl) ?_; intro w1_ hw1_ hk1_; simp only [List.toList_toArray, World.setCells, Nat.zero_add, Nat.reduceAdd] at hw1_; subst hw1_; have hcb109_0 := (blk_cell hk1_ 0).trans rfl; have hfb109_0 := blk_frozen hk1_ 0; have hcb109_1 := (blk_cell hk1_ 1).trans rfl; have hfb109_1 := blk_frozen hk1_ 1; have hcb109_2 := (blk_cell hk1_ 2).trans rfl; have hfb109_2 := blk_frozen hk1_ 2; have hcb109_3 := (blk_cell hk1_ 3).trans rfl; have hfb109_3 := blk_frozen hk1_ 3; have hcb109_4 := (blk_cell hk1_ 4).trans rfl; have hfb109_4 := blk_frozen hk1_ 4; clear hk1_) | ((with_reducible refine gate_dst (N := 1) rfl ?_); refine box_event ?hg (N := 1) ?hd (cs := #[.bool a0_0, .int .i64 a0_1, .bool a0_2, .int .i64 a0_3, .slice A0_4 l0_4.length c0_4]) (t := 26) ?hr ?_; (case hd => rfl); (case hg => rfl); (case hr => first | (go_simp; done) | (go_simp; rfl)); intro gb109 hg w9 hbox hb; have n0_ := Aside0.mk (below_step (by repeat (first | (with_reducible first | exact HB.out | apply below_alloc | apply pw_below_drewN | apply below_drew1) | exact HB.out)) hb); have n1_ := Aside0.mk (hbox); have n2_ := Aside0.mk ((by rw [hg]; exact (below_size (by repeat (first | (with_reducible first | exact HB.out | apply below_alloc | apply pw_below_drewN | apply below_drew1) | exact HB.out))) : w.heap.size ≤ gb109)); have n3_ := Aside0.mk ((by rw [hg]; exact (below_size (by repeat (first | (with_reducible first | exact HB.out | apply below_alloc | apply pw_below_drewN | apply below_drew1) | exact HB.out))) : w.heap.size ≤ gb109)); clear HB; have HB := n0_; have BK109 := n1_; have GW109 := n2_; have GE109 := n3_; clear n0_ n1_ n2_ n3_; clear hb hbox hg; have hcz10_0 : w9.cell? ⟨gb109, 0, none⟩ = some (.bool a0_0) := (blk_cell BK109.out 0).trans rfl; have hcz10_1 : w9.cell? ⟨gb109, 1, none⟩ = some (.int .i64 a0_1) := (blk_cell BK109.out 1).trans rfl; have hcz10_2 : w9.cell? ⟨gb109, 2, none⟩ = some (.bool a0_2) := (blk_cell BK109.out 2).trans rfl; have hcz10_3 : w9.cell? ⟨gb109, 3, none⟩ = some (.int .i64 a0_3) := (blk_cell BK109.out 3).trans rfl; have hcz10_4 : w9.cell? ⟨gb109, 4, none⟩ = some (.slice A0_4 l0_4.length c0_4) := (blk_cell BK109.out 4).trans rfl; have hfz10_0 := blk_frozen BK109.out 0; have hfz10_1 := blk_frozen BK109.out 1; have hfz10_2 := blk_frozen BK109.out 2; have hfz10_3 := blk_frozen BK109.out 3; have hfz10_4 := blk_frozen BK109.out 4) | ((with_reducible refine gate_callee (f := 17) rfl ?_); refine goesL_ (some 9) rfl rfl Try.func17 (by kernel_rfl) rfl #[.agg #[.bool a0_0, .int .i64 a0_1, .bool a0_2, .int .i64 a0_3, .slice A0_4 l0_4.length c0_4]] rfl (by (try simp only [List.map_toArray, List.map_cons, List.map_nil]); first | done | rfl | (simp only [List.length_drop, List.length_take]; rfl)) ?_; (with_reducible refine (frame_Head.calls a0_0 a0_1 a0_2 a0_3 _ _ l0_4 t110 _ ?side1 ?side2 A2.out).mono ?_); (case side1 => repeat (first | exact (Kd.C_below HR0_4.out HB.out) | (with_reducible refine Kd.C_alloc ?_ _) | (with_reducible refine Kd.C_drewN ?_ _) | (with_reducible refine Kd.C_drew ?_))); (case side2 => exact HC0_4.out); rintro e w11 ⟨v111, rfl, ho0, hb⟩; refine ⟨_, rfl, ?_⟩; have n0_ := Aside0.mk (Kd.R_lower ho0 (below_size (by repeat (first | (with_reducible first | exact HB.out | apply below_alloc | apply pw_below_drewN | apply below_drew1 | refine below_set ?_ GE109.out) | exact HB.out)))); have n1_ := Aside0.mk (blk_below (g := gb109) (o := .cells #[.bool a0_0, .int .i64 a0_1, .bool a0_2, .int .i64 a0_3, .slice A0_4 l0_4.length c0_4] 26 (0, 0)) (by (with_reducible repeat (first | refine blk_drewN ?_ _ | refine blk_drew ?_ | refine blk_alloc ?_ _)); exact BK109.out) hb); have n2_ := Aside0.mk (below_step (by repeat (first | (with_reducible first | exact HB.out | apply below_alloc | apply pw_below_drewN | apply below_drew1 | refine below_set ?_ GE109.out) | exact HB.out)) hb); clear BK109; clear HB; have HO112 := n0_; have BK109 := n1_; have HB := n2_; clear n0_ n1_ n2_; (try clear hb); (try clear hb2); (try clear hk); (try clear hi); (try clear ho0); obtain ⟨Ao12, co12, eo12⟩ := Kd.R_slice HO112.out; subst eo12) | ((with_reducible refine gate_callee (f := 19) rfl ?_); refine goesL_ (some 12) rfl rfl Try.func19 (by kernel_rfl) rfl #[.slice Ao12 t110.length co12] rfl (by (try simp only [List.map_toArray, List.map_cons, List.map_nil]); first | done | rfl | (simp only [List.length_drop, List.length_take]; rfl)) ?_; (with_reducible refine (crc_Bits.calls _ _ t110 t113 _ ?side1 ?side2 A3.out).mono ?_); (case side1 => repeat (first | exact (Kd.R_reads' HO112.out).2.2 | (with_reducible refine Kd.C_alloc ?_ _) | (with_reducible refine Kd.C_drewN ?_ _) | (with_reducible refine Kd.C_drew ?_))); (case side2 => exact (Kd.R_reads' HO112.out).2.1); rintro e w13 ⟨rfl, hb⟩; refine ⟨_, rfl, ?_⟩; have n0_ := Aside0.mk (Kd.R_below (by (with_reducible repeat (first | apply Kd.R_alloc | apply Kd.R_drewN | apply Kd.R_drew)); exact HO112.out) hb); have n1_ := Aside0.mk (blk_below (g := gb109) (o := .cells #[.bool a0_0, .int .i64 a0_1, .bool a0_2, .int .i64 a0_3, .slice A0_4 l0_4.length c0_4] 26 (0, 0)) (by (with_reducible repeat (first | refine blk_drewN ?_ _ | refine blk_drew ?_ | refine blk_alloc ?_ _)); exact BK109.out) hb); have n2_ := Aside0.mk (below_step (by repeat (first | (with_reducible first | exact HB.out | apply below_alloc | apply pw_below_drewN | apply below_drew1 | refine below_set ?_ GE109.out) | exact HB.out)) hb); clear HO112; clear BK109; clear HB; have HO112 := n0_; have BK109 := n1_; have HB := n2_; clear n0_ n1_ n2_; (try clear hb); (try clear hb2); (try clear hk); (try clear hi)) | ((with_reducible refine gate_callee (f := 26) rfl ?_); refine goesL_ (some 13) rfl rfl Try.func26 (by kernel_rfl) rfl #[.int .i64 t113, .int .i64 15] rfl (by (try simp only [List.map_toArray, List.map_cons, List.map_nil]); first | done | rfl | (simp only [List.length_drop, List.length_take]; rfl)) ?_; (with_reducible refine (bits_Put.calls t113 15 t114 t115 _ A4.out).mono ?_); rintro e w14 ⟨v116, rfl, ho0, hb⟩; refine ⟨_, rfl, ?_⟩; have n0_ := Aside0.mk (Kd.R_elder' (by (with_reducible repeat (first | apply Kd.R_alloc | apply Kd.R_drewN | apply Kd.R_drew)); exact HO112.out) (Kd.R_base ho0) hb); have n1_ := Aside0.mk (Kd.R_lower (Kd.R_new' ho0 (Kd.R_lt (by (with_reducible repeat (first | apply Kd.R_alloc | apply Kd.R_drewN | apply Kd.R_drew)); exact HO112.out))) (below_size (by repeat (first | (with_reducible first | exact HB.out | apply below_alloc | apply pw_below_drewN | apply below_drew1 | refine below_set ?_ GE109.out) | exact HB.out)))); have n2_ := Aside0.mk (blk_below (g := gb109) (o := .cells #[.bool a0_0, .int .i64 a0_1, .bool a0_2, .int .i64 a0_3, .slice A0_4 l0_4.length c0_4] 26 (0, 0)) (by (with_reducible repeat (first | refine blk_drewN ?_ _ | refine blk_drew ?_ | refine blk_alloc ?_ _)); exact BK109.out) hb); have n3_ := Aside0.mk (below_step (by repeat (first | (with_reducible first | exact HB.out | apply below_alloc | apply pw_below_drewN | apply below_drew1 | refine below_set ?_ GE109.out) | exact HB.out)) hb); clear HO112; clear BK109; clear HB; have HO112 := n0_; have HO117 := n1_; have BK109 := n2_; have HB := n3_; clear n0_ n1_ n2_ n3_; (try clear hb); (try clear hb2); (try clear hk); (try clear hi); (try clear ho0)) | ((with_reducible refine gate_callee (f := 26) rfl ?_); refine goesL_ (some 17) rfl rfl Try.func26 (by kernel_rfl) rfl #[.int .i64 1023, .int .i64 10] rfl (by (try simp only [List.map_toArray, List.map_cons, List.map_nil]); first | done | rfl | (simp only [List.length_drop, List.length_take]; rfl)) ?_; (with_reducible refine (bits_Put.calls 1023 10 t118 t119 _ A5.out).mono ?_); rintro e w15 ⟨v120, rfl, ho0, hb⟩; refine ⟨_, rfl, ?_⟩; have n0_ := Aside0.mk (Kd.R_elder' (by (with_reducible repeat (first | apply Kd.R_alloc | apply Kd.R_drewN | apply Kd.R_drew)); exact HO112.out) (Kd.R_base ho0) hb); have n1_ := Aside0.mk (Kd.R_elder' (by (with_reducible repeat (first | apply Kd.R_alloc | apply Kd.R_drewN | apply Kd.R_drew)); exact HO117.out) (Kd.R_base ho0) hb); have n2_ := Aside0.mk (Kd.R_lower (Kd.R_new' (Kd.R_new' ho0 (Kd.R_lt (by (with_reducible repeat (first | apply Kd.R_alloc | apply Kd.R_drewN | apply Kd.R_drew)); exact HO112.out))) (Kd.R_lt (by (with_reducible repeat (first | apply Kd.R_alloc | apply Kd.R_drewN | apply Kd.R_drew)); exact HO117.out))) (below_size (by repeat (first | (with_reducible first | exact HB.out | apply below_alloc | apply pw_below_drewN | apply below_drew1 | refine below_set ?_ GE109.out) | exact HB.out)))); have n3_ := Aside0.mk (blk_below (g := gb109) (o := .cells #[.bool a0_0, .int .i64 a0_1, .bool a0_2, .int .i64 a0_3, .slice A0_4 l0_4.length c0_4] 26 (0, 0)) (by (with_reducible repeat (first | refine blk_drewN ?_ _ | refine blk_drew ?_ | refine blk_alloc ?_ _)); exact BK109.out) hb); have n4_ := Aside0.mk (below_step (by repeat (first | (with_reducible first | exact HB.out | apply below_alloc | apply pw_below_drewN | apply below_drew1 | refine below_set ?_ GE109.out) | exact HB.out)) hb); clear HO112; clear HO117; clear BK109; clear HB; have HO112 := n0_; have HO117 := n1_; have HO121 := n2_; have BK109 := n3_; have HB := n4_; clear n0_ n1_ n2_ n3_ n4_; (try clear hb); (try clear hb2); (try clear hk); (try clear hi); (try clear ho0); obtain ⟨Ao17, co17, eo17⟩ := Kd.R_slice HO117.out; subst eo17) | ((with_reducible refine gate_builtin (b := .append) (xs := #[.tmp 20, .tmp 21]) rfl ?_); at_builtin; refine Kd.R_append_rows (Kd.int .i64) (w0 := w) w.heap.size rfl (.tmp 20) (.tmp 21) 30 3 (.int .i64 0) 8 rfl Try.underlying30 info3 rfl (by decide) (by omega) (.slice Ao12 t110.length co12) t110 t114 _ _ _ (fun k_ => some k_ ≠ (.slice Ao17 t114.length co17 : Value).ownBlock ∧ some k_ ≠ (v120 : Value).ownBlock) (fun _ => False) rfl rfl ?aO ?aR (fun _ _ h => h) (fun _ h => h.elim) ?aF ?aB ?aS ?aL ?_; (case aR => repeat (first | exact (Kd.R_reads' HO117.out).2.2 | (with_reducible refine Kd.C_alloc ?_ _) | (with_reducible refine Kd.C_drewN ?_ _) | (with_reducible refine Kd.C_drew ?_))); (case aB => exact (by repeat (first | (with_reducible first | exact HB.out | apply below_alloc | apply pw_below_drewN | apply below_drew1 | refine below_set ?_ GE109.out) | exact HB.out))); (case aF => exact (fun k_ hk => ⟨Kd.fresh' (Kd.R_lt (by (with_reducible repeat (first | apply Kd.R_alloc | apply Kd.R_drewN | apply Kd.R_drew)); exact HO117.out)) k_ hk, Kd.fresh' (Kd.R_lt (by (with_reducible repeat (first | apply Kd.R_alloc | apply Kd.R_drewN | apply Kd.R_drew)); exact HO121.out)) k_ hk⟩)); (case aO => exact (by (with_reducible repeat (first | apply Kd.R_alloc | apply Kd.R_drewN | apply Kd.R_drew)); exact Kd.R_mono HO112.out (fun k_ hk => by first | exact ⟨hk.1.2, hk.2⟩ | (refine ⟨?_, ?_⟩ <;> first | exact hk.1 | exact hk.2 | exact hk.1.2 | exact hk.2.2 | exact hk.1.1 | exact hk.2.1)))); (case aS => exact (below_size (by repeat (first | (with_reducible first | exact HB.out | apply below_alloc | apply pw_below_drewN | apply below_drew1 | refine below_set ?_ GE109.out) | exact HB.out)))); (case aL => have := LMc6.out; omega); intro v123 w16 ho hb hg hat; rw [← Ny122.out] at ho; have n0_ := Aside0.mk (blk_grown (g := gb109) (o := .cells #[.bool a0_0, .int .i64 a0_1, .bool a0_2, .int .i64 a0_3, .slice A0_4 l0_4.length c0_4] 26 (0, 0)) (by (with_reducible repeat (first | refine blk_drewN ?_ _ | refine blk_drew ?_ | refine blk_alloc ?_ _)); exact BK109.out) hg (Kd.R_ne HO112.out BK109.out (by decide))); have n1_ := Aside0.mk (Kd.R_after (ok := (fun k_ => some k_ ≠ (v120 : Value).ownBlock)) (by (with_reducible repeat (first | apply Kd.R_alloc | apply Kd.R_drewN | apply Kd.R_drew)); exact Kd.R_mono HO117.out (fun _ hk => ⟨hk.2, hk.1.2⟩)) hg hat); have n2_ := Aside0.mk (Kd.R_after (ok := (fun k_ => some k_ ≠ (.slice Ao17 t114.length co17 : Value).ownBlock)) (by (with_reducible repeat (first | apply Kd.R_alloc | apply Kd.R_drewN | apply Kd.R_drew)); exact Kd.R_mono HO121.out (fun _ hk => ⟨hk.2, hk.1.2⟩)) hg hat); have n3_ := Aside0.mk (hb); have n4_ := Aside0.mk (ho); clear BK109; clear HO117; clear HO121; clear HB; clear HO112; have BK109 := n0_; have HO117 := n1_; have HO121 := n2_; have HB := n3_; have HO124 := n4_; clear n0_ n1_ n2_ n3_ n4_; clear ho hb hg hat; obtain ⟨Ao18, co18, eo18⟩ := Kd.R_slice HO124.out; subst eo18) | ((with_reducible refine gate_callee (f := 20) rfl ?_); refine goesL_ (some 23) rfl rfl Try.func20 (by kernel_rfl) rfl #[.slice Ao18 y122.length co18] rfl (by (try simp only [List.map_toArray, List.map_cons, List.map_nil]); first | done | rfl | (simp only [List.length_drop, List.length_take]; rfl)) ?_; (with_reducible refine (stuff_Stuff.calls _ _ y122 t125 _ ?side1 ?side2 A7.out).mono ?_); (case side1 => repeat (first | exact (Kd.R_reads' HO124.out).2.2 | (with_reducible refine Kd.C_alloc ?_ _) | (with_reducible refine Kd.C_drewN ?_ _) | (with_reducible refine Kd.C_drew ?_))); (case side2 => exact (Kd.R_reads' HO124.out).2.1); rintro e w19 ⟨v126, rfl, ho0, hb⟩; refine ⟨_, rfl, ?_⟩; have n0_ := Aside0.mk (Kd.R_elder' (by (with_reducible repeat (first | apply Kd.R_alloc | apply Kd.R_drewN | apply Kd.R_drew)); exact HO117.out) (Kd.R_base ho0) hb); have n1_ := Aside0.mk (Kd.R_elder' (by (with_reducible repeat (first | apply Kd.R_alloc | apply Kd.R_drewN | apply Kd.R_drew)); exact HO121.out) (Kd.R_base ho0) hb); have n2_ := Aside0.mk (Kd.R_elder' (by (with_reducible repeat (first | apply Kd.R_alloc | apply Kd.R_drewN | apply Kd.R_drew)); exact HO124.out) (Kd.R_base ho0) hb); have n3_ := Aside0.mk (Kd.R_lower (Kd.R_new' (Kd.R_new' (Kd.R_new' ho0 (Kd.R_lt (by (with_reducible repeat (first | apply Kd.R_alloc | apply Kd.R_drewN | apply Kd.R_drew)); exact HO117.out))) (Kd.R_lt (by (with_reducible repeat (first | apply Kd.R_alloc | apply Kd.R_drewN | apply Kd.R_drew)); exact HO121.out))) (Kd.R_lt (by (with_reducible repeat (first | apply Kd.R_alloc | apply Kd.R_drewN | apply Kd.R_drew)); exact HO124.out))) (below_size (by repeat (first | (with_reducible first | exact HB.out | apply below_alloc | apply pw_below_drewN | apply below_drew1 | refine below_set ?_ GE109.out) | exact HB.out)))); have n4_ := Aside0.mk (blk_below (g := gb109) (o := .cells #[.bool a0_0, .int .i64 a0_1, .bool a0_2, .int .i64 a0_3, .slice A0_4 l0_4.length c0_4] 26 (0, 0)) (by (with_reducible repeat (first | refine blk_drewN ?_ _ | refine blk_drew ?_ | refine blk_alloc ?_ _)); exact BK109.out) hb); have n5_ := Aside0.mk (below_step (by repeat (first | (with_reducible first | exact HB.out | apply below_alloc | apply pw_below_drewN | apply below_drew1 | refine below_set ?_ GE109.out) | exact HB.out)) hb); clear HO117; clear HO121; clear HO124; clear BK109; clear HB; have HO117 := n0_; have HO121 := n1_; have HO124 := n2_; have HO127 := n3_; have BK109 := n4_; have HB := n5_; clear n0_ n1_ n2_ n3_ n4_ n5_; (try clear hb); (try clear hb2); (try clear hk); (try clear hi); (try clear ho0); obtain ⟨Ao21, co21, eo21⟩ := Kd.R_slice HO121.out; subst eo21) | ((with_reducible refine gate_builtin (b := .append) (xs := #[.tmp 23, .tmp 24]) rfl ?_); at_builtin; refine Kd.R_append_rows (Kd.int .i64) (w0 := w) w.heap.size rfl (.tmp 23) (.tmp 24) 30 3 (.int .i64 0) 8 rfl Try.underlying30 info3 rfl (by decide) (by omega) v126 t125 t118 _ _ _ (fun k_ => some k_ ≠ (.slice Ao17 t114.length co17 : Value).ownBlock ∧ some k_ ≠ (.slice Ao21 t118.length co21 : Value).ownBlock ∧ some k_ ≠ (.slice Ao18 y122.length co18 : Value).ownBlock) (fun _ => False) rfl rfl ?aO ?aR (fun _ _ h => h) (fun _ h => h.elim) ?aF ?aB ?aS ?aL ?_; (case aR => repeat (first | exact (Kd.R_reads' HO121.out).2.2 | (with_reducible refine Kd.C_alloc ?_ _) | (with_reducible refine Kd.C_drewN ?_ _) | (with_reducible refine Kd.C_drew ?_))); (case aB => exact (by repeat (first | (with_reducible first | exact HB.out | apply below_alloc | apply pw_below_drewN | apply below_drew1 | refine below_set ?_ GE109.out) | exact HB.out))); (case aF => exact (fun k_ hk => ⟨Kd.fresh' (Kd.R_lt (by (with_reducible repeat (first | apply Kd.R_alloc | apply Kd.R_drewN | apply Kd.R_drew)); exact HO117.out)) k_ hk, Kd.fresh' (Kd.R_lt (by (with_reducible repeat (first | apply Kd.R_alloc | apply Kd.R_drewN | apply Kd.R_drew)); exact HO121.out)) k_ hk, Kd.fresh' (Kd.R_lt (by (with_reducible repeat (first | apply Kd.R_alloc | apply Kd.R_drewN | apply Kd.R_drew)); exact HO124.out)) k_ hk⟩)); (case aO => exact (by (with_reducible repeat (first | apply Kd.R_alloc | apply Kd.R_drewN | apply Kd.R_drew)); exact Kd.R_mono HO127.out (fun _ hk => ⟨hk.1.1.2, ⟨hk.1.2, hk.2⟩⟩))); (case aS => exact (below_size (by repeat (first | (with_reducible first | exact HB.out | apply below_alloc | apply pw_below_drewN | apply below_drew1 | refine below_set ?_ GE109.out) | exact HB.out)))); (case aL => have := LMc8.out; omega); intro v129 w20 ho hb hg hat; rw [← Ny128.out] at ho; have n0_ := Aside0.mk (blk_grown (g := gb109) (o := .cells #[.bool a0_0, .int .i64 a0_1, .bool a0_2, .int .i64 a0_3, .slice A0_4 l0_4.length c0_4] 26 (0, 0)) (by (with_reducible repeat (first | refine blk_drewN ?_ _ | refine blk_drew ?_ | refine blk_alloc ?_ _)); exact BK109.out) hg (Kd.R_ne HO127.out BK109.out (by decide))); have n1_ := Aside0.mk (Kd.R_after (ok := (fun k_ => some k_ ≠ (.slice Ao21 t118.length co21 : Value).ownBlock ∧ some k_ ≠ (.slice Ao18 y122.length co18 : Value).ownBlock)) (by (with_reducible repeat (first | apply Kd.R_alloc | apply Kd.R_drewN | apply Kd.R_drew)); exact HO117.out) hg hat); have n2_ := Aside0.mk (Kd.R_after (ok := (fun k_ => some k_ ≠ (.slice Ao17 t114.length co17 : Value).ownBlock ∧ some k_ ≠ (.slice Ao18 y122.length co18 : Value).ownBlock)) (by (with_reducible repeat (first | apply Kd.R_alloc | apply Kd.R_drewN | apply Kd.R_drew)); exact HO121.out) hg hat); have n3_ := Aside0.mk (Kd.R_after (ok := (fun k_ => some k_ ≠ (.slice Ao17 t114.length co17 : Value).ownBlock ∧ some k_ ≠ (.slice Ao21 t118.length co21 : Value).ownBlock)) (by (with_reducible repeat (first | apply Kd.R_alloc | apply Kd.R_drewN | apply Kd.R_drew)); exact HO124.out) hg hat); have n4_ := Aside0.mk (hb); have n5_ := Aside0.mk (ho); clear BK109; clear HO117; clear HO121; clear HO124; clear HB; clear HO127; have BK109 := n0_; have HO117 := n1_; have HO121 := n2_; have HO124 := n3_; have HB := n4_; have HO130 := n5_; clear n0_ n1_ n2_ n3_ n4_ n5_; clear ho hb hg hat))
   go_ret
   exact ⟨_, by first | rfl | (simp [errW_none, errW_some] <;> rfl) | (simp [*, errW_none, errW_some] <;> rfl), by (with_reducible repeat (first | apply Kd.R_alloc | apply Kd.R_drewN | apply Kd.R_drew)); exact Kd.R_mono HO130.out (fun _ hk => trivial), by repeat (first | (with_reducible first | exact HB.out | apply below_alloc | apply pw_below_drewN | apply below_drew1 | refine below_set ?_ GE109.out) | exact HB.out)⟩
  ·rw [if_neg c8] at H
   exact absurd H (by simp)
 ·rw [if_neg c6] at H
  exact absurd H (by simp)

/-! ### phaetontop_head06: function 6 -/
def phaetontop_head06.f (k : Nat)  : Option (Bool) := (some (([128] : List Int) : List Int)).bind fun y131 => ((wire_Bits.f false 1 false 1 y131).bind fun t135 => ((frame_Head.f false 1 false 1 y131).bind fun t138 => (if (t138.length : Int) = 27 then (if (t135.length : Int) > 52 then ((arb_Win.f (([(⟨false, 3, false, 0, ([] : List Int)⟩ : S26), (⟨false, 1, false, 1, y131⟩ : S26)] : List (S26)))).bind fun t144 => (if t144 = 1 then ((arb_And.f k (([1, 0] : List Int))).bind fun t148 => (if t148 = 0 then ((stuff_Stuff.f (([0, 0, 0, 0, 0] : List Int))).bind fun t152 => (if (t152.length : Int) = 6 then ((bits_Spread.f (([1] : List Int))).bind fun t158 => (if (t158.length : Int) = 8 then ((crc_Bits.f (([1] : List Int))).bind fun t164 => (if t164 = 17817 then (some true) else (none))) else (none))) else (none))) else (none))) else (none))) else (none)) else (none))))
theorem phaetontop_head06.mono : ∀ k, LeO (phaetontop_head06.f k ) (phaetontop_head06.f (k + 1) ) := by
 intro  k
 unfold phaetontop_head06.f
 repeat' first
   | (with_reducible exact arb_And.mono _ _)
   | (with_reducible exact LeO.refl _)
   | (with_reducible exact LeO.none _)
   | (with_reducible refine LeO.ite ?_ ?_)
   | (with_reducible refine LeO.bind ?_ (fun _ => ?_))
   | exact arb_And.mono _ _
   | exact LeO.none _
   | refine LeO.ite ?_ ?_
   | refine LeO.bind ?_ (fun _ => ?_)
set_option maxHeartbeats 8000000 in
set_option maxRecDepth 100000 in
theorem phaetontop_head06.calls (k : Nat)  (r : Bool) (w : World) (h : phaetontop_head06.f k  = some r) :
  Calls Try.prog 6 #[] w fun e w' => e = .returned (.bool r) ∧ Below w.heap.size w w' := by
 have hu26 := Try.underlying26
 have HB := Aside0.mk (Below.refl w.heap.size w)
 have H : ((some (([128] : List Int) : List Int)).bind fun y131 => ((wire_Bits.f false 1 false 1 y131).bind fun t135 => ((frame_Head.f false 1 false 1 y131).bind fun t138 => (if (t138.length : Int) = 27 then (if (t135.length : Int) > 52 then ((arb_Win.f (([(⟨false, 3, false, 0, ([] : List Int)⟩ : S26), (⟨false, 1, false, 1, y131⟩ : S26)] : List (S26)))).bind fun t144 => (if t144 = 1 then ((arb_And.f k (([1, 0] : List Int))).bind fun t148 => (if t148 = 0 then ((stuff_Stuff.f (([0, 0, 0, 0, 0] : List Int))).bind fun t152 => (if (t152.length : Int) = 6 then ((bits_Spread.f (([1] : List Int))).bind fun t158 => (if (t158.length : Int) = 8 then ((crc_Bits.f (([1] : List Int))).bind fun t164 => (if t164 = 17817 then (some true) else (none))) else (none))) else (none))) else (none))) else (none))) else (none)) else (none))))) = some r := h
 clear h
 obtain ⟨y131, hy131⟩ : ∃ y_ : List Int, y_ = (([128] : List Int)) := ⟨_, rfl⟩
 replace H : ((wire_Bits.f false 1 false 1 y131).bind fun t135 => ((frame_Head.f false 1 false 1 y131).bind fun t138 => (if (t138.length : Int) = 27 then (if (t135.length : Int) > 52 then ((arb_Win.f (([(⟨false, 3, false, 0, ([] : List Int)⟩ : S26), (⟨false, 1, false, 1, y131⟩ : S26)] : List (S26)))).bind fun t144 => (if t144 = 1 then ((arb_And.f k (([1, 0] : List Int))).bind fun t148 => (if t148 = 0 then ((stuff_Stuff.f (([0, 0, 0, 0, 0] : List Int))).bind fun t152 => (if (t152.length : Int) = 6 then ((bits_Spread.f (([1] : List Int))).bind fun t158 => (if (t158.length : Int) = 8 then ((crc_Bits.f (([1] : List Int))).bind fun t164 => (if t164 = 17817 then (some true) else (none))) else (none))) else (none))) else (none))) else (none))) else (none)) else (none)))) = some r := by first | (rw [hy131]; with_reducible exact H) | (have H2_ := (Option.bind_some _ _).symm.trans H; rw [hy131]; with_reducible exact H2_) | (have H2_ := (Option.bind_some _ _).symm.trans H; with_reducible exact H2_) | with_reducible exact H | (rw [hy131]; exact H) | exact H
 have Ny131 := Aside0.mk hy131
 clear hy131
 replace H := Option.bind_eq_some_iff.mp H
 obtain ⟨t135, A10, H⟩ := H
 replace H : ((frame_Head.f false 1 false 1 y131).bind fun t138 => (if (t138.length : Int) = 27 then (if (t135.length : Int) > 52 then ((arb_Win.f (([(⟨false, 3, false, 0, ([] : List Int)⟩ : S26), (⟨false, 1, false, 1, y131⟩ : S26)] : List (S26)))).bind fun t144 => (if t144 = 1 then ((arb_And.f k (([1, 0] : List Int))).bind fun t148 => (if t148 = 0 then ((stuff_Stuff.f (([0, 0, 0, 0, 0] : List Int))).bind fun t152 => (if (t152.length : Int) = 6 then ((bits_Spread.f (([1] : List Int))).bind fun t158 => (if (t158.length : Int) = 8 then ((crc_Bits.f (([1] : List Int))).bind fun t164 => (if t164 = 17817 then (some true) else (none))) else (none))) else (none))) else (none))) else (none))) else (none)) else (none))) = some r := H
 have A1 := Aside0.mk A10
 clear A10
 replace H := Option.bind_eq_some_iff.mp H
 obtain ⟨t138, A20, H⟩ := H
 replace H : (if (t138.length : Int) = 27 then (if (t135.length : Int) > 52 then ((arb_Win.f (([(⟨false, 3, false, 0, ([] : List Int)⟩ : S26), (⟨false, 1, false, 1, y131⟩ : S26)] : List (S26)))).bind fun t144 => (if t144 = 1 then ((arb_And.f k (([1, 0] : List Int))).bind fun t148 => (if t148 = 0 then ((stuff_Stuff.f (([0, 0, 0, 0, 0] : List Int))).bind fun t152 => (if (t152.length : Int) = 6 then ((bits_Spread.f (([1] : List Int))).bind fun t158 => (if (t158.length : Int) = 8 then ((crc_Bits.f (([1] : List Int))).bind fun t164 => (if t164 = 17817 then (some true) else (none))) else (none))) else (none))) else (none))) else (none))) else (none)) else (none)) = some r := H
 have A2 := Aside0.mk A20
 clear A20
 by_cases c3 : (t138.length : Int) = 27
 ·rw [if_pos c3] at H
  have c3b0 : ((t138.length : Int) == 27) = true := beq_iff_eq.mpr c3
  have c3b1 : ((t138.length : Int) != 27) = false := bne_eq_false_iff_eq.mpr c3
  clear c3
  by_cases c4 : (t135.length : Int) > 52
  ·rw [if_pos c4] at H
   have c4b0 : decide (52 < (t135.length : Int)) = true := decide_eq_true c4
   have c4b1 : decide (52 < t135.length) = true := decide_eq_true (by omega)
   clear c4
   obtain ⟨y141, hy141⟩ : ∃ y_ : List (S26), y_ = (([(⟨false, 3, false, 0, ([] : List Int)⟩ : S26), (⟨false, 1, false, 1, y131⟩ : S26)] : List (S26))) := ⟨_, rfl⟩
   replace H : ((arb_Win.f y141).bind fun t144 => (if t144 = 1 then ((arb_And.f k (([1, 0] : List Int))).bind fun t148 => (if t148 = 0 then ((stuff_Stuff.f (([0, 0, 0, 0, 0] : List Int))).bind fun t152 => (if (t152.length : Int) = 6 then ((bits_Spread.f (([1] : List Int))).bind fun t158 => (if (t158.length : Int) = 8 then ((crc_Bits.f (([1] : List Int))).bind fun t164 => (if t164 = 17817 then (some true) else (none))) else (none))) else (none))) else (none))) else (none))) = some r := by first | (rw [hy141]; with_reducible exact H) | (have H2_ := (Option.bind_some _ _).symm.trans H; rw [hy141]; with_reducible exact H2_) | (have H2_ := (Option.bind_some _ _).symm.trans H; with_reducible exact H2_) | with_reducible exact H | (rw [hy141]; exact H) | exact H
   have Ny141 := Aside0.mk hy141
   clear hy141
   replace H := Option.bind_eq_some_iff.mp H
   obtain ⟨t144, A50, H⟩ := H
   replace H : (if t144 = 1 then ((arb_And.f k (([1, 0] : List Int))).bind fun t148 => (if t148 = 0 then ((stuff_Stuff.f (([0, 0, 0, 0, 0] : List Int))).bind fun t152 => (if (t152.length : Int) = 6 then ((bits_Spread.f (([1] : List Int))).bind fun t158 => (if (t158.length : Int) = 8 then ((crc_Bits.f (([1] : List Int))).bind fun t164 => (if t164 = 17817 then (some true) else (none))) else (none))) else (none))) else (none))) else (none)) = some r := H
   have A5 := Aside0.mk A50
   clear A50
   by_cases c6 : t144 = 1
   ·rw [if_pos c6] at H
    have c6b0 : (t144 == 1) = true := beq_iff_eq.mpr c6
    have c6b1 : (t144 != 1) = false := bne_eq_false_iff_eq.mpr c6
    clear c6
    obtain ⟨y145, hy145⟩ : ∃ y_ : List Int, y_ = (([1, 0] : List Int)) := ⟨_, rfl⟩
    replace H : ((arb_And.f k y145).bind fun t148 => (if t148 = 0 then ((stuff_Stuff.f (([0, 0, 0, 0, 0] : List Int))).bind fun t152 => (if (t152.length : Int) = 6 then ((bits_Spread.f (([1] : List Int))).bind fun t158 => (if (t158.length : Int) = 8 then ((crc_Bits.f (([1] : List Int))).bind fun t164 => (if t164 = 17817 then (some true) else (none))) else (none))) else (none))) else (none))) = some r := by first | (rw [hy145]; with_reducible exact H) | (have H2_ := (Option.bind_some _ _).symm.trans H; rw [hy145]; with_reducible exact H2_) | (have H2_ := (Option.bind_some _ _).symm.trans H; with_reducible exact H2_) | with_reducible exact H | (rw [hy145]; exact H) | exact H
    have Ny145 := Aside0.mk hy145
    clear hy145
    replace H := Option.bind_eq_some_iff.mp H
    obtain ⟨t148, A70, H⟩ := H
    replace H : (if t148 = 0 then ((stuff_Stuff.f (([0, 0, 0, 0, 0] : List Int))).bind fun t152 => (if (t152.length : Int) = 6 then ((bits_Spread.f (([1] : List Int))).bind fun t158 => (if (t158.length : Int) = 8 then ((crc_Bits.f (([1] : List Int))).bind fun t164 => (if t164 = 17817 then (some true) else (none))) else (none))) else (none))) else (none)) = some r := H
    have A7 := Aside0.mk A70
    clear A70
    by_cases c8 : t148 = 0
    ·rw [if_pos c8] at H
     have c8b0 : (t148 == 0) = true := beq_iff_eq.mpr c8
     have c8b1 : (t148 != 0) = false := bne_eq_false_iff_eq.mpr c8
     clear c8
     obtain ⟨y149, hy149⟩ : ∃ y_ : List Int, y_ = (([0, 0, 0, 0, 0] : List Int)) := ⟨_, rfl⟩
     replace H : ((stuff_Stuff.f y149).bind fun t152 => (if (t152.length : Int) = 6 then ((bits_Spread.f (([1] : List Int))).bind fun t158 => (if (t158.length : Int) = 8 then ((crc_Bits.f (([1] : List Int))).bind fun t164 => (if t164 = 17817 then (some true) else (none))) else (none))) else (none))) = some r := by first | (rw [hy149]; with_reducible exact H) | (have H2_ := (Option.bind_some _ _).symm.trans H; rw [hy149]; with_reducible exact H2_) | (have H2_ := (Option.bind_some _ _).symm.trans H; with_reducible exact H2_) | with_reducible exact H | (rw [hy149]; exact H) | exact H
     have Ny149 := Aside0.mk hy149
     clear hy149
     replace H := Option.bind_eq_some_iff.mp H
     obtain ⟨t152, A90, H⟩ := H
     replace H : (if (t152.length : Int) = 6 then ((bits_Spread.f (([1] : List Int))).bind fun t158 => (if (t158.length : Int) = 8 then ((crc_Bits.f (([1] : List Int))).bind fun t164 => (if t164 = 17817 then (some true) else (none))) else (none))) else (none)) = some r := H
     have A9 := Aside0.mk A90
     clear A90
     by_cases c10 : (t152.length : Int) = 6
     ·rw [if_pos c10] at H
      have c10b0 : ((t152.length : Int) == 6) = true := beq_iff_eq.mpr c10
      have c10b1 : ((t152.length : Int) != 6) = false := bne_eq_false_iff_eq.mpr c10
      clear c10
      obtain ⟨y155, hy155⟩ : ∃ y_ : List Int, y_ = (([1] : List Int)) := ⟨_, rfl⟩
      replace H : ((bits_Spread.f y155).bind fun t158 => (if (t158.length : Int) = 8 then ((crc_Bits.f (([1] : List Int))).bind fun t164 => (if t164 = 17817 then (some true) else (none))) else (none))) = some r := by first | (rw [hy155]; with_reducible exact H) | (have H2_ := (Option.bind_some _ _).symm.trans H; rw [hy155]; with_reducible exact H2_) | (have H2_ := (Option.bind_some _ _).symm.trans H; with_reducible exact H2_) | with_reducible exact H | (rw [hy155]; exact H) | exact H
      have Ny155 := Aside0.mk hy155
      clear hy155
      replace H := Option.bind_eq_some_iff.mp H
      obtain ⟨t158, A110, H⟩ := H
      replace H : (if (t158.length : Int) = 8 then ((crc_Bits.f (([1] : List Int))).bind fun t164 => (if t164 = 17817 then (some true) else (none))) else (none)) = some r := H
      have A11 := Aside0.mk A110
      clear A110
      by_cases c12 : (t158.length : Int) = 8
      ·rw [if_pos c12] at H
       have c12b0 : ((t158.length : Int) == 8) = true := beq_iff_eq.mpr c12
       have c12b1 : ((t158.length : Int) != 8) = false := bne_eq_false_iff_eq.mpr c12
       clear c12
       obtain ⟨y161, hy161⟩ : ∃ y_ : List Int, y_ = (([1] : List Int)) := ⟨_, rfl⟩
       replace H : ((crc_Bits.f y161).bind fun t164 => (if t164 = 17817 then (some true) else (none))) = some r := by first | (rw [hy161]; with_reducible exact H) | (have H2_ := (Option.bind_some _ _).symm.trans H; rw [hy161]; with_reducible exact H2_) | (have H2_ := (Option.bind_some _ _).symm.trans H; with_reducible exact H2_) | with_reducible exact H | (rw [hy161]; exact H) | exact H
       have Ny161 := Aside0.mk hy161
       clear hy161
       replace H := Option.bind_eq_some_iff.mp H
       obtain ⟨t164, A130, H⟩ := H
       replace H : (if t164 = 17817 then (some true) else (none)) = some r := H
       have A13 := Aside0.mk A130
       clear A130
       by_cases c14 : t164 = 17817
       ·rw [if_pos c14] at H
        have c14b0 : (t164 == 17817) = true := beq_iff_eq.mpr c14
        have c14b1 : (t164 != 17817) = false := bne_eq_false_iff_eq.mpr c14
        clear c14
        obtain rfl := Option.some.inj H
        go_enter Try.func6, Try.ntmps6
        (try simp only [List.append])
        go_wp2_with (first | ((with_reducible refine gate_store (t := 26) (p := 1) rfl ?_); refine HW.store_box2 rfl rfl 26 _ _ rfl rfl rfl BK134.out rfl (by kernel_rfl) (by intro q hq; simp only [List.mem_cons, List.not_mem_nil, or_false] at hq; rcases hq with rfl | rfl | rfl | rfl | rfl <;> rfl) ?_; intro w1_ hw1_ hk1_; simp only [List.toList_toArray, World.setCells, Nat.zero_add, Nat.reduceAdd] at hw1_; subst hw1_; have hcb134_0 := (blk_cell hk1_ 0).trans rfl; have hfb134_0 := blk_frozen hk1_ 0; have hcb134_1 := (blk_cell hk1_ 1).trans rfl; have hfb134_1 := blk_frozen hk1_ 1; have hcb134_2 := (blk_cell hk1_ 2).trans rfl; have hfb134_2 := blk_frozen hk1_ 2; have hcb134_3 := (blk_cell hk1_ 3).trans rfl; have hfb134_3 := blk_frozen hk1_ 3; have hcb134_4 := (blk_cell hk1_ 4).trans rfl; have hfb134_4 := blk_frozen hk1_ 4; clear hk1_) | ((with_reducible refine gate_dst (N := 3) rfl ?_); (try (refine gate_guard (by rfl) ?_; dsimp only)); refine Kd.R_lit (Kd.int .u8) _ 5 ?hg (N := 3) ?hd (xs := ([128] : List Int)) (inner := [.int .u8 128]) (ok := fun _ => True) (okp := fun _ => True) ?hr ?hp (fun _ hk => hk) trivial (Below.refl _ _) (Nat.le_refl _) (by simp) ?_; (case hd => rfl); (case hg => rfl); (case hr => first | (go_simp; done) | (go_simp; rfl)); (case hp => exact (Reps.one (show Kd.M (Kd.int .u8) _ _ _ 128 [.int .u8 128] from rfl) (Reps.none _ _))); intro v132 w15 ho16 hb hg_ hnew_; clear hg_ hnew_; (first | rw [← Ny131.out] at ho16 | (simp only [Int.reduceToNat] at ho16; rw [← Ny131.out] at ho16)); have n0_ := Aside0.mk (Kd.R_lower ho16 (below_size (by repeat (first | (with_reducible first | exact HB.out | apply below_alloc | apply pw_below_drewN | apply below_drew1) | exact HB.out)))); have n1_ := Aside0.mk (below_step (by repeat (first | (with_reducible first | exact HB.out | apply below_alloc | apply pw_below_drewN | apply below_drew1) | exact HB.out)) hb); clear HB; have HO133 := n0_; have HB := n1_; clear n0_ n1_; clear hb ho16; obtain ⟨Ao17, co17, eo17⟩ := Kd.R_slice HO133.out; subst eo17) | ((with_reducible refine gate_dst (N := 1) rfl ?_); (try (refine gate_guard (by rfl) ?_; dsimp only)); refine box_event ?hg (N := 1) ?hd (cs := #[.bool false, .int .i64 0, .bool false, .int .i64 0, .slice none 0 0]) (t := 26) ?hr ?_; (case hd => rfl); (case hg => rfl); (case hr => first | (go_simp; done) | (go_simp; rfl)); intro gb134 hg w18 hbox hb; have n0_ := Aside0.mk (Kd.R_below (by (with_reducible repeat (first | apply Kd.R_alloc | apply Kd.R_drewN | apply Kd.R_drew)); exact HO133.out) hb); have n1_ := Aside0.mk (below_step (by repeat (first | (with_reducible first | exact HB.out | apply below_alloc | apply pw_below_drewN | apply below_drew1) | exact HB.out)) hb); have n2_ := Aside0.mk (hbox); have n3_ := Aside0.mk ((by rw [hg]; exact (below_size (by repeat (first | (with_reducible first | exact HB.out | apply below_alloc | apply pw_below_drewN | apply below_drew1) | exact HB.out))) : w.heap.size ≤ gb134)); have n4_ := Aside0.mk ((by rw [hg]; exact (below_size (by repeat (first | (with_reducible first | exact HB.out | apply below_alloc | apply pw_below_drewN | apply below_drew1) | exact HB.out))) : w.heap.size ≤ gb134)); clear HO133; clear HB; have HO133 := n0_; have HB := n1_; have BK134 := n2_; have GW134 := n3_; have GE134 := n4_; clear n0_ n1_ n2_ n3_ n4_; clear hb hbox hg; have hcz19_0 : w18.cell? ⟨gb134, 0, none⟩ = some (.bool false) := (blk_cell BK134.out 0).trans rfl; have hcz19_1 : w18.cell? ⟨gb134, 1, none⟩ = some (.int .i64 0) := (blk_cell BK134.out 1).trans rfl; have hcz19_2 : w18.cell? ⟨gb134, 2, none⟩ = some (.bool false) := (blk_cell BK134.out 2).trans rfl; have hcz19_3 : w18.cell? ⟨gb134, 3, none⟩ = some (.int .i64 0) := (blk_cell BK134.out 3).trans rfl; have hcz19_4 : w18.cell? ⟨gb134, 4, none⟩ = some (.slice none 0 0) := (blk_cell BK134.out 4).trans rfl; have hfz19_0 := blk_frozen BK134.out 0; have hfz19_1 := blk_frozen BK134.out 1; have hfz19_2 := blk_frozen BK134.out 2; have hfz19_3 := blk_frozen BK134.out 3; have hfz19_4 := blk_frozen BK134.out 4) | ((with_reducible refine gate_callee (f := 13) rfl ?_); refine goesL_ (some 6) rfl rfl Try.func13 (by kernel_rfl) rfl #[.agg #[.bool false, .int .i64 1, .bool false, .int .i64 1, .slice Ao17 y131.length co17]] rfl (by (try simp only [List.map_toArray, List.map_cons, List.map_nil]); first | done | rfl | (simp only [List.length_drop, List.length_take]; rfl)) ?_; (with_reducible refine (wire_Bits.calls false 1 false 1 _ _ y131 t135 _ ?side1 ?side2 A1.out).mono ?_); (case side1 => refine (Kd.R_reads' (e := 5) (base := w.heap.size) (ok := fun k_ => True) (n := y131.length) (c := co17) ?_).2.2; exact (by (with_reducible repeat (first | apply Kd.R_alloc | apply Kd.R_drewN | apply Kd.R_drew)); exact (HW.R_far5 HO133.out BK134.out (by decide)))); (case side2 => exact (Kd.R_reads' HO133.out).2.1); rintro e w20 ⟨v136, rfl, ho0, hb⟩; refine ⟨_, rfl, ?_⟩; have n0_ := Aside0.mk (Kd.R_below (by (with_reducible repeat (first | apply Kd.R_alloc | apply Kd.R_drewN | apply Kd.R_drew)); exact (HW.R_far5 HO133.out BK134.out (by decide))) hb); have n1_ := Aside0.mk (Kd.R_lower ho0 (below_size (by repeat (first | (with_reducible first | exact HB.out | apply below_alloc | apply pw_below_drewN | apply below_drew1 | refine below_set ?_ GE134.out) | exact HB.out)))); have n2_ := Aside0.mk (blk_below (g := gb134) (o := .cells #[.bool false, .int .i64 1, .bool false, .int .i64 1, .slice Ao17 y131.length co17] 26 (0, 0)) (by (with_reducible repeat (first | refine blk_drewN ?_ _ | refine blk_drew ?_ | refine blk_alloc ?_ _)); refine HW.blk_put5 (cs := #[.bool false, .int .i64 0, .bool false, .int .i64 0, .slice none 0 0]) ?_ rfl; (with_reducible repeat (first | refine blk_drewN ?_ _ | refine blk_drew ?_ | refine blk_alloc ?_ _)); exact BK134.out) hb); have n3_ := Aside0.mk (below_step (by repeat (first | (with_reducible first | exact HB.out | apply below_alloc | apply pw_below_drewN | apply below_drew1 | refine below_set ?_ GE134.out) | exact HB.out)) hb); clear HO133; clear BK134; clear HB; have HO133 := n0_; have HO137 := n1_; have BK134 := n2_; have HB := n3_; clear n0_ n1_ n2_ n3_; (try clear hb); (try clear hb2); (try clear hk); (try clear hi); (try clear ho0); have hcz21_0 : w20.cell? ⟨gb134, 0, none⟩ = some (.bool false) := (blk_cell BK134.out 0).trans rfl; have hcz21_1 : w20.cell? ⟨gb134, 1, none⟩ = some (.int .i64 1) := (blk_cell BK134.out 1).trans rfl; have hcz21_2 : w20.cell? ⟨gb134, 2, none⟩ = some (.bool false) := (blk_cell BK134.out 2).trans rfl; have hcz21_3 : w20.cell? ⟨gb134, 3, none⟩ = some (.int .i64 1) := (blk_cell BK134.out 3).trans rfl; have hcz21_4 : w20.cell? ⟨gb134, 4, none⟩ = some (.slice Ao17 y131.length co17) := (blk_cell BK134.out 4).trans rfl; have hfz21_0 := blk_frozen BK134.out 0; have hfz21_1 := blk_frozen BK134.out 1; have hfz21_2 := blk_frozen BK134.out 2; have hfz21_3 := blk_frozen BK134.out 3; have hfz21_4 := blk_frozen BK134.out 4) | ((with_reducible refine gate_callee (f := 17) rfl ?_); refine goesL_ (some 8) rfl rfl Try.func17 (by kernel_rfl) rfl #[.agg #[.bool false, .int .i64 1, .bool false, .int .i64 1, .slice Ao17 y131.length co17]] rfl (by (try simp only [List.map_toArray, List.map_cons, List.map_nil]); first | done | rfl | (simp only [List.length_drop, List.length_take]; rfl)) ?_; (with_reducible refine (frame_Head.calls false 1 false 1 _ _ y131 t138 _ ?side1 ?side2 A2.out).mono ?_); (case side1 => repeat (first | exact (Kd.R_reads' HO133.out).2.2 | (with_reducible refine Kd.C_alloc ?_ _) | (with_reducible refine Kd.C_drewN ?_ _) | (with_reducible refine Kd.C_drew ?_))); (case side2 => exact (Kd.R_reads' HO133.out).2.1); rintro e w22 ⟨v139, rfl, ho0, hb⟩; refine ⟨_, rfl, ?_⟩; have n0_ := Aside0.mk (Kd.R_below (by (with_reducible repeat (first | apply Kd.R_alloc | apply Kd.R_drewN | apply Kd.R_drew)); exact HO133.out) hb); have n1_ := Aside0.mk (Kd.R_elder' (by (with_reducible repeat (first | apply Kd.R_alloc | apply Kd.R_drewN | apply Kd.R_drew)); exact HO137.out) (Kd.R_base ho0) hb); have n2_ := Aside0.mk (Kd.R_lower (Kd.R_new' ho0 (Kd.R_lt (by (with_reducible repeat (first | apply Kd.R_alloc | apply Kd.R_drewN | apply Kd.R_drew)); exact HO137.out))) (below_size (by repeat (first | (with_reducible first | exact HB.out | apply below_alloc | apply pw_below_drewN | apply below_drew1 | refine below_set ?_ GE134.out) | exact HB.out)))); have n3_ := Aside0.mk (blk_below (g := gb134) (o := .cells #[.bool false, .int .i64 1, .bool false, .int .i64 1, .slice Ao17 y131.length co17] 26 (0, 0)) (by (with_reducible repeat (first | refine blk_drewN ?_ _ | refine blk_drew ?_ | refine blk_alloc ?_ _)); exact BK134.out) hb); have n4_ := Aside0.mk (below_step (by repeat (first | (with_reducible first | exact HB.out | apply below_alloc | apply pw_below_drewN | apply below_drew1 | refine below_set ?_ GE134.out) | exact HB.out)) hb); clear HO133; clear HO137; clear BK134; clear HB; have HO133 := n0_; have HO137 := n1_; have HO140 := n2_; have BK134 := n3_; have HB := n4_; clear n0_ n1_ n2_ n3_ n4_; (try clear hb); (try clear hb2); (try clear hk); (try clear hi); (try clear ho0); obtain ⟨Ao23, co23, eo23⟩ := Kd.R_slice HO140.out; subst eo23; obtain ⟨Ao24, co24, eo24⟩ := Kd.R_slice HO137.out; subst eo24; have hcz25_0 : w22.cell? ⟨gb134, 0, none⟩ = some (.bool false) := (blk_cell BK134.out 0).trans rfl; have hcz25_1 : w22.cell? ⟨gb134, 1, none⟩ = some (.int .i64 1) := (blk_cell BK134.out 1).trans rfl; have hcz25_2 : w22.cell? ⟨gb134, 2, none⟩ = some (.bool false) := (blk_cell BK134.out 2).trans rfl; have hcz25_3 : w22.cell? ⟨gb134, 3, none⟩ = some (.int .i64 1) := (blk_cell BK134.out 3).trans rfl; have hcz25_4 : w22.cell? ⟨gb134, 4, none⟩ = some (.slice Ao17 y131.length co17) := (blk_cell BK134.out 4).trans rfl; have hfz25_0 := blk_frozen BK134.out 0; have hfz25_1 := blk_frozen BK134.out 1; have hfz25_2 := blk_frozen BK134.out 2; have hfz25_3 := blk_frozen BK134.out 3; have hfz25_4 := blk_frozen BK134.out 4) | ((with_reducible refine gate_dst (N := 19) rfl ?_); (try (refine gate_guard (by rfl) ?_; dsimp only)); refine Kd.N_lit k26 _ 26 ?hg (N' := 19) ?hd (xs := ([(⟨false, 3, false, 0, ([] : List Int)⟩ : S26), (⟨false, 1, false, 1, y131⟩ : S26)] : List (S26))) (inner := [.bool false, .int .i64 3, .bool false, .int .i64 0, .slice none 0 0, .bool false, .int .i64 1, .bool false, .int .i64 1, .slice Ao17 y131.length co17]) (ok := (fun k_ => some k_ ≠ (.slice Ao24 t135.length co24 : Value).ownBlock ∧ some k_ ≠ (.slice Ao23 t138.length co23 : Value).ownBlock ∧ k_ ≠ gb134)) (okp := (fun k_ => some k_ ≠ (.slice Ao24 t135.length co24 : Value).ownBlock ∧ some k_ ≠ (.slice Ao23 t138.length co23 : Value).ownBlock ∧ k_ ≠ gb134)) ?hr ?hp (fun _ hk => hk) ((show ∀ k_, w22.heap.size ≤ k_ → (fun k_ => some k_ ≠ (.slice Ao24 t135.length co24 : Value).ownBlock ∧ some k_ ≠ (.slice Ao23 t138.length co23 : Value).ownBlock ∧ k_ ≠ gb134) k_ from fun k_ hk => ⟨Kd.fresh' (Kd.R_lt (by (with_reducible repeat (first | apply Kd.R_alloc | apply Kd.R_drewN | apply Kd.R_drew)); exact HO137.out)) k_ hk, Kd.fresh' (Kd.R_lt (by (with_reducible repeat (first | apply Kd.R_alloc | apply Kd.R_drewN | apply Kd.R_drew)); exact HO140.out)) k_ hk, Kd.freshB (g := gb134) (o := .cells #[.bool false, .int .i64 1, .bool false, .int .i64 1, .slice Ao17 y131.length co17] 26 (0, 0)) (by (with_reducible repeat (first | refine blk_drewN ?_ _ | refine blk_drew ?_ | refine blk_alloc ?_ _)); exact BK134.out) k_ hk⟩) _ (Nat.le_refl _)) (Below.refl _ _) (Nat.le_refl _) (by simp) ?_; (case hd => rfl); (case hg => rfl); (case hr => first | (go_simp; done) | (go_simp; rfl)); (case hp => exact (Reps.c5 (show Kd.FK k26 _ _ (⟨false, 3, false, 0, ([] : List Int)⟩ : S26) [.bool false, .int .i64 3, .bool false, .int .i64 0, .slice none 0 0] from (k26_mkF _ _ (⟨false, 3, false, 0, ([] : List Int)⟩ : S26) (Nat.le_refl _) (Kd.F_nil _ _ _))) (Reps.c5 (show Kd.FK k26 _ _ (⟨false, 1, false, 1, y131⟩ : S26) [.bool false, .int .i64 1, .bool false, .int .i64 1, .slice Ao17 y131.length co17] from (k26_mkF _ _ (⟨false, 1, false, 1, y131⟩ : S26) (Kd.R_reads' (Kd.R_mono (ok' := (fun k_ => some k_ ≠ (.slice Ao24 t135.length co24 : Value).ownBlock ∧ some k_ ≠ (.slice Ao23 t138.length co23 : Value).ownBlock ∧ k_ ≠ gb134)) (Kd.R_types (Kd.R_apart' (Kd.R_apart' (HO133.out) (Kd.R_typed HO137.out) (by decide)) (Kd.R_typed HO140.out) (by decide)) BK134.out (by decide)) (fun k_ hk => ⟨hk.1.1.2, ⟨hk.1.2, hk.2⟩⟩))).2.1 (Kd.R_F (Kd.R_mono (ok' := (fun k_ => some k_ ≠ (.slice Ao24 t135.length co24 : Value).ownBlock ∧ some k_ ≠ (.slice Ao23 t138.length co23 : Value).ownBlock ∧ k_ ≠ gb134)) (Kd.R_types (Kd.R_apart' (Kd.R_apart' (HO133.out) (Kd.R_typed HO137.out) (by decide)) (Kd.R_typed HO140.out) (by decide)) BK134.out (by decide)) (fun k_ hk => ⟨hk.1.1.2, ⟨hk.1.2, hk.2⟩⟩))))) (Reps.none _ _)))); intro v142 w26 ho27 hb hg_ hnew_; clear hg_ hnew_; (first | rw [← Ny141.out] at ho27 | (simp only [Int.reduceToNat] at ho27; rw [← Ny141.out] at ho27)); have n0_ := Aside0.mk (Kd.R_below (by (with_reducible repeat (first | apply Kd.R_alloc | apply Kd.R_drewN | apply Kd.R_drew)); exact HO137.out) hb); have n1_ := Aside0.mk (Kd.R_below (by (with_reducible repeat (first | apply Kd.R_alloc | apply Kd.R_drewN | apply Kd.R_drew)); exact HO140.out) hb); have n2_ := Aside0.mk (Kd.N_lower ho27 (below_size (by repeat (first | (with_reducible first | exact HB.out | apply below_alloc | apply pw_below_drewN | apply below_drew1 | refine below_set ?_ GE134.out) | exact HB.out)))); have n3_ := Aside0.mk (blk_below (g := gb134) (o := .cells #[.bool false, .int .i64 1, .bool false, .int .i64 1, .slice Ao17 y131.length co17] 26 (0, 0)) (by (with_reducible repeat (first | refine blk_drewN ?_ _ | refine blk_drew ?_ | refine blk_alloc ?_ _)); exact BK134.out) hb); have n4_ := Aside0.mk (below_step (by repeat (first | (with_reducible first | exact HB.out | apply below_alloc | apply pw_below_drewN | apply below_drew1 | refine below_set ?_ GE134.out) | exact HB.out)) hb); clear HO137; clear HO140; clear BK134; clear HB; clear HO133; have HO137 := n0_; have HO140 := n1_; have HO143 := n2_; have BK134 := n3_; have HB := n4_; clear n0_ n1_ n2_ n3_ n4_; clear hb ho27; obtain ⟨Ao28, co28, eo28⟩ := Kd.N_slice HO143.out; subst eo28) | (go_at_call 8; (with_reducible refine (arb_Win.calls _ _ y141 t144 _ ?side1 ?side2 A5.out).mono ?_); (case side1 => repeat (first | exact (Kd.N_reads' HO143.out).2.2 | (with_reducible refine Kd.C_alloc ?_ _) | (with_reducible refine Kd.C_drewN ?_ _) | (with_reducible refine Kd.C_drew ?_))); (case side2 => exact (Kd.N_reads' HO143.out).2.1); rintro e w29 ⟨rfl, hb⟩; have n0_ := Aside0.mk (Kd.R_below (by (with_reducible repeat (first | apply Kd.R_alloc | apply Kd.R_drewN | apply Kd.R_drew)); exact HO137.out) hb); have n1_ := Aside0.mk (Kd.R_below (by (with_reducible repeat (first | apply Kd.R_alloc | apply Kd.R_drewN | apply Kd.R_drew)); exact HO140.out) hb); have n2_ := Aside0.mk (Kd.N_below (by (with_reducible repeat (first | apply Kd.N_alloc | apply Kd.N_drewN | apply Kd.N_drew)); exact HO143.out) hb); have n3_ := Aside0.mk (blk_below (g := gb134) (o := .cells #[.bool false, .int .i64 1, .bool false, .int .i64 1, .slice Ao17 y131.length co17] 26 (0, 0)) (by (with_reducible repeat (first | refine blk_drewN ?_ _ | refine blk_drew ?_ | refine blk_alloc ?_ _)); exact BK134.out) hb); have n4_ := Aside0.mk (below_step (by repeat (first | (with_reducible first | exact HB.out | apply below_alloc | apply pw_below_drewN | apply below_drew1 | refine below_set ?_ GE134.out) | exact HB.out)) hb); clear HO137; clear HO140; clear HO143; clear BK134; clear HB; have HO137 := n0_; have HO140 := n1_; have HO143 := n2_; have BK134 := n3_; have HB := n4_; clear n0_ n1_ n2_ n3_ n4_; (try clear hb); (try clear hb2); (try clear hk); (try clear hi)) | ((with_reducible refine gate_dst (N := 24) rfl ?_); (try (refine gate_guard (by rfl) ?_; dsimp only)); refine Kd.R_lit (Kd.int .i64) _ 3 ?hg (N := 24) ?hd (xs := ([1, 0] : List Int)) (inner := [.int .i64 1, .int .i64 0]) (ok := fun _ => True) (okp := fun _ => True) ?hr ?hp (fun _ hk => hk) trivial (Below.refl _ _) (Nat.le_refl _) (by simp) ?_; (case hd => rfl); (case hg => rfl); (case hr => first | (go_simp; done) | (go_simp; rfl)); (case hp => exact (Reps.one (show Kd.M (Kd.int .i64) _ _ _ 1 [.int .i64 1] from rfl) (Reps.one (show Kd.M (Kd.int .i64) _ _ _ 0 [.int .i64 0] from rfl) (Reps.none _ _)))); intro v146 w30 ho31 hb hg_ hnew_; clear hg_ hnew_; (first | rw [← Ny145.out] at ho31 | (simp only [Int.reduceToNat] at ho31; rw [← Ny145.out] at ho31)); have n0_ := Aside0.mk (Kd.R_elder' (by (with_reducible repeat (first | apply Kd.R_alloc | apply Kd.R_drewN | apply Kd.R_drew)); exact HO137.out) (Kd.R_base ho31) hb); have n1_ := Aside0.mk (Kd.R_elder' (by (with_reducible repeat (first | apply Kd.R_alloc | apply Kd.R_drewN | apply Kd.R_drew)); exact HO140.out) (Kd.R_base ho31) hb); have n2_ := Aside0.mk (Kd.N_elder' (by (with_reducible repeat (first | apply Kd.N_alloc | apply Kd.N_drewN | apply Kd.N_drew)); exact HO143.out) (Kd.R_base ho31) hb); have n3_ := Aside0.mk (Kd.R_lower (Kd.R_new' (Kd.R_new' ho31 (Kd.R_lt (by (with_reducible repeat (first | apply Kd.R_alloc | apply Kd.R_drewN | apply Kd.R_drew)); exact HO137.out))) (Kd.R_lt (by (with_reducible repeat (first | apply Kd.R_alloc | apply Kd.R_drewN | apply Kd.R_drew)); exact HO140.out))) (below_size (by repeat (first | (with_reducible first | exact HB.out | apply below_alloc | apply pw_below_drewN | apply below_drew1 | refine below_set ?_ GE134.out) | exact HB.out)))); have n4_ := Aside0.mk (blk_below (g := gb134) (o := .cells #[.bool false, .int .i64 1, .bool false, .int .i64 1, .slice Ao17 y131.length co17] 26 (0, 0)) (by (with_reducible repeat (first | refine blk_drewN ?_ _ | refine blk_drew ?_ | refine blk_alloc ?_ _)); exact BK134.out) hb); have n5_ := Aside0.mk (below_step (by repeat (first | (with_reducible first | exact HB.out | apply below_alloc | apply pw_below_drewN | apply below_drew1 | refine below_set ?_ GE134.out) | exact HB.out)) hb); clear HO137; clear HO140; clear HO143; clear BK134; clear HB; have HO137 := n0_; have HO140 := n1_; have HO143 := n2_; have HO147 := n3_; have BK134 := n4_; have HB := n5_; clear n0_ n1_ n2_ n3_ n4_ n5_; clear hb ho31; obtain ⟨Ao32, co32, eo32⟩ := Kd.R_slice HO147.out; subst eo32) | (go_at_call 14; (with_reducible refine (arb_And.calls k _ _ y145 t148 _ ?side1 ?side2 A7.out).mono ?_); (case side1 => repeat (first | exact (Kd.R_reads' HO147.out).2.2 | (with_reducible refine Kd.C_alloc ?_ _) | (with_reducible refine Kd.C_drewN ?_ _) | (with_reducible refine Kd.C_drew ?_))); (case side2 => exact (Kd.R_reads' HO147.out).2.1); rintro e w33 ⟨rfl, hb⟩; have n0_ := Aside0.mk (Kd.R_below (by (with_reducible repeat (first | apply Kd.R_alloc | apply Kd.R_drewN | apply Kd.R_drew)); exact HO137.out) hb); have n1_ := Aside0.mk (Kd.R_below (by (with_reducible repeat (first | apply Kd.R_alloc | apply Kd.R_drewN | apply Kd.R_drew)); exact HO140.out) hb); have n2_ := Aside0.mk (Kd.N_below (by (with_reducible repeat (first | apply Kd.N_alloc | apply Kd.N_drewN | apply Kd.N_drew)); exact HO143.out) hb); have n3_ := Aside0.mk (Kd.R_below (by (with_reducible repeat (first | apply Kd.R_alloc | apply Kd.R_drewN | apply Kd.R_drew)); exact HO147.out) hb); have n4_ := Aside0.mk (blk_below (g := gb134) (o := .cells #[.bool false, .int .i64 1, .bool false, .int .i64 1, .slice Ao17 y131.length co17] 26 (0, 0)) (by (with_reducible repeat (first | refine blk_drewN ?_ _ | refine blk_drew ?_ | refine blk_alloc ?_ _)); exact BK134.out) hb); have n5_ := Aside0.mk (below_step (by repeat (first | (with_reducible first | exact HB.out | apply below_alloc | apply pw_below_drewN | apply below_drew1 | refine below_set ?_ GE134.out) | exact HB.out)) hb); clear HO137; clear HO140; clear HO143; clear HO147; clear BK134; clear HB; have HO137 := n0_; have HO140 := n1_; have HO143 := n2_; have HO147 := n3_; have BK134 := n4_; have HB := n5_; clear n0_ n1_ n2_ n3_ n4_ n5_; (try clear hb); (try clear hb2); (try clear hk); (try clear hi)) | ((with_reducible refine gate_dst (N := 29) rfl ?_); (try (refine gate_guard (by rfl) ?_; dsimp only)); refine Kd.R_lit (Kd.int .i64) _ 3 ?hg (N := 29) ?hd (xs := ([0, 0, 0, 0, 0] : List Int)) (inner := [.int .i64 0, .int .i64 0, .int .i64 0, .int .i64 0, .int .i64 0]) (ok := fun _ => True) (okp := fun _ => True) ?hr ?hp (fun _ hk => hk) trivial (Below.refl _ _) (Nat.le_refl _) (by simp) ?_; (case hd => rfl); (case hg => rfl); (case hr => first | (go_simp; done) | (go_simp; rfl)); (case hp => exact (Reps.one (show Kd.M (Kd.int .i64) _ _ _ 0 [.int .i64 0] from rfl) (Reps.one (show Kd.M (Kd.int .i64) _ _ _ 0 [.int .i64 0] from rfl) (Reps.one (show Kd.M (Kd.int .i64) _ _ _ 0 [.int .i64 0] from rfl) (Reps.one (show Kd.M (Kd.int .i64) _ _ _ 0 [.int .i64 0] from rfl) (Reps.one (show Kd.M (Kd.int .i64) _ _ _ 0 [.int .i64 0] from rfl) (Reps.none _ _))))))); intro v150 w34 ho35 hb hg_ hnew_; clear hg_ hnew_; (first | rw [← Ny149.out] at ho35 | (simp only [Int.reduceToNat] at ho35; rw [← Ny149.out] at ho35)); have n0_ := Aside0.mk (Kd.R_elder' (by (with_reducible repeat (first | apply Kd.R_alloc | apply Kd.R_drewN | apply Kd.R_drew)); exact HO137.out) (Kd.R_base ho35) hb); have n1_ := Aside0.mk (Kd.R_elder' (by (with_reducible repeat (first | apply Kd.R_alloc | apply Kd.R_drewN | apply Kd.R_drew)); exact HO140.out) (Kd.R_base ho35) hb); have n2_ := Aside0.mk (Kd.N_elder' (by (with_reducible repeat (first | apply Kd.N_alloc | apply Kd.N_drewN | apply Kd.N_drew)); exact HO143.out) (Kd.R_base ho35) hb); have n3_ := Aside0.mk (Kd.R_elder' (by (with_reducible repeat (first | apply Kd.R_alloc | apply Kd.R_drewN | apply Kd.R_drew)); exact HO147.out) (Kd.R_base ho35) hb); have n4_ := Aside0.mk (Kd.R_lower (Kd.R_new' (Kd.R_new' (Kd.R_new' ho35 (Kd.R_lt (by (with_reducible repeat (first | apply Kd.R_alloc | apply Kd.R_drewN | apply Kd.R_drew)); exact HO137.out))) (Kd.R_lt (by (with_reducible repeat (first | apply Kd.R_alloc | apply Kd.R_drewN | apply Kd.R_drew)); exact HO140.out))) (Kd.R_lt (by (with_reducible repeat (first | apply Kd.R_alloc | apply Kd.R_drewN | apply Kd.R_drew)); exact HO147.out))) (below_size (by repeat (first | (with_reducible first | exact HB.out | apply below_alloc | apply pw_below_drewN | apply below_drew1 | refine below_set ?_ GE134.out) | exact HB.out)))); have n5_ := Aside0.mk (blk_below (g := gb134) (o := .cells #[.bool false, .int .i64 1, .bool false, .int .i64 1, .slice Ao17 y131.length co17] 26 (0, 0)) (by (with_reducible repeat (first | refine blk_drewN ?_ _ | refine blk_drew ?_ | refine blk_alloc ?_ _)); exact BK134.out) hb); have n6_ := Aside0.mk (below_step (by repeat (first | (with_reducible first | exact HB.out | apply below_alloc | apply pw_below_drewN | apply below_drew1 | refine below_set ?_ GE134.out) | exact HB.out)) hb); clear HO137; clear HO140; clear HO143; clear HO147; clear BK134; clear HB; have HO137 := n0_; have HO140 := n1_; have HO143 := n2_; have HO147 := n3_; have HO151 := n4_; have BK134 := n5_; have HB := n6_; clear n0_ n1_ n2_ n3_ n4_ n5_ n6_; clear hb ho35; obtain ⟨Ao36, co36, eo36⟩ := Kd.R_slice HO151.out; subst eo36) | (go_at_call 20; (with_reducible refine (stuff_Stuff.calls _ _ y149 t152 _ ?side1 ?side2 A9.out).mono ?_); (case side1 => repeat (first | exact (Kd.R_reads' HO151.out).2.2 | (with_reducible refine Kd.C_alloc ?_ _) | (with_reducible refine Kd.C_drewN ?_ _) | (with_reducible refine Kd.C_drew ?_))); (case side2 => exact (Kd.R_reads' HO151.out).2.1); rintro e w37 ⟨v153, rfl, ho0, hb⟩; have n0_ := Aside0.mk (Kd.R_elder' (by (with_reducible repeat (first | apply Kd.R_alloc | apply Kd.R_drewN | apply Kd.R_drew)); exact HO137.out) (Kd.R_base ho0) hb); have n1_ := Aside0.mk (Kd.R_elder' (by (with_reducible repeat (first | apply Kd.R_alloc | apply Kd.R_drewN | apply Kd.R_drew)); exact HO140.out) (Kd.R_base ho0) hb); have n2_ := Aside0.mk (Kd.N_elder' (by (with_reducible repeat (first | apply Kd.N_alloc | apply Kd.N_drewN | apply Kd.N_drew)); exact HO143.out) (Kd.R_base ho0) hb); have n3_ := Aside0.mk (Kd.R_elder' (by (with_reducible repeat (first | apply Kd.R_alloc | apply Kd.R_drewN | apply Kd.R_drew)); exact HO147.out) (Kd.R_base ho0) hb); have n4_ := Aside0.mk (Kd.R_elder' (by (with_reducible repeat (first | apply Kd.R_alloc | apply Kd.R_drewN | apply Kd.R_drew)); exact HO151.out) (Kd.R_base ho0) hb); have n5_ := Aside0.mk (Kd.R_lower (Kd.R_new' (Kd.R_new' (Kd.R_new' (Kd.R_new' ho0 (Kd.R_lt (by (with_reducible repeat (first | apply Kd.R_alloc | apply Kd.R_drewN | apply Kd.R_drew)); exact HO137.out))) (Kd.R_lt (by (with_reducible repeat (first | apply Kd.R_alloc | apply Kd.R_drewN | apply Kd.R_drew)); exact HO140.out))) (Kd.R_lt (by (with_reducible repeat (first | apply Kd.R_alloc | apply Kd.R_drewN | apply Kd.R_drew)); exact HO147.out))) (Kd.R_lt (by (with_reducible repeat (first | apply Kd.R_alloc | apply Kd.R_drewN | apply Kd.R_drew)); exact HO151.out))) (below_size (by repeat (first | (with_reducible first | exact HB.out | apply below_alloc | apply pw_below_drewN | apply below_drew1 | refine below_set ?_ GE134.out) | exact HB.out)))); have n6_ := Aside0.mk (blk_below (g := gb134) (o := .cells #[.bool false, .int .i64 1, .bool false, .int .i64 1, .slice Ao17 y131.length co17] 26 (0, 0)) (by (with_reducible repeat (first | refine blk_drewN ?_ _ | refine blk_drew ?_ | refine blk_alloc ?_ _)); exact BK134.out) hb); have n7_ := Aside0.mk (below_step (by repeat (first | (with_reducible first | exact HB.out | apply below_alloc | apply pw_below_drewN | apply below_drew1 | refine below_set ?_ GE134.out) | exact HB.out)) hb); clear HO137; clear HO140; clear HO143; clear HO147; clear HO151; clear BK134; clear HB; have HO137 := n0_; have HO140 := n1_; have HO143 := n2_; have HO147 := n3_; have HO151 := n4_; have HO154 := n5_; have BK134 := n6_; have HB := n7_; clear n0_ n1_ n2_ n3_ n4_ n5_ n6_ n7_; (try clear hb); (try clear hb2); (try clear hk); (try clear hi); (try clear ho0); obtain ⟨Ao38, co38, eo38⟩ := Kd.R_slice HO154.out; subst eo38) | ((with_reducible refine gate_dst (N := 35) rfl ?_); (try (refine gate_guard (by rfl) ?_; dsimp only)); refine Kd.R_lit (Kd.int .u8) _ 5 ?hg (N := 35) ?hd (xs := ([1] : List Int)) (inner := [.int .u8 1]) (ok := fun _ => True) (okp := fun _ => True) ?hr ?hp (fun _ hk => hk) trivial (Below.refl _ _) (Nat.le_refl _) (by simp) ?_; (case hd => rfl); (case hg => rfl); (case hr => first | (go_simp; done) | (go_simp; rfl)); (case hp => exact (Reps.one (show Kd.M (Kd.int .u8) _ _ _ 1 [.int .u8 1] from rfl) (Reps.none _ _))); intro v156 w39 ho40 hb hg_ hnew_; clear hg_ hnew_; (first | rw [← Ny155.out] at ho40 | (simp only [Int.reduceToNat] at ho40; rw [← Ny155.out] at ho40)); have n0_ := Aside0.mk (Kd.R_below (by (with_reducible repeat (first | apply Kd.R_alloc | apply Kd.R_drewN | apply Kd.R_drew)); exact HO137.out) hb); have n1_ := Aside0.mk (Kd.R_below (by (with_reducible repeat (first | apply Kd.R_alloc | apply Kd.R_drewN | apply Kd.R_drew)); exact HO140.out) hb); have n2_ := Aside0.mk (Kd.N_elder' (by (with_reducible repeat (first | apply Kd.N_alloc | apply Kd.N_drewN | apply Kd.N_drew)); exact HO143.out) (Kd.R_base ho40) hb); have n3_ := Aside0.mk (Kd.R_below (by (with_reducible repeat (first | apply Kd.R_alloc | apply Kd.R_drewN | apply Kd.R_drew)); exact HO147.out) hb); have n4_ := Aside0.mk (Kd.R_below (by (with_reducible repeat (first | apply Kd.R_alloc | apply Kd.R_drewN | apply Kd.R_drew)); exact HO151.out) hb); have n5_ := Aside0.mk (Kd.R_below (by (with_reducible repeat (first | apply Kd.R_alloc | apply Kd.R_drewN | apply Kd.R_drew)); exact HO154.out) hb); have n6_ := Aside0.mk (Kd.R_lower ho40 (below_size (by repeat (first | (with_reducible first | exact HB.out | apply below_alloc | apply pw_below_drewN | apply below_drew1 | refine below_set ?_ GE134.out) | exact HB.out)))); have n7_ := Aside0.mk (blk_below (g := gb134) (o := .cells #[.bool false, .int .i64 1, .bool false, .int .i64 1, .slice Ao17 y131.length co17] 26 (0, 0)) (by (with_reducible repeat (first | refine blk_drewN ?_ _ | refine blk_drew ?_ | refine blk_alloc ?_ _)); exact BK134.out) hb); have n8_ := Aside0.mk (below_step (by repeat (first | (with_reducible first | exact HB.out | apply below_alloc | apply pw_below_drewN | apply below_drew1 | refine below_set ?_ GE134.out) | exact HB.out)) hb); clear HO137; clear HO140; clear HO143; clear HO147; clear HO151; clear HO154; clear BK134; clear HB; have HO137 := n0_; have HO140 := n1_; have HO143 := n2_; have HO147 := n3_; have HO151 := n4_; have HO154 := n5_; have HO157 := n6_; have BK134 := n7_; have HB := n8_; clear n0_ n1_ n2_ n3_ n4_ n5_ n6_ n7_ n8_; clear hb ho40; obtain ⟨Ao41, co41, eo41⟩ := Kd.R_slice HO157.out; subst eo41) | (go_at_call 21; (with_reducible refine (bits_Spread.calls _ _ y155 t158 _ ?side1 ?side2 A11.out).mono ?_); (case side1 => repeat (first | exact (Kd.R_reads' HO157.out).2.2 | (with_reducible refine Kd.C_alloc ?_ _) | (with_reducible refine Kd.C_drewN ?_ _) | (with_reducible refine Kd.C_drew ?_))); (case side2 => exact (Kd.R_reads' HO157.out).2.1); rintro e w42 ⟨v159, rfl, ho0, hb⟩; have n0_ := Aside0.mk (Kd.R_elder' (by (with_reducible repeat (first | apply Kd.R_alloc | apply Kd.R_drewN | apply Kd.R_drew)); exact HO137.out) (Kd.R_base ho0) hb); have n1_ := Aside0.mk (Kd.R_elder' (by (with_reducible repeat (first | apply Kd.R_alloc | apply Kd.R_drewN | apply Kd.R_drew)); exact HO140.out) (Kd.R_base ho0) hb); have n2_ := Aside0.mk (Kd.N_elder' (by (with_reducible repeat (first | apply Kd.N_alloc | apply Kd.N_drewN | apply Kd.N_drew)); exact HO143.out) (Kd.R_base ho0) hb); have n3_ := Aside0.mk (Kd.R_elder' (by (with_reducible repeat (first | apply Kd.R_alloc | apply Kd.R_drewN | apply Kd.R_drew)); exact HO147.out) (Kd.R_base ho0) hb); have n4_ := Aside0.mk (Kd.R_elder' (by (with_reducible repeat (first | apply Kd.R_alloc | apply Kd.R_drewN | apply Kd.R_drew)); exact HO151.out) (Kd.R_base ho0) hb); have n5_ := Aside0.mk (Kd.R_elder' (by (with_reducible repeat (first | apply Kd.R_alloc | apply Kd.R_drewN | apply Kd.R_drew)); exact HO154.out) (Kd.R_base ho0) hb); have n6_ := Aside0.mk (Kd.R_below (by (with_reducible repeat (first | apply Kd.R_alloc | apply Kd.R_drewN | apply Kd.R_drew)); exact HO157.out) hb); have n7_ := Aside0.mk (Kd.R_lower (Kd.R_new' (Kd.R_new' (Kd.R_new' (Kd.R_new' (Kd.R_new' ho0 (Kd.R_lt (by (with_reducible repeat (first | apply Kd.R_alloc | apply Kd.R_drewN | apply Kd.R_drew)); exact HO137.out))) (Kd.R_lt (by (with_reducible repeat (first | apply Kd.R_alloc | apply Kd.R_drewN | apply Kd.R_drew)); exact HO140.out))) (Kd.R_lt (by (with_reducible repeat (first | apply Kd.R_alloc | apply Kd.R_drewN | apply Kd.R_drew)); exact HO147.out))) (Kd.R_lt (by (with_reducible repeat (first | apply Kd.R_alloc | apply Kd.R_drewN | apply Kd.R_drew)); exact HO151.out))) (Kd.R_lt (by (with_reducible repeat (first | apply Kd.R_alloc | apply Kd.R_drewN | apply Kd.R_drew)); exact HO154.out))) (below_size (by repeat (first | (with_reducible first | exact HB.out | apply below_alloc | apply pw_below_drewN | apply below_drew1 | refine below_set ?_ GE134.out) | exact HB.out)))); have n8_ := Aside0.mk (blk_below (g := gb134) (o := .cells #[.bool false, .int .i64 1, .bool false, .int .i64 1, .slice Ao17 y131.length co17] 26 (0, 0)) (by (with_reducible repeat (first | refine blk_drewN ?_ _ | refine blk_drew ?_ | refine blk_alloc ?_ _)); exact BK134.out) hb); have n9_ := Aside0.mk (below_step (by repeat (first | (with_reducible first | exact HB.out | apply below_alloc | apply pw_below_drewN | apply below_drew1 | refine below_set ?_ GE134.out) | exact HB.out)) hb); clear HO137; clear HO140; clear HO143; clear HO147; clear HO151; clear HO154; clear HO157; clear BK134; clear HB; have HO137 := n0_; have HO140 := n1_; have HO143 := n2_; have HO147 := n3_; have HO151 := n4_; have HO154 := n5_; have HO157 := n6_; have HO160 := n7_; have BK134 := n8_; have HB := n9_; clear n0_ n1_ n2_ n3_ n4_ n5_ n6_ n7_ n8_ n9_; (try clear hb); (try clear hb2); (try clear hk); (try clear hi); (try clear ho0); obtain ⟨Ao43, co43, eo43⟩ := Kd.R_slice HO160.out; subst eo43) | ((with_reducible refine gate_dst (N := 41) rfl ?_); (try (refine gate_guard (by rfl) ?_; dsimp only)); refine Kd.R_lit (Kd.int .i64) _ 3 ?hg (N := 41) ?hd (xs := ([1] : List Int)) (inner := [.int .i64 1]) (ok := fun _ => True) (okp := fun _ => True) ?hr ?hp (fun _ hk => hk) trivial (Below.refl _ _) (Nat.le_refl _) (by simp) ?_; (case hd => rfl); (case hg => rfl); (case hr => first | (go_simp; done) | (go_simp; rfl)); (case hp => exact (Reps.one (show Kd.M (Kd.int .i64) _ _ _ 1 [.int .i64 1] from rfl) (Reps.none _ _))); intro v162 w44 ho45 hb hg_ hnew_; clear hg_ hnew_; (first | rw [← Ny161.out] at ho45 | (simp only [Int.reduceToNat] at ho45; rw [← Ny161.out] at ho45)); have n0_ := Aside0.mk (Kd.R_elder' (by (with_reducible repeat (first | apply Kd.R_alloc | apply Kd.R_drewN | apply Kd.R_drew)); exact HO137.out) (Kd.R_base ho45) hb); have n1_ := Aside0.mk (Kd.R_elder' (by (with_reducible repeat (first | apply Kd.R_alloc | apply Kd.R_drewN | apply Kd.R_drew)); exact HO140.out) (Kd.R_base ho45) hb); have n2_ := Aside0.mk (Kd.N_elder' (by (with_reducible repeat (first | apply Kd.N_alloc | apply Kd.N_drewN | apply Kd.N_drew)); exact HO143.out) (Kd.R_base ho45) hb); have n3_ := Aside0.mk (Kd.R_elder' (by (with_reducible repeat (first | apply Kd.R_alloc | apply Kd.R_drewN | apply Kd.R_drew)); exact HO147.out) (Kd.R_base ho45) hb); have n4_ := Aside0.mk (Kd.R_elder' (by (with_reducible repeat (first | apply Kd.R_alloc | apply Kd.R_drewN | apply Kd.R_drew)); exact HO151.out) (Kd.R_base ho45) hb); have n5_ := Aside0.mk (Kd.R_elder' (by (with_reducible repeat (first | apply Kd.R_alloc | apply Kd.R_drewN | apply Kd.R_drew)); exact HO154.out) (Kd.R_base ho45) hb); have n6_ := Aside0.mk (Kd.R_below (by (with_reducible repeat (first | apply Kd.R_alloc | apply Kd.R_drewN | apply Kd.R_drew)); exact HO157.out) hb); have n7_ := Aside0.mk (Kd.R_elder' (by (with_reducible repeat (first | apply Kd.R_alloc | apply Kd.R_drewN | apply Kd.R_drew)); exact HO160.out) (Kd.R_base ho45) hb); have n8_ := Aside0.mk (Kd.R_lower (Kd.R_new' (Kd.R_new' (Kd.R_new' (Kd.R_new' (Kd.R_new' (Kd.R_new' ho45 (Kd.R_lt (by (with_reducible repeat (first | apply Kd.R_alloc | apply Kd.R_drewN | apply Kd.R_drew)); exact HO137.out))) (Kd.R_lt (by (with_reducible repeat (first | apply Kd.R_alloc | apply Kd.R_drewN | apply Kd.R_drew)); exact HO140.out))) (Kd.R_lt (by (with_reducible repeat (first | apply Kd.R_alloc | apply Kd.R_drewN | apply Kd.R_drew)); exact HO147.out))) (Kd.R_lt (by (with_reducible repeat (first | apply Kd.R_alloc | apply Kd.R_drewN | apply Kd.R_drew)); exact HO151.out))) (Kd.R_lt (by (with_reducible repeat (first | apply Kd.R_alloc | apply Kd.R_drewN | apply Kd.R_drew)); exact HO154.out))) (Kd.R_lt (by (with_reducible repeat (first | apply Kd.R_alloc | apply Kd.R_drewN | apply Kd.R_drew)); exact HO160.out))) (below_size (by repeat (first | (with_reducible first | exact HB.out | apply below_alloc | apply pw_below_drewN | apply below_drew1 | refine below_set ?_ GE134.out) | exact HB.out)))); have n9_ := Aside0.mk (blk_below (g := gb134) (o := .cells #[.bool false, .int .i64 1, .bool false, .int .i64 1, .slice Ao17 y131.length co17] 26 (0, 0)) (by (with_reducible repeat (first | refine blk_drewN ?_ _ | refine blk_drew ?_ | refine blk_alloc ?_ _)); exact BK134.out) hb); have n10_ := Aside0.mk (below_step (by repeat (first | (with_reducible first | exact HB.out | apply below_alloc | apply pw_below_drewN | apply below_drew1 | refine below_set ?_ GE134.out) | exact HB.out)) hb); clear HO137; clear HO140; clear HO143; clear HO147; clear HO151; clear HO154; clear HO157; clear HO160; clear BK134; clear HB; have HO137 := n0_; have HO140 := n1_; have HO143 := n2_; have HO147 := n3_; have HO151 := n4_; have HO154 := n5_; have HO157 := n6_; have HO160 := n7_; have HO163 := n8_; have BK134 := n9_; have HB := n10_; clear n0_ n1_ n2_ n3_ n4_ n5_ n6_ n7_ n8_ n9_ n10_; clear hb ho45; obtain ⟨Ao46, co46, eo46⟩ := Kd.R_slice HO163.out; subst eo46) | (go_at_call 19; (with_reducible refine (crc_Bits.calls _ _ y161 t164 _ ?side1 ?side2 A13.out).mono ?_); (case side1 => repeat (first | exact (Kd.R_reads' HO163.out).2.2 | (with_reducible refine Kd.C_alloc ?_ _) | (with_reducible refine Kd.C_drewN ?_ _) | (with_reducible refine Kd.C_drew ?_))); (case side2 => exact (Kd.R_reads' HO163.out).2.1); rintro e w47 ⟨rfl, hb⟩; have n0_ := Aside0.mk (Kd.R_below (by (with_reducible repeat (first | apply Kd.R_alloc | apply Kd.R_drewN | apply Kd.R_drew)); exact HO137.out) hb); have n1_ := Aside0.mk (Kd.R_below (by (with_reducible repeat (first | apply Kd.R_alloc | apply Kd.R_drewN | apply Kd.R_drew)); exact HO140.out) hb); have n2_ := Aside0.mk (Kd.N_below (by (with_reducible repeat (first | apply Kd.N_alloc | apply Kd.N_drewN | apply Kd.N_drew)); exact HO143.out) hb); have n3_ := Aside0.mk (Kd.R_below (by (with_reducible repeat (first | apply Kd.R_alloc | apply Kd.R_drewN | apply Kd.R_drew)); exact HO147.out) hb); have n4_ := Aside0.mk (Kd.R_below (by (with_reducible repeat (first | apply Kd.R_alloc | apply Kd.R_drewN | apply Kd.R_drew)); exact HO151.out) hb); have n5_ := Aside0.mk (Kd.R_below (by (with_reducible repeat (first | apply Kd.R_alloc | apply Kd.R_drewN | apply Kd.R_drew)); exact HO154.out) hb); have n6_ := Aside0.mk (Kd.R_below (by (with_reducible repeat (first | apply Kd.R_alloc | apply Kd.R_drewN | apply Kd.R_drew)); exact HO157.out) hb); have n7_ := Aside0.mk (Kd.R_below (by (with_reducible repeat (first | apply Kd.R_alloc | apply Kd.R_drewN | apply Kd.R_drew)); exact HO160.out) hb); have n8_ := Aside0.mk (Kd.R_below (by (with_reducible repeat (first | apply Kd.R_alloc | apply Kd.R_drewN | apply Kd.R_drew)); exact HO163.out) hb); have n9_ := Aside0.mk (blk_below (g := gb134) (o := .cells #[.bool false, .int .i64 1, .bool false, .int .i64 1, .slice Ao17 y131.length co17] 26 (0, 0)) (by (with_reducible repeat (first | refine blk_drewN ?_ _ | refine blk_drew ?_ | refine blk_alloc ?_ _)); exact BK134.out) hb); have n10_ := Aside0.mk (below_step (by repeat (first | (with_reducible first | exact HB.out | apply below_alloc | apply pw_below_drewN | apply below_drew1 | refine below_set ?_ GE134.out) | exact HB.out)) hb); clear HO137; clear HO140; clear HO143; clear HO147; clear HO151; clear HO154; clear HO157; clear HO160; clear HO163; clear BK134; clear HB; have HO137 := n0_; have HO140 := n1_; have HO143 := n2_; have HO147 := n3_; have HO151 := n4_; have HO154 := n5_; have HO157 := n6_; have HO160 := n7_; have HO163 := n8_; have BK134 := n9_; have HB := n10_; clear n0_ n1_ n2_ n3_ n4_ n5_ n6_ n7_ n8_ n9_ n10_; (try clear hb); (try clear hb2); (try clear hk); (try clear hi)))
        go_ret
        exact ⟨by first | rfl | (simp [errW_none, errW_some] <;> rfl) | (simp [*, errW_none, errW_some] <;> rfl), by repeat (first | (with_reducible first | exact HB.out | apply below_alloc | apply pw_below_drewN | apply below_drew1 | refine below_set ?_ GE134.out) | exact HB.out)⟩
       ·rw [if_neg c14] at H
        exact absurd H (by simp)
      ·rw [if_neg c12] at H
       exact absurd H (by simp)
     ·rw [if_neg c10] at H
      exact absurd H (by simp)
    ·rw [if_neg c8] at H
     exact absurd H (by simp)
   ·rw [if_neg c6] at H
    exact absurd H (by simp)
  ·rw [if_neg c4] at H
   exact absurd H (by simp)
 ·rw [if_neg c3] at H
  exact absurd H (by simp)

end Go.Proofs.Ytechlakahpkdpaa.Px

-- Written by myprint.py, a program of this session's, over the kit's print.py; not a text of print.sh's own.
import Derived.Test.YtonffeckadmlcaaPx0
namespace Go.Proofs.Ytonffeckadmlcaa.Px
open Go.RowKit Go.Proofs.YtonffeckadmlcaaW.PrintWords Go.Proofs.YtonffeckadmlcaaW.PrintLast Go.Proofs.YtonffeckadmlcaaW.PrintMore
attribute [local go_sem] max2_int min2_int max_two min_two max_three min_three max_four min_four   -- for this text's walks alone
set_option linter.unusedVariables false
set_option linter.unusedSimpArgs false

/-! ### (*phaeton/crc.register).take: helper -/
theorem crc_and15 (s : BitVec 15) : Go.bits .and .i64 ((s.toNat : Int) * 2) 32767 = (((s <<< 1 : BitVec 15).toNat : Nat) : Int) := by
  have h := H.and_i64 (s.toNat * 2) 32767 (by have := s.isLt; omega) (by decide)
  rw [show ((s.toNat : Int) * 2) = ((s.toNat * 2 : Nat) : Int) by omega]
  refine h.trans ?_
  rw [show s.toNat * 2 &&& 32767 = s.toNat * 2 % 32768 from Nat.and_two_pow_sub_one_eq_mod _ 15, BitVec.toNat_shiftLeft, Nat.shiftLeft_eq]
theorem crc_and8 (s : BitVec 8) : Go.bits .and .i64 ((s.toNat : Int) * 2) 255 = (((s <<< 1 : BitVec 8).toNat : Nat) : Int) := by
  have h := H.and_i64 (s.toNat * 2) 255 (by have := s.isLt; omega) (by decide)
  rw [show ((s.toNat : Int) * 2) = ((s.toNat * 2 : Nat) : Int) by omega]
  refine h.trans ?_
  rw [show s.toNat * 2 &&& 255 = s.toNat * 2 % 256 from Nat.and_two_pow_sub_one_eq_mod _ 8, BitVec.toNat_shiftLeft, Nat.shiftLeft_eq]
theorem crc_xor15 (s : BitVec 15) : Go.bits .xor .i64 (s.toNat : Int) 17817 = (((s ^^^ 0x4599#15 : BitVec 15).toNat : Nat) : Int) := by
  have h := H.xor_i64 s.toNat 17817 (by have := s.isLt; omega) (by decide)
  refine h.trans ?_
  rw [BitVec.toNat_xor]; rfl
theorem crc_xor8 (s : BitVec 8) : Go.bits .xor .i64 (s.toNat : Int) 29 = (((s ^^^ 0x1D#8 : BitVec 8).toNat : Nat) : Int) := by
  have h := H.xor_i64 s.toNat 29 (by have := s.isLt; omega) (by decide)
  refine h.trans ?_
  rw [BitVec.toNat_xor]; rfl
set_option maxHeartbeats 800000 in
set_option maxRecDepth 100000 in
theorem crc_take15 (g B0 : Nat) (s : BitVec 15) (b : Int) (w0 w : World) (hblk : w.heap[g]? = some (.cells #[.int .i64 s.toNat, .int .i64 15, .int .i64 17817] 43 (0, 0))) (hB : Below B0 w0 w) (hg : B0 ≤ g) :
    Calls Try.prog 22 #[.pointer (some ⟨g, 0, none⟩), .int .i64 b] w fun e w' => e = .returned (.tuple #[]) ∧ w'.heap[g]? = some (.cells #[.int .i64 (H.regB 0x4599#15 s b).toNat, .int .i64 15, .int .i64 17817] 43 (0, 0)) ∧ Below B0 w0 w' := by
  have c0 : w.cell? ⟨g, 0, none⟩ = some (.int .i64 s.toNat) := by rw [blk_cell hblk]; rfl
  have c1 : w.cell? ⟨g, 1, none⟩ = some (.int .i64 15) := by rw [blk_cell hblk]; rfl
  have c2 : w.cell? ⟨g, 2, none⟩ = some (.int .i64 17817) := by rw [blk_cell hblk]; rfl
  have f0 : w.frozen? ⟨g, 0, none⟩ = false := blk_frozen hblk 0
  have HBL := Aside0.mk hblk
  have HB0 := Aside0.mk hB
  have hs1 : (s.toNat : Int) ≤ 32767 := by have := s.isLt; omega
  have hs0 : 0 ≤ (s.toNat : Int) := by omega
  have HS := Aside0.mk (show H.regB 0x4599#15 s b = if Go.bits .xor .i64 ((s.toNat : Int) / 16384) b = 1 then s <<< 1 ^^^ 0x4599#15 else s <<< 1 from rfl)
  have HA := Aside0.mk (crc_and15 s)
  have HX1 := Aside0.mk (crc_xor15 (s <<< 1))
  clear hblk hB
  generalize hn : (s.toNat : Int) = n at *
  have HN := Aside0.mk hn
  clear hn
  by_cases hx : Go.bits .xor .i64 (n / 16384) b = 1
  · have hxb : (Go.bits .xor .i64 (n / 16384) b == 1) = true := beq_iff_eq.mpr hx
    have HX := Aside0.mk hx
    clear hx
    go_enter Try.func22, Try.ntmps22
    go_wp2_with fail
    go_quiet (fail)
    go_wp2_with fail
    go_region
    go_wp2_with fail
    go_region
    go_wp2_with fail
    go_end0
    refine ⟨rfl, ?_, ?_⟩
    · rw [HS.out, if_pos HX.out, ← HX1.out, ← HA.out]
      exact blk_set (blk_drewN (blk_set (blk_drewN HBL.out (nq + 1)) 0 _) 1) 0 _
    · exact (pw_below_drewN ((pw_below_drewN HB0.out (nq + 1)).setCell (p := ⟨g, 0, none⟩) hg _) 1).setCell (p := ⟨g, 0, none⟩) hg _
  · have hxb : (Go.bits .xor .i64 (n / 16384) b == 1) = false := beq_eq_false_iff_ne.mpr hx
    have HX := Aside0.mk hx
    clear hx
    go_enter Try.func22, Try.ntmps22
    go_wp2_with fail
    go_quiet (fail)
    go_wp2_with fail
    go_region
    go_wp2_with fail
    go_end0
    refine ⟨rfl, ?_, ?_⟩
    · rw [HS.out, if_neg HX.out, ← HA.out]
      exact blk_set (blk_drewN HBL.out (nq + 1)) 0 _
    · exact (pw_below_drewN HB0.out (nq + 1)).setCell (p := ⟨g, 0, none⟩) hg _
set_option maxHeartbeats 800000 in
set_option maxRecDepth 100000 in
theorem crc_take8 (g B0 : Nat) (s : BitVec 8) (b : Int) (w0 w : World) (hblk : w.heap[g]? = some (.cells #[.int .i64 s.toNat, .int .i64 8, .int .i64 29] 43 (0, 0))) (hB : Below B0 w0 w) (hg : B0 ≤ g) :
    Calls Try.prog 22 #[.pointer (some ⟨g, 0, none⟩), .int .i64 b] w fun e w' => e = .returned (.tuple #[]) ∧ w'.heap[g]? = some (.cells #[.int .i64 (H.regB 0x1D#8 s b).toNat, .int .i64 8, .int .i64 29] 43 (0, 0)) ∧ Below B0 w0 w' := by
  have c0 : w.cell? ⟨g, 0, none⟩ = some (.int .i64 s.toNat) := by rw [blk_cell hblk]; rfl
  have c1 : w.cell? ⟨g, 1, none⟩ = some (.int .i64 8) := by rw [blk_cell hblk]; rfl
  have c2 : w.cell? ⟨g, 2, none⟩ = some (.int .i64 29) := by rw [blk_cell hblk]; rfl
  have f0 : w.frozen? ⟨g, 0, none⟩ = false := blk_frozen hblk 0
  have HBL := Aside0.mk hblk
  have HB0 := Aside0.mk hB
  have hs1 : (s.toNat : Int) ≤ 255 := by have := s.isLt; omega
  have hs0 : 0 ≤ (s.toNat : Int) := by omega
  have HS := Aside0.mk (show H.regB 0x1D#8 s b = if Go.bits .xor .i64 ((s.toNat : Int) / 128) b = 1 then s <<< 1 ^^^ 0x1D#8 else s <<< 1 from rfl)
  have HA := Aside0.mk (crc_and8 s)
  have HX1 := Aside0.mk (crc_xor8 (s <<< 1))
  clear hblk hB
  generalize hn : (s.toNat : Int) = n at *
  have HN := Aside0.mk hn
  clear hn
  by_cases hx : Go.bits .xor .i64 (n / 128) b = 1
  · have hxb : (Go.bits .xor .i64 (n / 128) b == 1) = true := beq_iff_eq.mpr hx
    have HX := Aside0.mk hx
    clear hx
    go_enter Try.func22, Try.ntmps22
    go_wp2_with fail
    go_quiet (fail)
    go_wp2_with fail
    go_region
    go_wp2_with fail
    go_region
    go_wp2_with fail
    go_end0
    refine ⟨rfl, ?_, ?_⟩
    · rw [HS.out, if_pos HX.out, ← HX1.out, ← HA.out]
      exact blk_set (blk_drewN (blk_set (blk_drewN HBL.out (nq + 1)) 0 _) 1) 0 _
    · exact (pw_below_drewN ((pw_below_drewN HB0.out (nq + 1)).setCell (p := ⟨g, 0, none⟩) hg _) 1).setCell (p := ⟨g, 0, none⟩) hg _
  · have hxb : (Go.bits .xor .i64 (n / 128) b == 1) = false := beq_eq_false_iff_ne.mpr hx
    have HX := Aside0.mk hx
    clear hx
    go_enter Try.func22, Try.ntmps22
    go_wp2_with fail
    go_quiet (fail)
    go_wp2_with fail
    go_region
    go_wp2_with fail
    go_end0
    refine ⟨rfl, ?_, ?_⟩
    · rw [HS.out, if_neg HX.out, ← HA.out]
      exact blk_set (blk_drewN HBL.out (nq + 1)) 0 _
    · exact (pw_below_drewN HB0.out (nq + 1)).setCell (p := ⟨g, 0, none⟩) hg _

/-! ### crc_Bits: function 12 -/
def crc_Bits.f (l0 : List Int) : Option Int := some ((H.crcB l0).toNat : Int)
set_option maxHeartbeats 800000 in
set_option maxRecDepth 100000 in
theorem crc_Bits.calls (A0 : Option Addr) (c0 : Nat) (l0 : List Int) (r : Int) (w : World) (hr0 : Kd.C (Kd.int .i64) w A0 l0.length l0) (hc0 : l0.length ≤ c0) (h : crc_Bits.f l0 = some r) :
    Calls Try.prog 12 #[.slice A0 l0.length c0] w fun e w' => e = .returned (.int .i64 r) ∧ Below w.heap.size w w' := by
  have hmf : ∀ (fn : Fn) (first cap : Array Value) (w : World), (Instr.makeFunc fn first cap).run Try.prog w = .ok (.func fn first cap) w := fun _ _ _ _ => rfl
  have HR0 := Aside0.mk hr0
  have HC0 := Aside0.mk hc0
  have hm := hr0.2.1
  clear hr0 hc0
  obtain rfl := Option.some.inj h
  clear h
  go_enter Try.func12, Try.ntmps12
  go_wp2
  go_loopw [13] (fun v wr => ∃ k : Nat, k ≤ l0.length ∧ v = .int .i64 k ∧ Aside0 (wr.heap[w.heap.size]? = some (.cells #[.int .i64 (H.crcB (l0.take k)).toNat, .int .i64 15, .int .i64 17817] 43 (0, 0))) ∧ Aside0 (Below w.heap.size w wr)) (fun v _ => l0.length - (intOf v).toNat)
  case atStart => exact ⟨0, Nat.zero_le _, rfl, ⟨blk_new _ _⟩, ⟨below_alloc (Below.refl _ _) _⟩⟩
  case round =>
    obtain ⟨k, hk, rfl, HB, HW⟩ := hrel
    by_cases hlt : k < l0.length
    · have p1 : 0 ≤ (k : Int) := by omega
      have q1 : (k : Int) < (l0.length : Int) := by omega
      obtain ⟨ad, e1, hx⟩ := Kd.at_int HR0.out k p1 q1
      cases e1
      have hx2 : wr.cell? (ad.add k) = some (.int .i64 (rd l0 k)) := pw_cell_below HW.out hx
      clear hx
      go_wp2_with fail
      refine (crc_take15 w.heap.size w.heap.size (H.crcB (l0.take k)) (rd l0 k) w _ HB.out HW.out (Nat.le_refl _)).mono ?_
      rintro e w1 ⟨rfl, hb1, hw1⟩
      have HB1 := Aside0.mk hb1
      have HW1 := Aside0.mk hw1
      clear hb1 hw1
      go_wp2_with fail
      go_roundw
      case rel => exact ⟨k + 1, by omega, by go_num, ⟨by rw [H.take_snoc 0 l0 k hlt, H.crcB_snoc]; exact HB1.out⟩, HW1⟩
      case measure => simp [intOf]; omega
    · obtain rfl : k = l0.length := by omega
      have c0 : wr.cell? ⟨w.heap.size, 0, none⟩ = some (.int .i64 (H.crcB l0).toNat) := by rw [blk_cell HB.out, List.take_length]; rfl
      go_wp2_with fail
      go_ret
      exact ⟨rfl, HW.out⟩

/-! ### crc_Byte: function 14 -/
def crc_Byte.f (l0 : List Int) : Option Int := some (Go.bits .xor .i64 ((H.crcX l0).toNat : Int) 255)
def regK (x : Int) (s : BitVec 8) (i : Nat) : BitVec 8 := (List.range i).foldl (fun s j => H.regB 0x1D#8 s (H.bit8 x j)) s
theorem regK_snoc (x : Int) (s : BitVec 8) (i : Nat) : regK x s (i + 1) = H.regB 0x1D#8 (regK x s i) (H.bit8 x i) := by simp [regK, List.range_succ, List.foldl_append]
theorem regK_8 (x : Int) (s : BitVec 8) : regK x s 8 = H.regX s x := rfl
theorem crcX_snoc (l : List Int) (x : Int) : H.crcX (l ++ [x]) = H.regX (H.crcX l) x := by simp [H.crcX, List.foldl_append]
set_option maxHeartbeats 800000 in
set_option maxRecDepth 100000 in
theorem crc_Byte.calls (A0 : Option Addr) (c0 : Nat) (l0 : List Int) (r : Int) (w : World) (hr0 : Kd.C (Kd.int .u8) w A0 l0.length l0) (hc0 : l0.length ≤ c0) (h : crc_Byte.f l0 = some r) :
    Calls Try.prog 14 #[.slice A0 l0.length c0] w fun e w' => e = .returned (.int .i64 r) ∧ Below w.heap.size w w' := by
  have HR0 := Aside0.mk hr0
  have HC0 := Aside0.mk hc0
  have hm := hr0.2.1
  clear hr0 hc0
  obtain rfl := Option.some.inj h
  clear h
  go_enter Try.func14, Try.ntmps14
  go_wp2
  go_loopw [11] (fun v wr => ∃ k : Nat, k ≤ l0.length ∧ v = .int .i64 k ∧ Aside0 (wr.heap[w.heap.size]? = some (.cells #[.int .i64 (H.crcX (l0.take k)).toNat, .int .i64 8, .int .i64 29] 43 (0, 0))) ∧ Aside0 (Below w.heap.size w wr)) (fun v _ => l0.length - (intOf v).toNat)
  case atStart => exact ⟨0, Nat.zero_le _, rfl, ⟨blk_new _ _⟩, ⟨below_alloc (Below.refl _ _) _⟩⟩
  case round =>
    obtain ⟨k, hk, rfl, HB, HW⟩ := hrel
    by_cases hlt : k < l0.length
    · have p1 : 0 ≤ (k : Int) := by omega
      have q1 : (k : Int) < (l0.length : Int) := by omega
      obtain ⟨ad, e1, hx⟩ := Kd.at_int HR0.out k p1 q1
      cases e1
      have hx2 : wr.cell? (ad.add k) = some (.int .u8 (rd l0 k)) := pw_cell_below HW.out hx
      clear hx
      obtain ⟨wo, hwo⟩ : ∃ wo : World, wo = wr := ⟨_, rfl⟩
      subst hwo
      go_wp2_with fail
      go_loopw [15] (fun v wr => ∃ j : Nat, j ≤ 8 ∧ v = .int .i64 j ∧ Aside0 (wr.heap[w.heap.size]? = some (.cells #[.int .i64 (regK (rd l0 k) (H.crcX (l0.take k)) j).toNat, .int .i64 8, .int .i64 29] 43 (0, 0))) ∧ Aside0 (Below w.heap.size w wr)) (fun v _ => 8 - (intOf v).toNat)
      case atStart => exact ⟨0, Nat.zero_le _, rfl, HB, HW⟩
      case round =>
        obtain ⟨j, hj, rfl, HB, HW⟩ := hrel
        by_cases hlj : j < 8
        · go_wp2_with fail
          rw [H.and_one]
          refine (crc_take8 w.heap.size w.heap.size (regK (rd l0 k) (H.crcX (l0.take k)) j) (H.bit8 (rd l0 k) j) w _ HB.out HW.out (Nat.le_refl _)).mono ?_
          rintro e w1 ⟨rfl, hb1, hw1⟩
          have HB1 := Aside0.mk hb1
          have HW1 := Aside0.mk hw1
          clear hb1 hw1
          go_wp2_with fail
          go_roundw
          case rel => exact ⟨j + 1, by omega, by go_num, ⟨by rw [regK_snoc]; exact HB1.out⟩, HW1⟩
          case measure => simp [intOf]; omega
        · obtain rfl : j = 8 := by omega
          go_wp2_with fail
          go_roundw
          case rel => exact ⟨k + 1, by omega, by go_num, ⟨by rw [H.take_snoc 0 l0 k hlt, crcX_snoc, ← regK_8]; exact HB.out⟩, HW⟩
          case measure => simp [intOf]; omega
    · obtain rfl : k = l0.length := by omega
      have c0 : wr.cell? ⟨w.heap.size, 0, none⟩ = some (.int .i64 (H.crcX l0).toNat) := by rw [blk_cell HB.out, List.take_length]; rfl
      go_wp2_with fail
      go_ret
      exact ⟨rfl, HW.out⟩

/-! ### crc_More: function 18 -/
def crc_More.f (a0 : Int) (l1 : List Int) : Option Int := some ((H.moreW a0 l1).toNat : Int)
theorem crc_oneW (c : BitVec 32) : Go.bits .xor .u32 ((c.toNat : Int) / 2) (3988292384 * Go.bits .and .u32 (c.toNat : Int) 1 % 4294967296) = ((H.oneW c).toNat : Int) := by
  have hc := c.isLt
  have h := H.and_u32 c.toNat 1 (by omega) (by decide)
  have h1 : c.toNat &&& 1 = c.toNat % 2 := Nat.and_two_pow_sub_one_eq_mod _ 1
  rw [h1] at h
  have h' : Go.bits .and .u32 (c.toNat : Int) 1 = ((c.toNat % 2 : Nat) : Int) := h
  rw [h']
  have h2 : (c >>> 1 : BitVec 32).toNat = c.toNat / 2 := by rw [BitVec.toNat_ushiftRight, Nat.shiftRight_eq_div_pow]
  have h3 : ((c.toNat : Int) / 2) = ((c.toNat / 2 : Nat) : Int) := by omega
  rw [h3]
  unfold H.oneW
  rcases Nat.mod_two_eq_zero_or_one c.toNat with h0 | h0
  · rw [h0, if_neg (by decide), BitVec.xor_zero, h2]
    have := H.xor_u32 (c.toNat / 2) 0 (by omega) (by decide)
    rw [Nat.xor_zero] at this
    exact this
  · rw [h0, if_pos rfl, BitVec.toNat_xor, h2]
    exact H.xor_u32 (c.toNat / 2) 3988292384 (by omega) (by decide)
set_option maxHeartbeats 800000 in
theorem crc_one (c : BitVec 32) (w : World) : Calls Try.prog 23 #[.int .u32 c.toNat] w fun e w' => e = .returned (.int .u32 (H.oneW c).toNat) ∧ w = w' := by
  have h0 : 0 ≤ (c.toNat : Int) := by omega
  have h1 : (c.toNat : Int) ≤ 4294967295 := by have := c.isLt; omega
  go_enter Try.func23, Try.ntmps23
  go_wp2
  go_ret
  refine ⟨?_, rfl⟩
  show Ending.returned (.int .u32 _) = _
  rw [crc_oneW]
theorem crc_notW (c : BitVec 32) : Go.bits .xor .u32 IntKind.u32.max (c.toNat : Int) = ((~~~ c).toNat : Int) := by
  have h := H.xor_u32 4294967295 c.toNat (by decide) c.isLt
  rw [show (IntKind.u32.max : Int) = ((4294967295 : Nat) : Int) from rfl, h, ← BitVec.allOnes_xor, BitVec.toNat_xor]
  rfl
theorem crc_ofInt (a : Int) : a % 4294967296 = ((BitVec.ofInt 32 a).toNat : Int) := by rw [BitVec.toNat_ofInt]; omega
theorem crc_byteW (c : BitVec 32) (x : Int) : Go.bits .xor .u32 (c.toNat : Int) (x % 4294967296) = ((c ^^^ BitVec.ofInt 32 x).toNat : Int) := by
  rw [crc_ofInt, H.xor_u32 _ _ c.isLt (BitVec.ofInt 32 x).isLt, BitVec.toNat_xor]
theorem crc_wrapW (c : BitVec 32) : wrap64 (c.toNat : Int) = c.toNat := by have := c.isLt; unfold wrap64; omega
def crc_times : Nat → BitVec 32 → BitVec 32
  | 0, c => c
  | n + 1, c => H.oneW (crc_times n c)
theorem crcW_snoc (c : BitVec 32) (l : List Int) (x : Int) : H.crcW c (l ++ [x]) = H.byteW (H.crcW c l) x := by simp [H.crcW, List.foldl_append]
set_option maxHeartbeats 800000 in
set_option maxRecDepth 100000 in
theorem crc_More.calls (a0 : Int) (A1 : Option Addr) (c1 : Nat) (l1 : List Int) (r : Int) (w : World) (hr1 : Kd.C (Kd.int .u8) w A1 l1.length l1) (hc1 : l1.length ≤ c1) (h : crc_More.f a0 l1 = some r) :
    Calls Try.prog 18 #[.int .i64 a0, .slice A1 l1.length c1] w fun e w' => e = .returned (.int .i64 r) ∧ Below w.heap.size w w' := by
  have hmf : ∀ (fn : Fn) (first cap : Array Value) (w : World), (Instr.makeFunc fn first cap).run Try.prog w = .ok (.func fn first cap) w := fun _ _ _ _ => rfl
  have HR1 := Aside0.mk hr1
  have HC1 := Aside0.mk hc1
  have hm := hr1.2.1
  clear hr1 hc1
  obtain rfl := Option.some.inj h
  clear h
  go_enter Try.func18, Try.ntmps18
  rw [show H.moreW a0 l1 = ~~~ H.crcW (~~~ BitVec.ofInt 32 a0) l1 from rfl]
  have hstart := Aside0.mk (crc_notW (BitVec.ofInt 32 a0))
  have hst2 := Aside0.mk (crc_ofInt a0)
  go_wp2
  go_loopw [6, 15] (fun u v wr => ∃ k : Nat, k ≤ l1.length ∧ v = .int .i64 k ∧ u = .int .u32 (H.crcW (~~~ BitVec.ofInt 32 a0) (l1.take k)).toNat ∧ Aside0 (wr.heap[w.heap.size]? = some (.cells #[.func (.func 23) #[] #[]] 48 (0, 0))) ∧ Aside0 (Below w.heap.size w wr)) (fun _ v _ => l1.length - (intOf v).toNat)
  case atStart => exact ⟨0, Nat.zero_le _, rfl, by rw [hst2.out]; exact congrArg _ hstart.out, ⟨blk_new _ _⟩, ⟨below_alloc (Below.refl _ _) _⟩⟩
  case round =>
    obtain ⟨k, hk, rfl, rfl, HB, HW⟩ := hrel
    by_cases hlt : k < l1.length
    · have p1 : 0 ≤ (k : Int) := by omega
      have q1 : (k : Int) < (l1.length : Int) := by omega
      obtain ⟨ad, e1, hx⟩ := Kd.at_int HR1.out k p1 q1
      cases e1
      have hx2 : wr.cell? (ad.add k) = some (.int .u8 (rd l1 k)) := pw_cell_below HW.out hx
      clear hx
      obtain ⟨wo, hwo⟩ : ∃ wo : World, wo = wr := ⟨_, rfl⟩
      subst hwo
      have HC := Aside0.mk (crc_byteW (H.crcW (~~~ BitVec.ofInt 32 a0) (l1.take k)) (rd l1 k))
      generalize hcc : H.crcW (~~~ BitVec.ofInt 32 a0) (l1.take k) = cc at *
      have HCC := Aside0.mk hcc
      clear hcc
      go_wp2_with fail
      go_loopw [6, 23] (fun u v wr => ∃ j : Nat, j ≤ 8 ∧ v = .int .i64 j ∧ u = .int .u32 (crc_times j (cc ^^^ BitVec.ofInt 32 (rd l1 k))).toNat ∧ wr = wo) (fun _ v _ => 8 - (intOf v).toNat)
      case atStart => exact ⟨0, Nat.zero_le _, rfl, congrArg _ HC.out, rfl⟩
      case round =>
        obtain ⟨j, hj, rfl, rfl, rfl⟩ := hrel
        by_cases hlj : j < 8
        · have c9 : wr.cell? ⟨w.heap.size, 0, none⟩ = some (.func (.func 23) #[] #[]) := by rw [blk_cell HB.out]; rfl
          go_wp2_with fail
          refine (crc_one (crc_times j (cc ^^^ BitVec.ofInt 32 (rd l1 k))) _).mono ?_
          rintro e w1 ⟨rfl, rfl⟩
          go_wp2_with fail
          go_roundw
          case rel => exact ⟨j + 1, by omega, by go_num, rfl, by first | rfl | trivial⟩
          case measure => simp [intOf]; omega
        · obtain rfl : j = 8 := by omega
          go_wp2_with fail
          go_roundw
          case rel => exact ⟨k + 1, by omega, by go_num, by rw [H.take_snoc 0 l1 k hlt, crcW_snoc, HCC.out]; rfl, HB, HW⟩
          case measure => simp [intOf]; omega
    · obtain rfl : k = l1.length := by omega
      rw [List.take_length]
      have HN := Aside0.mk (crc_notW (H.crcW (~~~ BitVec.ofInt 32 a0) l1))
      have hb0 : 0 ≤ ((~~~ H.crcW (~~~ BitVec.ofInt 32 a0) l1).toNat : Int) := by omega
      have hb1 : ((~~~ H.crcW (~~~ BitVec.ofInt 32 a0) l1).toNat : Int) ≤ 4294967295 := by have := (~~~ H.crcW (~~~ BitVec.ofInt 32 a0) l1).isLt; omega
      generalize hcc : (H.crcW (~~~ BitVec.ofInt 32 a0) l1) = cc at *
      have HCC := Aside0.mk hcc
      clear hcc
      go_wp2_with fail
      go_ret
      refine ⟨?_, HW.out⟩
      rw [HCC.out]
      show Ending.returned (.int .i64 (wrap64 _)) = _
      rw [HN.out]
      rw [crc_wrapW]

/-! ### crc_Word: function 16 -/
def crc_Word.f (l0 : List Int) : Option (Int) := (crc_More.f 0 l0).bind fun t101 => (some t101)
set_option maxHeartbeats 8000000 in
set_option maxRecDepth 100000 in
theorem crc_Word.calls (A0 : Option Addr) (c0 : Nat) (l0 : List Int) (r : Int) (w : World) (hr0 : Kd.C (Kd.int .u8) w A0 l0.length l0) (hc0 : l0.length ≤ c0) (h : crc_Word.f l0 = some r) :
    Calls Try.prog 16 #[.slice A0 l0.length c0] w fun e w' => e = .returned (.int .i64 r) ∧ Below w.heap.size w w' := by
  have HR0 := Aside0.mk hr0
  have HC0 := Aside0.mk hc0
  clear hr0 hc0
  have HB := Aside0.mk (Below.refl w.heap.size w)
  have H : ((crc_More.f 0 l0).bind fun t101 => (some t101)) = some r := h
  clear h
  replace H := Option.bind_eq_some_iff.mp H
  obtain ⟨t101, A20, H⟩ := H
  replace H : (some t101) = some r := H
  have A2 := Aside0.mk A20
  clear A20
  obtain rfl := Option.some.inj H
  go_enter Try.func16, Try.ntmps16
  go_wp2_with (first | ((with_reducible refine gate_callee (f := 18) rfl ?_); refine goesL_ (some 4) rfl rfl Try.func18 (by kernel_rfl) rfl #[.int .i64 0, .slice A0 l0.length c0] rfl (by (try simp only [List.map_toArray, List.map_cons, List.map_nil]); first | done | rfl | (simp only [List.length_drop, List.length_take]; rfl)) ?_; (with_reducible refine (crc_More.calls 0 _ _ l0 t101 _ ?side1 ?side2 A2.out).mono ?_); (case side1 => repeat (first | exact HR0.out | (with_reducible refine Kd.C_alloc ?_ _) | (with_reducible refine Kd.C_drewN ?_ _) | (with_reducible refine Kd.C_drew ?_))); (case side2 => exact HC0.out); rintro e w3 ⟨rfl, hb⟩; refine ⟨_, rfl, ?_⟩; have n0_ := Aside0.mk (below_step (by repeat (first | (with_reducible first | exact HB.out | apply below_alloc | apply pw_below_drewN | apply below_drew1) | exact HB.out)) hb); clear HB; have HB := n0_; clear n0_; (try clear hb); (try clear hb2); (try clear hk); (try clear hi)))
  go_ret
  exact ⟨by first | rfl | (simp [errW_none, errW_some] <;> rfl) | (simp [*, errW_none, errW_some] <;> rfl), by repeat (first | (with_reducible first | exact HB.out | apply below_alloc | apply pw_below_drewN | apply below_drew1) | exact HB.out)⟩

/-! ### phaetonref01_Put: function 21 -/
mutual
def phaetonref01_Put.j0 : Nat → Int → Int → Bool → Option (List Int × Bool)
  | 0, _, _, _ => none
  | k + 1, x0, x1, x23 => if x23 = true then (some (([] : List Int), false)) else (phaetonref01_Put.l0 k x0 ([] : List Int) (wrap64 (x1 - 1)))
def phaetonref01_Put.l0 : Nat → Int → List Int → Int → Option (List Int × Bool)
  | 0, _, _, _ => none
  | k + 1, x0, x6, x7 => if x7 ≥ 0 then (if 0 ≤ x7 then (if x6.length < 17592186044416 then (phaetonref01_Put.l0 k x0 (x6 ++ [Go.bits .and .i64 (shr .i64 x0 x7) 1]) (wrap64 (x7 - 1))) else (none)) else (none)) else (some (x6, true))
end
def phaetonref01_Put.f (k : Nat) (a0 : Int) (a1 : Int) : Option (List Int × Bool) := if a1 < 0 then (phaetonref01_Put.j0 k a0 a1 true) else (if a1 > 32 then (phaetonref01_Put.j0 k a0 a1 true) else (if a0 < 0 then (phaetonref01_Put.j0 k a0 a1 true) else (if 0 ≤ a1 then (phaetonref01_Put.j0 k a0 a1 (decide (a0 ≥ (shl .i64 1 a1)))) else (none))))
theorem phaetonref01_Put.mono_l : ∀ k, (∀ y0 y1 y2, LeO (phaetonref01_Put.j0 k y0 y1 y2) (phaetonref01_Put.j0 (k + 1) y0 y1 y2)) ∧ (∀ y0 y1 y2, LeO (phaetonref01_Put.l0 k y0 y1 y2) (phaetonref01_Put.l0 (k + 1) y0 y1 y2))
  | 0 => ⟨fun _ _ _ r h => by simp [phaetonref01_Put.j0] at h, fun _ _ _ r h => by simp [phaetonref01_Put.l0] at h⟩
  | k + 1 => by
    obtain ⟨ih0, ih1⟩ := phaetonref01_Put.mono_l k
    refine ⟨?_, ?_⟩
    · intro y0 y1 y2
      unfold phaetonref01_Put.j0
      repeat' first
      | (with_reducible exact ih0 _ _ _)
      | (with_reducible exact ih1 _ _ _)
      | (with_reducible exact LeO.refl _)
      | (with_reducible exact LeO.none _)
      | (with_reducible refine LeO.ite ?_ ?_)
      | (with_reducible refine LeO.bind ?_ (fun _ => ?_))
      | exact ih0 _ _ _
      | exact ih1 _ _ _
      | exact LeO.none _
      | refine LeO.ite ?_ ?_
      | refine LeO.bind ?_ (fun _ => ?_)
    · intro y0 y1 y2
      unfold phaetonref01_Put.l0
      repeat' first
      | (with_reducible exact ih0 _ _ _)
      | (with_reducible exact ih1 _ _ _)
      | (with_reducible exact LeO.refl _)
      | (with_reducible exact LeO.none _)
      | (with_reducible refine LeO.ite ?_ ?_)
      | (with_reducible refine LeO.bind ?_ (fun _ => ?_))
      | exact ih0 _ _ _
      | exact ih1 _ _ _
      | exact LeO.none _
      | refine LeO.ite ?_ ?_
      | refine LeO.bind ?_ (fun _ => ?_)
theorem phaetonref01_Put.mono : ∀ a0 a1 k, LeO (phaetonref01_Put.f k a0 a1) (phaetonref01_Put.f (k + 1) a0 a1) := by
  intro a0 a1 k
  obtain ⟨ih0, ih1⟩ := phaetonref01_Put.mono_l k
  unfold phaetonref01_Put.f
  repeat' first
      | (with_reducible exact ih0 _ _ _)
      | (with_reducible exact ih1 _ _ _)
      | (with_reducible exact LeO.refl _)
      | (with_reducible exact LeO.none _)
      | (with_reducible refine LeO.ite ?_ ?_)
      | (with_reducible refine LeO.bind ?_ (fun _ => ?_))
      | exact ih0 _ _ _
      | exact ih1 _ _ _
      | exact LeO.none _
      | refine LeO.ite ?_ ?_
      | refine LeO.bind ?_ (fun _ => ?_)
set_option maxHeartbeats 8000000 in
set_option maxRecDepth 100000 in
theorem phaetonref01_Put.calls (k : Nat) (a0 : Int) (a1 : Int) (r1 : List Int) (r2 : Bool) (w : World) (h : phaetonref01_Put.f k a0 a1 = some (r1, r2)) :
    Calls Try.prog 21 #[.int .i64 a0, .int .i64 a1] w fun e w' => ∃ v0_ : Value, e = .returned (.tuple #[v0_, .bool r2]) ∧ Kd.R (Kd.int .i64) 3 w' w.heap.size (fun _ => True) v0_ r1 ∧ Below w.heap.size w w' := by
  have HB := Aside0.mk (Below.refl w.heap.size w)
  have H : (if a1 < 0 then (phaetonref01_Put.j0 k a0 a1 true) else (if a1 > 32 then (phaetonref01_Put.j0 k a0 a1 true) else (if a0 < 0 then (phaetonref01_Put.j0 k a0 a1 true) else (if 0 ≤ a1 then (phaetonref01_Put.j0 k a0 a1 (decide (a0 ≥ (shl .i64 1 a1)))) else (none))))) = some (r1, r2) := h
  clear h
  have HC3 := Aside0.mk H
  clear H
  go_enter Try.func21, Try.ntmps21
  go_upto_region 1 with (fail)
  go_cut [23] (fun v23 wc => ∃ (kq : Nat) (x23_2 : Bool), v23 = .bool x23_2 ∧ Aside0 (phaetonref01_Put.j0 kq a0 a1 x23_2 = some (r1, r2)) ∧ Aside0 (kq ≤ k) ∧ Aside0 (Below w.heap.size w wc))
  case first =>
    have H := HC3.out
    clear HC3
    by_cases c4 : a1 < 0
    · rw [if_pos c4] at H
      have c4b0 : decide (a1 < 0) = true := decide_eq_true c4
      clear c4
      (first | rw [c4b0] | (simp only [i64_w, i32_w]; rw [c4b0]) | skip)
      have H' := Aside0.mk H
      clear H
      go_wp2
      go_meet
      case rel => exact ⟨_, (true), (by first | rfl | (simp; done) | (simp [*]; done)), H', ⟨by first | omega | exact Nat.le_refl _⟩, ⟨by repeat (first | (with_reducible first | exact HB.out | apply below_alloc | apply pw_below_drewN | apply below_drew1) | exact HB.out)⟩⟩
    · rw [if_neg c4] at H
      have c4b0 : decide (a1 < 0) = false := decide_eq_false c4
      clear c4
      (first | rw [c4b0] | (simp only [i64_w, i32_w]; rw [c4b0]) | skip)
      by_cases c5 : a1 > 32
      · rw [if_pos c5] at H
        have c5b0 : decide (32 < a1) = true := decide_eq_true c5
        clear c5
        have H' := Aside0.mk H
        clear H
        go_wp2
        go_meet
        case rel => exact ⟨_, (true), (by first | rfl | (simp; done) | (simp [*]; done)), H', ⟨by first | omega | exact Nat.le_refl _⟩, ⟨by repeat (first | (with_reducible first | exact HB.out | apply below_alloc | apply pw_below_drewN | apply below_drew1) | exact HB.out)⟩⟩
      · rw [if_neg c5] at H
        have c5b0 : decide (32 < a1) = false := decide_eq_false c5
        clear c5
        by_cases c6 : a0 < 0
        · rw [if_pos c6] at H
          have c6b0 : decide (a0 < 0) = true := decide_eq_true c6
          clear c6
          have H' := Aside0.mk H
          clear H
          go_wp2
          go_meet
          case rel => exact ⟨_, (true), (by first | rfl | (simp; done) | (simp [*]; done)), H', ⟨by first | omega | exact Nat.le_refl _⟩, ⟨by repeat (first | (with_reducible first | exact HB.out | apply below_alloc | apply pw_below_drewN | apply below_drew1) | exact HB.out)⟩⟩
        · rw [if_neg c6] at H
          have c6b0 : decide (a0 < 0) = false := decide_eq_false c6
          clear c6
          by_cases c7 : 0 ≤ a1
          · rw [if_pos c7] at H
            have c7b0 := eq_true c7
            have c7b1 : decide (0 ≤ a1) = true := decide_eq_true c7
            clear c7
            obtain ⟨ji8, hji8⟩ : ∃ j_ : Int, (shl .i64 1 a1) = j_ := ⟨_, rfl⟩
            replace H : (phaetonref01_Put.j0 k a0 a1 (decide (a0 ≥ (ji8)))) = some (r1, r2) := by first | (rw [hji8] at H; exact H) | (simp only [hji8] at H ⊢; exact H)
            have hji8_ : (IntKind.i64.wrap (1 * 2 ^ min a1.toNat 64)) = ji8 := hji8
            have hji8z : a1 ≤ 64 → (IntKind.i64.wrap (1 * 2 ^ a1.toNat)) = ji8 := shl_small hji8
            have hji8u : (IntKind.i64.wrap (2 ^ min a1.toNat 64)) = ji8 := by have h_ := hji8_; rw [Int.one_mul] at h_; exact h_
            have hji8v : a1 ≤ 64 → (IntKind.i64.wrap (2 ^ a1.toNat)) = ji8 := fun hle_ => by have h_ := hji8z hle_; rw [Int.one_mul] at h_; exact h_
            have hji8y : (wrap64 (1 * 2 ^ min a1.toNat 64)) = ji8 := (i64_w _).symm.trans hji8_
            have hji8x : a1 ≤ 64 → (wrap64 (1 * 2 ^ a1.toNat)) = ji8 := fun h_ => (i64_w _).symm.trans (hji8z h_)
            have H' := Aside0.mk H
            clear H
            go_wp2
            go_meet
            case rel => exact ⟨_, (decide (a0 ≥ (ji8))), (by first | rfl | (simp; done) | (simp only [← hji8] <;> (first | rfl | simp)) | (simp [*]; done)), H', ⟨by first | omega | exact Nat.le_refl _⟩, ⟨by repeat (first | (with_reducible first | exact HB.out | apply below_alloc | apply pw_below_drewN | apply below_drew1) | exact HB.out)⟩⟩
          · rw [if_neg c7] at H
            exact absurd H (by simp)
  case rest =>
    clear HC3
    try clear c2
    try clear p2
    try clear c4
    try clear c4b0
    try clear c5
    try clear c5b0
    try clear c6
    try clear c6b0
    try clear p6
    try clear c7
    try clear c7b0
    try clear c7b1
    obtain ⟨kq, x23_2, rfl, HA, HJ2, HB⟩ := hcut
    cases kq with
    | zero => exact absurd HA.out (by simp [phaetonref01_Put.j0])
    | succ kj2 =>
      have H := HA.out
      clear HA
      simp only [phaetonref01_Put.j0] at H
      by_cases c9 : x23_2 = true
      · subst c9
        have H1 : (some (([] : List Int), false)) = some (r1, r2) := by rw [if_pos rfl] at H; exact H
        clear H
        have H := H1
        clear H1
        simp only [Option.some.injEq, Prod.mk.injEq] at H
        obtain ⟨rfl, rfl⟩ := H
        go_wp2
        go_ret2
        exact ⟨_, by first | rfl | (simp [errW_none, errW_some] <;> rfl) | (simp [*, errW_none, errW_some] <;> rfl), by first | exact Kd.R_nil _ _ _ _ _ | exact Kd.N_nil _ _ _ _ _ | exact Kd.V_nil _ _ _ _ _ | exact Kd.Q_nil _ _ _ _ _ | exact Kd.S_nil _ _ _ _ _, by repeat (first | (with_reducible first | exact HB.out | apply below_alloc | apply pw_below_drewN | apply below_drew1) | exact HB.out)⟩
      · replace c9 := Bool.eq_false_iff.mpr c9
        subst c9
        have H1 : (phaetonref01_Put.l0 kj2 a0 ([] : List Int) (wrap64 (a1 - 1))) = some (r1, r2) := by rw [if_neg (show ¬ (false = true) by decide)] at H; exact H
        clear H
        have H := H1
        clear H1
        have H' := Aside0.mk H
        clear H
        go_wp2
        go_loopg [6, 7] kj2 (fun kq v6 v7 w' => ∃ (x6_2 : List Int) (x7_2 : Int), v7 = .int .i64 x7_2 ∧ Aside0 (phaetonref01_Put.l0 kq a0 x6_2 x7_2 = some (r1, r2)) ∧ Aside0 (kq ≤ kj2) ∧ Aside0 (Kd.R (Kd.int .i64) 3 w' w.heap.size (fun _ => True) v6 x6_2) ∧ Aside0 (Below w.heap.size w w'))
        case atStart => exact ⟨(([] : List Int)), (wrap64 (a1 - 1)), (by first | rfl | (simp; done) | (simp [*]; done)), H', ⟨Nat.le_refl _⟩, ⟨by first | exact Kd.R_nil _ _ _ _ _ | exact Kd.N_nil _ _ _ _ _ | exact Kd.V_nil _ _ _ _ _ | exact Kd.Q_nil _ _ _ _ _ | exact Kd.S_nil _ _ _ _ _⟩, ⟨by repeat (first | (with_reducible first | exact HB.out | apply below_alloc | apply pw_below_drewN | apply below_drew1) | exact HB.out)⟩⟩
        case round =>
          clear H'
          try clear c2
          try clear p2
          try clear c4
          try clear c4b0
          try clear c5
          try clear c5b0
          try clear c6
          try clear c6b0
          try clear p6
          try clear c7
          try clear c7b0
          try clear c7b1
          try clear c9
          try clear p2
          try clear p6
          obtain ⟨x6_2, x7_2, rfl, HA, HK2, HO_6, HB⟩ := hrel
          cases gk with
          | zero => exact absurd HA.out (by simp [phaetonref01_Put.l0])
          | succ k2 =>
            have H := HA.out
            clear HA
            simp only [phaetonref01_Put.l0] at H
            by_cases c10 : x7_2 ≥ 0
            · rw [if_pos c10] at H
              have c10b0 : decide (0 ≤ x7_2) = true := decide_eq_true c10
              clear c10
              by_cases c11 : 0 ≤ x7_2
              · rw [if_pos c11] at H
                have c11b0 := eq_true c11
                have c11b1 : decide (0 ≤ x7_2) = true := decide_eq_true c11
                clear c11
                obtain ⟨ji12, hji12⟩ : ∃ j_ : Int, (shr .i64 a0 x7_2) = j_ := ⟨_, rfl⟩
                replace H : (if x6_2.length < 17592186044416 then (phaetonref01_Put.l0 k2 a0 (x6_2 ++ [Go.bits .and .i64 (ji12) 1]) (wrap64 (x7_2 - 1))) else (none)) = some (r1, r2) := by first | (rw [hji12] at H; exact H) | (simp only [hji12] at H ⊢; exact H)
                have hji12_ : (a0 / 2 ^ min x7_2.toNat 64) = ji12 := hji12
                have hji12z : x7_2 ≤ 64 → (a0 / 2 ^ x7_2.toNat) = ji12 := shr_small hji12
                by_cases c13 : x6_2.length < 17592186044416
                · rw [if_pos c13] at H
                  have LMc13 := Aside0.mk c13
                  clear c13
                  obtain ⟨y102, hy102⟩ : ∃ y_ : List Int, y_ = (x6_2 ++ [Go.bits .and .i64 (ji12) 1]) := ⟨_, rfl⟩
                  replace H : (phaetonref01_Put.l0 k2 a0 y102 (wrap64 (x7_2 - 1))) = some (r1, r2) := by first | (rw [hy102]; with_reducible exact H) | (have H2_ := (Option.bind_some _ _).symm.trans H; rw [hy102]; with_reducible exact H2_) | (have H2_ := (Option.bind_some _ _).symm.trans H; with_reducible exact H2_) | with_reducible exact H | (rw [hy102]; exact H) | exact H
                  have Ny102 := Aside0.mk hy102
                  clear hy102
                  have H' := Aside0.mk H
                  clear H
                  go_wp2_with (first | ((with_reducible refine gate_builtin (b := .append) (xs := #[.tmp 30, .tmp 35]) rfl ?_); at_builtin; refine Kd.R_append (Kd.int .i64) (w0 := w) w.heap.size rfl (.tmp 30) (.tmp 35) 22 3 (.int .i64 0) 8 rfl Try.underlying22 info3 rfl (by decide) (by omega) u6 x6_2 (Go.bits .and .i64 (ji12) 1) [.int .i64 (Go.bits .and .i64 (ji12) 1)] (fun _ => True) (fun _ => False) rfl rfl ?aP (fun _ hk => hk.elim) ?aF ?aO ?aB ?aS ?aL ?_; (case aP => exact rfl); (case aB => exact (by repeat (first | (with_reducible first | exact HB.out | apply below_alloc | apply pw_below_drewN | apply below_drew1) | exact HB.out))); (case aF => exact (fun _ _ => trivial)); (case aO => exact (by (with_reducible repeat (first | apply Kd.R_alloc | apply Kd.R_drewN | apply Kd.R_drew)); exact HO_6.out)); (case aS => exact (below_size (by repeat (first | (with_reducible first | exact HB.out | apply below_alloc | apply pw_below_drewN | apply below_drew1) | exact HB.out)))); (case aL => have := LMc13.out; omega); intro v103 w14 ho hb hg hat; rw [← Ny102.out] at ho; have n0_ := Aside0.mk (hb); have n1_ := Aside0.mk (ho); clear HB; clear HO_6; have HB := n0_; have HO104 := n1_; clear n0_ n1_; clear ho hb hg hat))
                  go_roundg k2
                  case measure => have := HJ2.out; have := HK2.out; omega
                  case rel => exact ⟨(y102), (wrap64 (x7_2 - 1)), (by first | rfl | (simp; done) | (simp [*]; done)), H', ⟨by have := HJ2.out; have := HK2.out; omega⟩, ⟨by (with_reducible repeat (first | apply Kd.R_alloc | apply Kd.R_drewN | apply Kd.R_drew)); exact HO104.out⟩, ⟨by repeat (first | (with_reducible first | exact HB.out | apply below_alloc | apply pw_below_drewN | apply below_drew1) | exact HB.out)⟩⟩
                · rw [if_neg c13] at H
                  exact absurd H (by simp)
              · rw [if_neg c11] at H
                exact absurd H (by simp)
            · rw [if_neg c10] at H
              have c10b0 : decide (0 ≤ x7_2) = false := decide_eq_false c10
              clear c10
              simp only [Option.some.injEq, Prod.mk.injEq] at H
              obtain ⟨rfl, rfl⟩ := H
              go_wp2
              go_ret2
              exact ⟨_, by first | rfl | (simp [errW_none, errW_some] <;> rfl) | (simp [*, errW_none, errW_some] <;> rfl), by (with_reducible repeat (first | apply Kd.R_alloc | apply Kd.R_drewN | apply Kd.R_drew)); exact HO_6.out, by repeat (first | (with_reducible first | exact HB.out | apply below_alloc | apply pw_below_drewN | apply below_drew1) | exact HB.out)⟩

/-! ### phaetonref01_Spread: function 20 -/
def phaetonref01_Spread.l0 : Nat → List Int → List Int → Int → Option (List Int)
  | 0, _, _, _ => none
  | k + 1, x0, x3, x4 => if x4 < (x0.length : Int) then (if 0 ≤ x4 then ((phaetonref01_Put.f k (wrap64 (rd x0 x4)) 8).bind fun bt106 => (if x3.length + bt106.1.length < 17592186044416 then (phaetonref01_Spread.l0 k x0 (x3 ++ bt106.1) (wrap64 (x4 + 1))) else (none))) else (none)) else (some x3)
def phaetonref01_Spread.f (k : Nat) (l0 : List Int) : Option (List Int) := phaetonref01_Spread.l0 k l0 ([] : List Int) 0
theorem phaetonref01_Spread.mono_l : ∀ k, (∀ y0 y1 y2, LeO (phaetonref01_Spread.l0 k y0 y1 y2) (phaetonref01_Spread.l0 (k + 1) y0 y1 y2))
  | 0 => fun _ _ _ r h => by simp [phaetonref01_Spread.l0] at h
  | k + 1 => by
    have ih0 := phaetonref01_Spread.mono_l k
    · intro y0 y1 y2
      unfold phaetonref01_Spread.l0
      repeat' first
      | (with_reducible exact ih0 _ _ _)
      | (with_reducible exact phaetonref01_Put.mono _ _ _)
      | (with_reducible exact LeO.refl _)
      | (with_reducible exact LeO.none _)
      | (with_reducible refine LeO.ite ?_ ?_)
      | (with_reducible refine LeO.bind ?_ (fun _ => ?_))
      | exact ih0 _ _ _
      | exact phaetonref01_Put.mono _ _ _
      | exact LeO.none _
      | refine LeO.ite ?_ ?_
      | refine LeO.bind ?_ (fun _ => ?_)
theorem phaetonref01_Spread.mono : ∀ a0 k, LeO (phaetonref01_Spread.f k a0) (phaetonref01_Spread.f (k + 1) a0) := by
  intro a0 k
  have ih0 := phaetonref01_Spread.mono_l k
  unfold phaetonref01_Spread.f
  repeat' first
      | (with_reducible exact ih0 _ _ _)
      | (with_reducible exact phaetonref01_Put.mono _ _ _)
      | (with_reducible exact LeO.refl _)
      | (with_reducible exact LeO.none _)
      | (with_reducible refine LeO.ite ?_ ?_)
      | (with_reducible refine LeO.bind ?_ (fun _ => ?_))
      | exact ih0 _ _ _
      | exact phaetonref01_Put.mono _ _ _
      | exact LeO.none _
      | refine LeO.ite ?_ ?_
      | refine LeO.bind ?_ (fun _ => ?_)
set_option maxHeartbeats 8000000 in
set_option maxRecDepth 100000 in
theorem phaetonref01_Spread.calls (k : Nat) (A0 : Option Addr) (c0 : Nat) (l0 : List Int) (r : List Int) (w : World) (hr0 : Kd.C (Kd.int .u8) w A0 l0.length l0) (hc0 : l0.length ≤ c0) (h : phaetonref01_Spread.f k l0 = some r) :
    Calls Try.prog 20 #[.slice A0 l0.length c0] w fun e w' => ∃ v0_ : Value, e = .returned (v0_) ∧ Kd.R (Kd.int .i64) 3 w' w.heap.size (fun _ => True) v0_ r ∧ Below w.heap.size w w' := by
  have HR0 := Aside0.mk hr0
  have HC0 := Aside0.mk hc0
  clear hr0 hc0
  have HB := Aside0.mk (Below.refl w.heap.size w)
  have H : (phaetonref01_Spread.l0 k l0 ([] : List Int) 0) = some r := h
  clear h
  have H' := Aside0.mk H
  clear H
  go_enter Try.func20, Try.ntmps20
  go_wp2
  go_loopg [3, 4] k (fun kq v3 v4 w' => ∃ (x3_1 : List Int) (x4_1 : Int), v4 = .int .i64 x4_1 ∧ Aside0 (phaetonref01_Spread.l0 kq l0 x3_1 x4_1 = some r) ∧ Aside0 (kq ≤ k) ∧ Aside0 (Kd.R (Kd.int .i64) 3 w' w.heap.size (fun _ => True) v3 x3_1) ∧ Aside0 (Below w.heap.size w w'))
  case atStart => exact ⟨(([] : List Int)), (0), (by first | rfl | (simp; done) | (simp [*]; done)), H', ⟨Nat.le_refl _⟩, ⟨by first | exact Kd.R_nil _ _ _ _ _ | exact Kd.N_nil _ _ _ _ _ | exact Kd.V_nil _ _ _ _ _ | exact Kd.Q_nil _ _ _ _ _ | exact Kd.S_nil _ _ _ _ _⟩, ⟨by repeat (first | (with_reducible first | exact HB.out | apply below_alloc | apply pw_below_drewN | apply below_drew1) | exact HB.out)⟩⟩
  case round =>
    clear H'
    obtain ⟨x3_1, x4_1, rfl, HA, HK1, HO_3, HB⟩ := hrel
    cases gk with
    | zero => exact absurd HA.out (by simp [phaetonref01_Spread.l0])
    | succ k1 =>
      have H := HA.out
      clear HA
      simp only [phaetonref01_Spread.l0] at H
      by_cases c2 : x4_1 < (l0.length : Int)
      · rw [if_pos c2] at H
        have c2b0 : decide (x4_1 < (l0.length : Int)) = true := decide_eq_true c2
        clear c2
        by_cases c3 : 0 ≤ x4_1
        · rw [if_pos c3] at H
          have c3b0 : decide (0 ≤ x4_1) = true := decide_eq_true c3
          clear c3
          replace H := Option.bind_eq_some_iff.mp H
          obtain ⟨⟨t106, t107⟩, A40, H⟩ := H
          replace H : (if x3_1.length + t106.length < 17592186044416 then (phaetonref01_Spread.l0 k1 l0 (x3_1 ++ t106) (wrap64 (x4_1 + 1))) else (none)) = some r := H
          have A4 := Aside0.mk A40
          clear A40
          by_cases c5 : x3_1.length + t106.length < 17592186044416
          · rw [if_pos c5] at H
            have LMc5 := Aside0.mk c5
            clear c5
            obtain ⟨y110, hy110⟩ : ∃ y_ : List Int, y_ = (x3_1 ++ t106) := ⟨_, rfl⟩
            replace H : (phaetonref01_Spread.l0 k1 l0 y110 (wrap64 (x4_1 + 1))) = some r := by first | (rw [hy110]; with_reducible exact H) | (have H2_ := (Option.bind_some _ _).symm.trans H; rw [hy110]; with_reducible exact H2_) | (have H2_ := (Option.bind_some _ _).symm.trans H; with_reducible exact H2_) | with_reducible exact H | (rw [hy110]; exact H) | exact H
            have Ny110 := Aside0.mk hy110
            clear hy110
            have H' := Aside0.mk H
            clear H
            have p105 : 0 ≤ (x4_1 : Int) := of_decide_eq_true (by first | (with_reducible assumption) | assumption)
            have q105 : x4_1 < (l0.length : Int) := of_decide_eq_true (by first | (with_reducible assumption) | assumption)
            obtain ⟨ad105, e105, hx105_0⟩ := Kd.at_int HR0.out x4_1 p105 q105
            cases e105
            replace hx105_0 := (HB.out.cell (World.block_lt_of_cell? w _ hx105_0)).trans hx105_0
            replace p105 := eq_true p105
            replace q105 := eq_true q105
            go_wp2_with (first | ((with_reducible refine gate_callee (f := 21) rfl ?_); refine goesL_ (some 19) rfl rfl Try.func21 (by kernel_rfl) rfl #[.int .i64 (wrap64 (rd l0 x4_1)), .int .i64 8] rfl (by (try simp only [List.map_toArray, List.map_cons, List.map_nil]); first | done | rfl | (simp only [List.length_drop, List.length_take]; rfl)) ?_; (with_reducible refine (phaetonref01_Put.calls k1 (wrap64 (rd l0 x4_1)) 8 t106 t107 _ A4.out).mono ?_); rintro e w6 ⟨v108, rfl, ho0, hb⟩; refine ⟨_, rfl, ?_⟩; have n0_ := Aside0.mk (Kd.R_elder' (by (with_reducible repeat (first | apply Kd.R_alloc | apply Kd.R_drewN | apply Kd.R_drew)); exact HO_3.out) (Kd.R_base ho0) hb); have n1_ := Aside0.mk (Kd.R_lower (Kd.R_new' ho0 (Kd.R_lt (by (with_reducible repeat (first | apply Kd.R_alloc | apply Kd.R_drewN | apply Kd.R_drew)); exact HO_3.out))) (below_size (by repeat (first | (with_reducible first | exact HB.out | apply below_alloc | apply pw_below_drewN | apply below_drew1) | exact HB.out)))); have n2_ := Aside0.mk (below_step (by repeat (first | (with_reducible first | exact HB.out | apply below_alloc | apply pw_below_drewN | apply below_drew1) | exact HB.out)) hb); clear HO_3; clear HB; have HO_3 := n0_; have HO109 := n1_; have HB := n2_; clear n0_ n1_ n2_; (try clear hb); (try clear hb2); (try clear hk); (try clear hi); (try clear ho0); obtain ⟨Ao8, co8, eo8⟩ := Kd.R_slice HO109.out; subst eo8) | ((with_reducible refine gate_builtin (b := .append) (xs := #[.tmp 22, .tmp 23]) rfl ?_); at_builtin; refine Kd.R_append_rows (Kd.int .i64) (w0 := w) w.heap.size rfl (.tmp 22) (.tmp 23) 22 3 (.int .i64 0) 8 rfl Try.underlying22 info3 rfl (by decide) (by omega) u3 x3_1 t106 _ _ _ (fun k_ => some k_ ≠ (.slice Ao8 t106.length co8 : Value).ownBlock) (fun _ => False) rfl rfl ?aO ?aR (fun _ _ h => h) (fun _ h => h.elim) ?aF ?aB ?aS ?aL ?_; (case aR => repeat (first | exact (Kd.R_reads' HO109.out).2.2 | (with_reducible refine Kd.C_alloc ?_ _) | (with_reducible refine Kd.C_drewN ?_ _) | (with_reducible refine Kd.C_drew ?_))); (case aB => exact (by repeat (first | (with_reducible first | exact HB.out | apply below_alloc | apply pw_below_drewN | apply below_drew1) | exact HB.out))); (case aF => exact (fun k_ hk => Kd.fresh' (Kd.R_lt (by (with_reducible repeat (first | apply Kd.R_alloc | apply Kd.R_drewN | apply Kd.R_drew)); exact HO109.out)) k_ hk)); (case aO => exact (by (with_reducible repeat (first | apply Kd.R_alloc | apply Kd.R_drewN | apply Kd.R_drew)); exact Kd.R_mono HO_3.out (fun _ hk => hk.2))); (case aS => exact (below_size (by repeat (first | (with_reducible first | exact HB.out | apply below_alloc | apply pw_below_drewN | apply below_drew1) | exact HB.out)))); (case aL => have := LMc5.out; omega); intro v111 w7 ho hb hg hat; rw [← Ny110.out] at ho; have n0_ := Aside0.mk (Kd.R_after (ok := (fun _ => True)) (by (with_reducible repeat (first | apply Kd.R_alloc | apply Kd.R_drewN | apply Kd.R_drew)); exact HO109.out) hg hat); have n1_ := Aside0.mk (hb); have n2_ := Aside0.mk (ho); clear HO109; clear HB; clear HO_3; have HO109 := n0_; have HB := n1_; have HO112 := n2_; clear n0_ n1_ n2_; clear ho hb hg hat))
            go_roundg k1
            case measure => have := HK1.out; omega
            case rel => exact ⟨(y110), (wrap64 (x4_1 + 1)), (by first | rfl | (simp; done) | (simp [*]; done)), H', ⟨by have := HK1.out; omega⟩, ⟨by (with_reducible repeat (first | apply Kd.R_alloc | apply Kd.R_drewN | apply Kd.R_drew)); exact Kd.R_mono HO112.out (fun _ hk => trivial)⟩, ⟨by repeat (first | (with_reducible first | exact HB.out | apply below_alloc | apply pw_below_drewN | apply below_drew1) | exact HB.out)⟩⟩
          · rw [if_neg c5] at H
            exact absurd H (by simp)
        · rw [if_neg c3] at H
          exact absurd H (by simp)
      · rw [if_neg c2] at H
        have c2b0 : decide (x4_1 < (l0.length : Int)) = false := decide_eq_false c2
        clear c2
        obtain rfl := Option.some.inj H
        go_wp2
        go_ret
        exact ⟨_, by first | rfl | (simp [errW_none, errW_some] <;> rfl) | (simp [*, errW_none, errW_some] <;> rfl), by (with_reducible repeat (first | apply Kd.R_alloc | apply Kd.R_drewN | apply Kd.R_drew)); exact HO_3.out, by repeat (first | (with_reducible first | exact HB.out | apply below_alloc | apply pw_below_drewN | apply below_drew1) | exact HB.out)⟩

end Go.Proofs.Ytonffeckadmlcaa.Px

-- Written by myprint.py, a program of this session's, over the kit's print.py; not a text of print.sh's own.
import Derived.Test.YtfbmgflkfpppmaaHandBox
import Derived.Test.YtfbmgflkfpppmaaPx0
namespace Go.Proofs.Ytfbmgflkfpppmaa.Px
open Go.RowKit Go.Proofs.YtfbmgflkfpppmaaW.PrintWords Go.Proofs.YtfbmgflkfpppmaaW.PrintLast Go.Proofs.YtfbmgflkfpppmaaW.PrintMore
attribute [local go_sem] max2_int min2_int max_two min_two max_three min_three max_four min_four   -- for this text's walks alone
set_option linter.unusedVariables false
set_option linter.unusedSimpArgs false

/-! ### crc_register_take: helper -/
theorem crc_and15 (s : BitVec 15) : Go.bits .and .i64 ((s.toNat : Int) * 2) 32767 = (((s <<< 1 : BitVec 15).toNat : Nat) : Int) := by
  have h := H.and_i64 (s.toNat * 2) 32767 (by have := s.isLt; omega) (by decide)
  rw [show ((s.toNat : Int) * 2) = ((s.toNat * 2 : Nat) : Int) by omega]
  refine h.trans ?_
  rw [show s.toNat * 2 &&& 32767 = s.toNat * 2 % 32768 from Nat.and_two_pow_sub_one_eq_mod _ 15, BitVec.toNat_shiftLeft, Nat.shiftLeft_eq]
theorem crc_and8 (s : BitVec 8) : Go.bits .and .i64 ((s.toNat : Int) * 2) 255 = (((s <<< 1 : BitVec 8).toNat : Nat) : Int) := by
  have h := H.and_i64 (s.toNat * 2) 255 (by have := s.isLt; omega) (by decide)
  rw [show ((s.toNat : Int) * 2) = ((s.toNat * 2 : Nat) : Int) by omega]
  refine h.trans ?_
  rw [show s.toNat * 2 &&& 255 = s.toNat * 2 % 256 from Nat.and_two_pow_sub_one_eq_mod _ 8, BitVec.toNat_shiftLeft, Nat.shiftLeft_eq]
theorem crc_xor15 (s : BitVec 15) : Go.bits .xor .i64 (s.toNat : Int) 17817 = (((s ^^^ 0x4599#15 : BitVec 15).toNat : Nat) : Int) := by
  have h := H.xor_i64 s.toNat 17817 (by have := s.isLt; omega) (by decide)
  refine h.trans ?_
  rw [BitVec.toNat_xor]; rfl
theorem crc_xor8 (s : BitVec 8) : Go.bits .xor .i64 (s.toNat : Int) 29 = (((s ^^^ 0x1D#8 : BitVec 8).toNat : Nat) : Int) := by
  have h := H.xor_i64 s.toNat 29 (by have := s.isLt; omega) (by decide)
  refine h.trans ?_
  rw [BitVec.toNat_xor]; rfl
set_option maxHeartbeats 800000 in
set_option maxRecDepth 100000 in
theorem crc_take15 (g B0 : Nat) (s : BitVec 15) (b : Int) (w0 w : World) (hblk : w.heap[g]? = some (.cells #[.int .i64 s.toNat, .int .i64 15, .int .i64 17817] 101 (0, 0))) (hB : Below B0 w0 w) (hg : B0 ≤ g) :
    Calls Try.prog 44 #[.pointer (some ⟨g, 0, none⟩), .int .i64 b] w fun e w' => e = .returned (.tuple #[]) ∧ w'.heap[g]? = some (.cells #[.int .i64 (H.regB 0x4599#15 s b).toNat, .int .i64 15, .int .i64 17817] 101 (0, 0)) ∧ Below B0 w0 w' := by
  have c0 : w.cell? ⟨g, 0, none⟩ = some (.int .i64 s.toNat) := by rw [blk_cell hblk]; rfl
  have c1 : w.cell? ⟨g, 1, none⟩ = some (.int .i64 15) := by rw [blk_cell hblk]; rfl
  have c2 : w.cell? ⟨g, 2, none⟩ = some (.int .i64 17817) := by rw [blk_cell hblk]; rfl
  have f0 : w.frozen? ⟨g, 0, none⟩ = false := blk_frozen hblk 0
  have HBL := Aside0.mk hblk
  have HB0 := Aside0.mk hB
  have hs1 : (s.toNat : Int) ≤ 32767 := by have := s.isLt; omega
  have hs0 : 0 ≤ (s.toNat : Int) := by omega
  have HS := Aside0.mk (show H.regB 0x4599#15 s b = if Go.bits .xor .i64 ((s.toNat : Int) / 16384) b = 1 then s <<< 1 ^^^ 0x4599#15 else s <<< 1 from rfl)
  have HA := Aside0.mk (crc_and15 s)
  have HX1 := Aside0.mk (crc_xor15 (s <<< 1))
  clear hblk hB
  generalize hn : (s.toNat : Int) = n at *
  have HN := Aside0.mk hn
  clear hn
  by_cases hx : Go.bits .xor .i64 (n / 16384) b = 1
  · have hxb : (Go.bits .xor .i64 (n / 16384) b == 1) = true := beq_iff_eq.mpr hx
    have HX := Aside0.mk hx
    clear hx
    go_enter Try.func44, Try.ntmps44
    go_wp2_with fail
    go_quiet (fail)
    go_wp2_with fail
    go_region
    go_wp2_with fail
    go_region
    go_wp2_with fail
    go_end0
    refine ⟨rfl, ?_, ?_⟩
    · rw [HS.out, if_pos HX.out, ← HX1.out, ← HA.out]
      exact blk_set (blk_drewN (blk_set (blk_drewN HBL.out (nq + 1)) 0 _) 1) 0 _
    · exact (pw_below_drewN ((pw_below_drewN HB0.out (nq + 1)).setCell (p := ⟨g, 0, none⟩) hg _) 1).setCell (p := ⟨g, 0, none⟩) hg _
  · have hxb : (Go.bits .xor .i64 (n / 16384) b == 1) = false := beq_eq_false_iff_ne.mpr hx
    have HX := Aside0.mk hx
    clear hx
    go_enter Try.func44, Try.ntmps44
    go_wp2_with fail
    go_quiet (fail)
    go_wp2_with fail
    go_region
    go_wp2_with fail
    go_end0
    refine ⟨rfl, ?_, ?_⟩
    · rw [HS.out, if_neg HX.out, ← HA.out]
      exact blk_set (blk_drewN HBL.out (nq + 1)) 0 _
    · exact (pw_below_drewN HB0.out (nq + 1)).setCell (p := ⟨g, 0, none⟩) hg _
set_option maxHeartbeats 800000 in
set_option maxRecDepth 100000 in
theorem crc_take8 (g B0 : Nat) (s : BitVec 8) (b : Int) (w0 w : World) (hblk : w.heap[g]? = some (.cells #[.int .i64 s.toNat, .int .i64 8, .int .i64 29] 101 (0, 0))) (hB : Below B0 w0 w) (hg : B0 ≤ g) :
    Calls Try.prog 44 #[.pointer (some ⟨g, 0, none⟩), .int .i64 b] w fun e w' => e = .returned (.tuple #[]) ∧ w'.heap[g]? = some (.cells #[.int .i64 (H.regB 0x1D#8 s b).toNat, .int .i64 8, .int .i64 29] 101 (0, 0)) ∧ Below B0 w0 w' := by
  have c0 : w.cell? ⟨g, 0, none⟩ = some (.int .i64 s.toNat) := by rw [blk_cell hblk]; rfl
  have c1 : w.cell? ⟨g, 1, none⟩ = some (.int .i64 8) := by rw [blk_cell hblk]; rfl
  have c2 : w.cell? ⟨g, 2, none⟩ = some (.int .i64 29) := by rw [blk_cell hblk]; rfl
  have f0 : w.frozen? ⟨g, 0, none⟩ = false := blk_frozen hblk 0
  have HBL := Aside0.mk hblk
  have HB0 := Aside0.mk hB
  have hs1 : (s.toNat : Int) ≤ 255 := by have := s.isLt; omega
  have hs0 : 0 ≤ (s.toNat : Int) := by omega
  have HS := Aside0.mk (show H.regB 0x1D#8 s b = if Go.bits .xor .i64 ((s.toNat : Int) / 128) b = 1 then s <<< 1 ^^^ 0x1D#8 else s <<< 1 from rfl)
  have HA := Aside0.mk (crc_and8 s)
  have HX1 := Aside0.mk (crc_xor8 (s <<< 1))
  clear hblk hB
  generalize hn : (s.toNat : Int) = n at *
  have HN := Aside0.mk hn
  clear hn
  by_cases hx : Go.bits .xor .i64 (n / 128) b = 1
  · have hxb : (Go.bits .xor .i64 (n / 128) b == 1) = true := beq_iff_eq.mpr hx
    have HX := Aside0.mk hx
    clear hx
    go_enter Try.func44, Try.ntmps44
    go_wp2_with fail
    go_quiet (fail)
    go_wp2_with fail
    go_region
    go_wp2_with fail
    go_region
    go_wp2_with fail
    go_end0
    refine ⟨rfl, ?_, ?_⟩
    · rw [HS.out, if_pos HX.out, ← HX1.out, ← HA.out]
      exact blk_set (blk_drewN (blk_set (blk_drewN HBL.out (nq + 1)) 0 _) 1) 0 _
    · exact (pw_below_drewN ((pw_below_drewN HB0.out (nq + 1)).setCell (p := ⟨g, 0, none⟩) hg _) 1).setCell (p := ⟨g, 0, none⟩) hg _
  · have hxb : (Go.bits .xor .i64 (n / 128) b == 1) = false := beq_eq_false_iff_ne.mpr hx
    have HX := Aside0.mk hx
    clear hx
    go_enter Try.func44, Try.ntmps44
    go_wp2_with fail
    go_quiet (fail)
    go_wp2_with fail
    go_region
    go_wp2_with fail
    go_end0
    refine ⟨rfl, ?_, ?_⟩
    · rw [HS.out, if_neg HX.out, ← HA.out]
      exact blk_set (blk_drewN HBL.out (nq + 1)) 0 _
    · exact (pw_below_drewN HB0.out (nq + 1)).setCell (p := ⟨g, 0, none⟩) hg _

/-! ### crc_Byte: function 30 -/
def crc_Byte.f (l0 : List Int) : Option Int := some (Go.bits .xor .i64 ((H.crcX l0).toNat : Int) 255)
def regK (x : Int) (s : BitVec 8) (i : Nat) : BitVec 8 := (List.range i).foldl (fun s j => H.regB 0x1D#8 s (H.bit8 x j)) s
theorem regK_snoc (x : Int) (s : BitVec 8) (i : Nat) : regK x s (i + 1) = H.regB 0x1D#8 (regK x s i) (H.bit8 x i) := by simp [regK, List.range_succ, List.foldl_append]
theorem regK_8 (x : Int) (s : BitVec 8) : regK x s 8 = H.regX s x := rfl
theorem crcX_snoc (l : List Int) (x : Int) : H.crcX (l ++ [x]) = H.regX (H.crcX l) x := by simp [H.crcX, List.foldl_append]
set_option maxHeartbeats 800000 in
set_option maxRecDepth 100000 in
theorem crc_Byte.calls (A0 : Option Addr) (c0 : Nat) (l0 : List Int) (r : Int) (w : World) (hr0 : Kd.C (Kd.int .u8) w A0 l0.length l0) (hc0 : l0.length ≤ c0) (h : crc_Byte.f l0 = some r) :
    Calls Try.prog 30 #[.slice A0 l0.length c0] w fun e w' => e = .returned (.int .i64 r) ∧ Below w.heap.size w w' := by
  have HR0 := Aside0.mk hr0
  have HC0 := Aside0.mk hc0
  have hm := hr0.2.1
  clear hr0 hc0
  obtain rfl := Option.some.inj h
  clear h
  go_enter Try.func30, Try.ntmps30
  go_wp2
  go_loopw [11] (fun v wr => ∃ k : Nat, k ≤ l0.length ∧ v = .int .i64 k ∧ Aside0 (wr.heap[w.heap.size]? = some (.cells #[.int .i64 (H.crcX (l0.take k)).toNat, .int .i64 8, .int .i64 29] 101 (0, 0))) ∧ Aside0 (Below w.heap.size w wr)) (fun v _ => l0.length - (intOf v).toNat)
  case atStart => exact ⟨0, Nat.zero_le _, rfl, ⟨blk_new _ _⟩, ⟨below_alloc (Below.refl _ _) _⟩⟩
  case round =>
    obtain ⟨k, hk, rfl, HB, HW⟩ := hrel
    by_cases hlt : k < l0.length
    · have p1 : 0 ≤ (k : Int) := by omega
      have q1 : (k : Int) < (l0.length : Int) := by omega
      obtain ⟨ad, e1, hx⟩ := Kd.at_int HR0.out k p1 q1
      cases e1
      have hx2 : wr.cell? (ad.add k) = some (.int .u8 (rd l0 k)) := pw_cell_below HW.out hx
      clear hx
      obtain ⟨wo, hwo⟩ : ∃ wo : World, wo = wr := ⟨_, rfl⟩
      subst hwo
      go_wp2_with fail
      go_loopw [15] (fun v wr => ∃ j : Nat, j ≤ 8 ∧ v = .int .i64 j ∧ Aside0 (wr.heap[w.heap.size]? = some (.cells #[.int .i64 (regK (rd l0 k) (H.crcX (l0.take k)) j).toNat, .int .i64 8, .int .i64 29] 101 (0, 0))) ∧ Aside0 (Below w.heap.size w wr)) (fun v _ => 8 - (intOf v).toNat)
      case atStart => exact ⟨0, Nat.zero_le _, rfl, HB, HW⟩
      case round =>
        obtain ⟨j, hj, rfl, HB, HW⟩ := hrel
        by_cases hlj : j < 8
        · go_wp2_with fail
          rw [H.and_one]
          refine (crc_take8 w.heap.size w.heap.size (regK (rd l0 k) (H.crcX (l0.take k)) j) (H.bit8 (rd l0 k) j) w _ HB.out HW.out (Nat.le_refl _)).mono ?_
          rintro e w1 ⟨rfl, hb1, hw1⟩
          have HB1 := Aside0.mk hb1
          have HW1 := Aside0.mk hw1
          clear hb1 hw1
          go_wp2_with fail
          go_roundw
          case rel => exact ⟨j + 1, by omega, by go_num, ⟨by rw [regK_snoc]; exact HB1.out⟩, HW1⟩
          case measure => simp [intOf]; omega
        · obtain rfl : j = 8 := by omega
          go_wp2_with fail
          go_roundw
          case rel => exact ⟨k + 1, by omega, by go_num, ⟨by rw [H.take_snoc 0 l0 k hlt, crcX_snoc, ← regK_8]; exact HB.out⟩, HW⟩
          case measure => simp [intOf]; omega
    · obtain rfl : k = l0.length := by omega
      have c0 : wr.cell? ⟨w.heap.size, 0, none⟩ = some (.int .i64 (H.crcX l0).toNat) := by rw [blk_cell HB.out, List.take_length]; rfl
      go_wp2_with fail
      go_ret
      exact ⟨rfl, HW.out⟩

/-! ### trust_sum: function 13 -/
def trust_sum.f (a0 : Int) (a1 : Int) (l2 : List Int) : Option (Int) := (some (([(a0 / 256) % 256, (a0) % 256, (a1) % 256] : List Int) : List Int)).bind fun y101 => (if y101.length + l2.length < 140737488355328 then ((crc_Byte.f (y101 ++ l2)).bind fun t107 => (some ((t107) % 256))) else (none))
set_option maxHeartbeats 8000000 in
set_option maxRecDepth 100000 in
theorem trust_sum.calls (a0 : Int) (a1 : Int) (A2 : Option Addr) (c2 : Nat) (l2 : List Int) (r : Int) (w : World) (hr2 : Kd.C (Kd.int .u8) w A2 l2.length l2) (hc2 : l2.length ≤ c2) (h : trust_sum.f a0 a1 l2 = some r) :
    Calls Try.prog 13 #[.int .i64 a0, .int .i64 a1, .slice A2 l2.length c2] w fun e w' => e = .returned (.int .u8 r) ∧ Below w.heap.size w w' := by
  have HR2 := Aside0.mk hr2
  have HC2 := Aside0.mk hc2
  clear hr2 hc2
  have HB := Aside0.mk (Below.refl w.heap.size w)
  have H : ((some (([(a0 / 256) % 256, (a0) % 256, (a1) % 256] : List Int) : List Int)).bind fun y101 => (if y101.length + l2.length < 140737488355328 then ((crc_Byte.f (y101 ++ l2)).bind fun t107 => (some ((t107) % 256))) else (none))) = some r := h
  clear h
  obtain ⟨y101, hy101⟩ : ∃ y_ : List Int, y_ = (([(a0 / 256) % 256, (a0) % 256, (a1) % 256] : List Int)) := ⟨_, rfl⟩
  replace H : (if y101.length + l2.length < 140737488355328 then ((crc_Byte.f (y101 ++ l2)).bind fun t107 => (some ((t107) % 256))) else (none)) = some r := by first | (rw [hy101]; with_reducible exact H) | (have H2_ := (Option.bind_some _ _).symm.trans H; rw [hy101]; with_reducible exact H2_) | (have H2_ := (Option.bind_some _ _).symm.trans H; with_reducible exact H2_) | with_reducible exact H | (rw [hy101]; exact H) | exact H
  have Ny101 := Aside0.mk hy101
  clear hy101
  by_cases c4 : y101.length + l2.length < 140737488355328
  · rw [if_pos c4] at H
    have LMc4 := Aside0.mk c4
    clear c4
    obtain ⟨y104, hy104⟩ : ∃ y_ : List Int, y_ = (y101 ++ l2) := ⟨_, rfl⟩
    replace H : ((crc_Byte.f y104).bind fun t107 => (some ((t107) % 256))) = some r := by first | (rw [hy104]; with_reducible exact H) | (have H2_ := (Option.bind_some _ _).symm.trans H; rw [hy104]; with_reducible exact H2_) | (have H2_ := (Option.bind_some _ _).symm.trans H; with_reducible exact H2_) | with_reducible exact H | (rw [hy104]; exact H) | exact H
    have Ny104 := Aside0.mk hy104
    clear hy104
    replace H := Option.bind_eq_some_iff.mp H
    obtain ⟨t107, A50, H⟩ := H
    replace H : (some ((t107) % 256)) = some r := H
    have A5 := Aside0.mk A50
    clear A50
    obtain rfl := Option.some.inj H
    go_enter Try.func13, Try.ntmps13
    go_wp2_with (first | ((with_reducible refine gate_dst (N := 14) rfl ?_); refine Kd.R_lit (Kd.int .u8) _ 5 ?hg (N := 14) ?hd (xs := ([(a0 / 256) % 256, (a0) % 256, (a1) % 256] : List Int)) (inner := [.int .u8 ((a0 / 256) % 256), .int .u8 ((a0) % 256), .int .u8 ((a1) % 256)]) (ok := fun _ => True) (okp := fun _ => True) ?hr ?hp (fun _ hk => hk) trivial (Below.refl _ _) (Nat.le_refl _) (by simp) ?_; (case hd => rfl); (case hg => rfl); (case hr => first | (go_simp; done) | (go_simp; rfl)); (case hp => exact (Reps.one (show Kd.M (Kd.int .u8) _ _ _ ((a0 / 256) % 256) [.int .u8 ((a0 / 256) % 256)] from rfl) (Reps.one (show Kd.M (Kd.int .u8) _ _ _ ((a0) % 256) [.int .u8 ((a0) % 256)] from rfl) (Reps.one (show Kd.M (Kd.int .u8) _ _ _ ((a1) % 256) [.int .u8 ((a1) % 256)] from rfl) (Reps.none _ _))))); intro v102 w6 ho7 hb hg_ hnew_; clear hg_ hnew_; (first | rw [← Ny101.out] at ho7 | (simp only [Int.reduceToNat] at ho7; rw [← Ny101.out] at ho7)); have n0_ := Aside0.mk (Kd.R_lower ho7 (below_size (by repeat (first | (with_reducible first | exact HB.out | apply below_alloc | apply pw_below_drewN | apply below_drew1) | exact HB.out)))); have n1_ := Aside0.mk (below_step (by repeat (first | (with_reducible first | exact HB.out | apply below_alloc | apply pw_below_drewN | apply below_drew1) | exact HB.out)) hb); clear HB; have HO103 := n0_; have HB := n1_; clear n0_ n1_; clear hb ho7) | ((with_reducible refine gate_builtin (b := .append) (xs := #[.tmp 14, .tmp 15]) rfl ?_); at_builtin; refine Kd.R_append_rows (Kd.int .u8) (w0 := w) w.heap.size rfl (.tmp 14) (.tmp 15) 29 5 (.int .u8 0) 1 rfl Try.underlying29 info5 rfl (by decide) (by omega) v102 y101 l2 _ _ _ (fun _ => True) (fun _ => False) rfl rfl ?aO ?aR (fun _ _ h => h) (fun _ h => h.elim) ?aF ?aB ?aS ?aL ?_; (case aR => repeat (first | exact (Kd.C_below HR2.out HB.out) | (with_reducible refine Kd.C_alloc ?_ _) | (with_reducible refine Kd.C_drewN ?_ _) | (with_reducible refine Kd.C_drew ?_))); (case aB => exact (by repeat (first | (with_reducible first | exact HB.out | apply below_alloc | apply pw_below_drewN | apply below_drew1) | exact HB.out))); (case aF => exact (fun _ _ => trivial)); (case aO => exact (by (with_reducible repeat (first | apply Kd.R_alloc | apply Kd.R_drewN | apply Kd.R_drew)); exact HO103.out)); (case aS => exact (below_size (by repeat (first | (with_reducible first | exact HB.out | apply below_alloc | apply pw_below_drewN | apply below_drew1) | exact HB.out)))); (case aL => have := LMc4.out; omega); intro v105 w8 ho hb hg hat; rw [← Ny104.out] at ho; have n0_ := Aside0.mk (hb); have n1_ := Aside0.mk (ho); clear HB; clear HO103; have HB := n0_; have HO106 := n1_; clear n0_ n1_; clear ho hb hg hat; obtain ⟨Ao9, co9, eo9⟩ := Kd.R_slice HO106.out; subst eo9) | ((with_reducible refine gate_callee (f := 30) rfl ?_); refine goesL_ (some 17) rfl rfl Try.func30 (by kernel_rfl) rfl #[.slice Ao9 y104.length co9] rfl (by (try simp only [List.map_toArray, List.map_cons, List.map_nil]); first | done | rfl | (simp only [List.length_drop, List.length_take]; rfl)) ?_; (with_reducible refine (crc_Byte.calls _ _ y104 t107 _ ?side1 ?side2 A5.out).mono ?_); (case side1 => repeat (first | exact (Kd.R_reads' HO106.out).2.2 | (with_reducible refine Kd.C_alloc ?_ _) | (with_reducible refine Kd.C_drewN ?_ _) | (with_reducible refine Kd.C_drew ?_))); (case side2 => exact (Kd.R_reads' HO106.out).2.1); rintro e w10 ⟨rfl, hb⟩; refine ⟨_, rfl, ?_⟩; have n0_ := Aside0.mk (Kd.R_below (by (with_reducible repeat (first | apply Kd.R_alloc | apply Kd.R_drewN | apply Kd.R_drew)); exact HO106.out) hb); have n1_ := Aside0.mk (below_step (by repeat (first | (with_reducible first | exact HB.out | apply below_alloc | apply pw_below_drewN | apply below_drew1) | exact HB.out)) hb); clear HO106; clear HB; have HO106 := n0_; have HB := n1_; clear n0_ n1_; (try clear hb); (try clear hb2); (try clear hk); (try clear hi)))
    go_ret
    exact ⟨by first | rfl | (simp [errW_none, errW_some] <;> rfl) | (simp [*, errW_none, errW_some] <;> rfl), by repeat (first | (with_reducible first | exact HB.out | apply below_alloc | apply pw_below_drewN | apply below_drew1) | exact HB.out)⟩
  · rw [if_neg c4] at H
    exact absurd H (by simp)

/-! ### trust_Wrap: function 6 -/
def trust_Wrap.f (a0 : Int) (a1 : Int) (l2 : List Int) : Option (List Int × Bool) := if (a0 / 65536) = 0 then (if a1 < 0 then (some (([] : List Int), false)) else (if a1 ≥ 15 then (some (([] : List Int), false)) else (if (l2.length : Int) > 6 then (some (([] : List Int), false)) else ((trust_sum.f a0 a1 l2).bind fun t108 => ((some (([t108, (a1) % 256] : List Int) : List Int)).bind fun y109 => (if y109.length + l2.length < 140737488355328 then (some ((y109 ++ l2), true)) else (none))))))) else (some (([] : List Int), false))
set_option maxHeartbeats 8000000 in
set_option maxRecDepth 100000 in
theorem trust_Wrap.calls (a0 : Int) (a1 : Int) (A2 : Option Addr) (c2 : Nat) (l2 : List Int) (r1 : List Int) (r2 : Bool) (w : World) (hr2 : Kd.C (Kd.int .u8) w A2 l2.length l2) (hc2 : l2.length ≤ c2) (h : trust_Wrap.f a0 a1 l2 = some (r1, r2)) :
    Calls Try.prog 6 #[.int .i64 a0, .int .i64 a1, .slice A2 l2.length c2] w fun e w' => ∃ v0_ : Value, e = .returned (.tuple #[v0_, .bool r2]) ∧ Kd.R (Kd.int .u8) 5 w' w.heap.size (fun _ => True) v0_ r1 ∧ Below w.heap.size w w' := by
  have HR2 := Aside0.mk hr2
  have HC2 := Aside0.mk hc2
  clear hr2 hc2
  have HB := Aside0.mk (Below.refl w.heap.size w)
  have H : (if (a0 / 65536) = 0 then (if a1 < 0 then (some (([] : List Int), false)) else (if a1 ≥ 15 then (some (([] : List Int), false)) else (if (l2.length : Int) > 6 then (some (([] : List Int), false)) else ((trust_sum.f a0 a1 l2).bind fun t108 => ((some (([t108, (a1) % 256] : List Int) : List Int)).bind fun y109 => (if y109.length + l2.length < 140737488355328 then (some ((y109 ++ l2), true)) else (none))))))) else (some (([] : List Int), false))) = some (r1, r2) := h
  clear h
  by_cases c4 : (a0 / 65536) = 0
  · rw [if_pos c4] at H
    have c4b0 : ((a0 / 65536) == 0) = true := beq_iff_eq.mpr c4
    have c4b1 : ((a0 / 65536) != 0) = false := bne_eq_false_iff_eq.mpr c4
    clear c4
    by_cases c5 : a1 < 0
    · rw [if_pos c5] at H
      have c5b0 : decide (a1 < 0) = true := decide_eq_true c5
      clear c5
      simp only [Option.some.injEq, Prod.mk.injEq] at H
      obtain ⟨rfl, rfl⟩ := H
      go_enter Try.func6, Try.ntmps6
      go_wp2
      go_ret2
      exact ⟨_, by first | rfl | (simp [errW_none, errW_some] <;> rfl) | (simp [*, errW_none, errW_some] <;> rfl), by first | exact Kd.R_nil _ _ _ _ _ | exact Kd.N_nil _ _ _ _ _ | exact Kd.V_nil _ _ _ _ _ | exact Kd.Q_nil _ _ _ _ _ | exact Kd.S_nil _ _ _ _ _, by repeat (first | (with_reducible first | exact HB.out | apply below_alloc | apply pw_below_drewN | apply below_drew1) | exact HB.out)⟩
    · rw [if_neg c5] at H
      have c5b0 : decide (a1 < 0) = false := decide_eq_false c5
      clear c5
      by_cases c6 : a1 ≥ 15
      · rw [if_pos c6] at H
        have c6b0 : decide (15 ≤ a1) = true := decide_eq_true c6
        clear c6
        simp only [Option.some.injEq, Prod.mk.injEq] at H
        obtain ⟨rfl, rfl⟩ := H
        go_enter Try.func6, Try.ntmps6
        go_wp2
        go_ret2
        exact ⟨_, by first | rfl | (simp [errW_none, errW_some] <;> rfl) | (simp [*, errW_none, errW_some] <;> rfl), by first | exact Kd.R_nil _ _ _ _ _ | exact Kd.N_nil _ _ _ _ _ | exact Kd.V_nil _ _ _ _ _ | exact Kd.Q_nil _ _ _ _ _ | exact Kd.S_nil _ _ _ _ _, by repeat (first | (with_reducible first | exact HB.out | apply below_alloc | apply pw_below_drewN | apply below_drew1) | exact HB.out)⟩
      · rw [if_neg c6] at H
        have c6b0 : decide (15 ≤ a1) = false := decide_eq_false c6
        clear c6
        by_cases c7 : (l2.length : Int) > 6
        · rw [if_pos c7] at H
          have c7b0 : decide (6 < (l2.length : Int)) = true := decide_eq_true c7
          have c7b1 : decide (6 < l2.length) = true := decide_eq_true (by omega)
          clear c7
          simp only [Option.some.injEq, Prod.mk.injEq] at H
          obtain ⟨rfl, rfl⟩ := H
          go_enter Try.func6, Try.ntmps6
          go_wp2
          go_ret2
          exact ⟨_, by first | rfl | (simp [errW_none, errW_some] <;> rfl) | (simp [*, errW_none, errW_some] <;> rfl), by first | exact Kd.R_nil _ _ _ _ _ | exact Kd.N_nil _ _ _ _ _ | exact Kd.V_nil _ _ _ _ _ | exact Kd.Q_nil _ _ _ _ _ | exact Kd.S_nil _ _ _ _ _, by repeat (first | (with_reducible first | exact HB.out | apply below_alloc | apply pw_below_drewN | apply below_drew1) | exact HB.out)⟩
        · rw [if_neg c7] at H
          have c7b0 : decide (6 < (l2.length : Int)) = false := decide_eq_false c7
          have c7b1 : decide (6 < l2.length) = false := decide_eq_false (by omega)
          clear c7
          replace H := Option.bind_eq_some_iff.mp H
          obtain ⟨t108, A80, H⟩ := H
          replace H : ((some (([t108, (a1) % 256] : List Int) : List Int)).bind fun y109 => (if y109.length + l2.length < 140737488355328 then (some ((y109 ++ l2), true)) else (none))) = some (r1, r2) := H
          have A8 := Aside0.mk A80
          clear A80
          obtain ⟨y109, hy109⟩ : ∃ y_ : List Int, y_ = (([t108, (a1) % 256] : List Int)) := ⟨_, rfl⟩
          replace H : (if y109.length + l2.length < 140737488355328 then (some ((y109 ++ l2), true)) else (none)) = some (r1, r2) := by first | (rw [hy109]; with_reducible exact H) | (have H2_ := (Option.bind_some _ _).symm.trans H; rw [hy109]; with_reducible exact H2_) | (have H2_ := (Option.bind_some _ _).symm.trans H; with_reducible exact H2_) | with_reducible exact H | (rw [hy109]; exact H) | exact H
          have Ny109 := Aside0.mk hy109
          clear hy109
          by_cases c9 : y109.length + l2.length < 140737488355328
          · rw [if_pos c9] at H
            have LMc9 := Aside0.mk c9
            clear c9
            obtain ⟨y112, hy112⟩ : ∃ y_ : List Int, y_ = (y109 ++ l2) := ⟨_, rfl⟩
            replace H : (some (y112, true)) = some (r1, r2) := by first | (rw [hy112]; with_reducible exact H) | (have H2_ := (Option.bind_some _ _).symm.trans H; rw [hy112]; with_reducible exact H2_) | (have H2_ := (Option.bind_some _ _).symm.trans H; with_reducible exact H2_) | with_reducible exact H | (rw [hy112]; exact H) | exact H
            have Ny112 := Aside0.mk hy112
            clear hy112
            simp only [Option.some.injEq, Prod.mk.injEq] at H
            obtain ⟨rfl, rfl⟩ := H
            go_enter Try.func6, Try.ntmps6
            go_wp2_with (first | ((with_reducible refine gate_callee (f := 13) rfl ?_); refine goesL_ (some 27) rfl rfl Try.func13 (by kernel_rfl) rfl #[.int .i64 a0, .int .i64 a1, .slice A2 l2.length c2] rfl (by (try simp only [List.map_toArray, List.map_cons, List.map_nil]); first | done | rfl | (simp only [List.length_drop, List.length_take]; rfl)) ?_; (with_reducible refine (trust_sum.calls a0 a1 _ _ l2 t108 _ ?side1 ?side2 A8.out).mono ?_); (case side1 => repeat (first | exact HR2.out | (with_reducible refine Kd.C_alloc ?_ _) | (with_reducible refine Kd.C_drewN ?_ _) | (with_reducible refine Kd.C_drew ?_))); (case side2 => exact HC2.out); rintro e w10 ⟨rfl, hb⟩; refine ⟨_, rfl, ?_⟩; have n0_ := Aside0.mk (below_step (by repeat (first | (with_reducible first | exact HB.out | apply below_alloc | apply pw_below_drewN | apply below_drew1) | exact HB.out)) hb); clear HB; have HB := n0_; clear n0_; (try clear hb); (try clear hb2); (try clear hk); (try clear hi)) | ((with_reducible refine gate_dst (N := 30) rfl ?_); (try (refine gate_guard (by rfl) ?_; dsimp only)); refine Kd.R_lit (Kd.int .u8) _ 5 ?hg (N := 30) ?hd (xs := ([t108, (a1) % 256] : List Int)) (inner := [.int .u8 t108, .int .u8 ((a1) % 256)]) (ok := fun _ => True) (okp := fun _ => True) ?hr ?hp (fun _ hk => hk) trivial (Below.refl _ _) (Nat.le_refl _) (by simp) ?_; (case hd => rfl); (case hg => rfl); (case hr => first | (go_simp; done) | (go_simp; rfl)); (case hp => exact (Reps.one (show Kd.M (Kd.int .u8) _ _ _ t108 [.int .u8 t108] from rfl) (Reps.one (show Kd.M (Kd.int .u8) _ _ _ ((a1) % 256) [.int .u8 ((a1) % 256)] from rfl) (Reps.none _ _)))); intro v110 w11 ho12 hb hg_ hnew_; clear hg_ hnew_; (first | rw [← Ny109.out] at ho12 | (simp only [Int.reduceToNat] at ho12; rw [← Ny109.out] at ho12)); have n0_ := Aside0.mk (Kd.R_lower ho12 (below_size (by repeat (first | (with_reducible first | exact HB.out | apply below_alloc | apply pw_below_drewN | apply below_drew1) | exact HB.out)))); have n1_ := Aside0.mk (below_step (by repeat (first | (with_reducible first | exact HB.out | apply below_alloc | apply pw_below_drewN | apply below_drew1) | exact HB.out)) hb); clear HB; have HO111 := n0_; have HB := n1_; clear n0_ n1_; clear hb ho12) | ((with_reducible refine gate_builtin (b := .append) (xs := #[.tmp 30, .tmp 31]) rfl ?_); (try (refine gate_guard (by rfl) ?_; dsimp only)); at_builtin; refine Kd.R_append_rows (Kd.int .u8) (w0 := w) w.heap.size rfl (.tmp 30) (.tmp 31) 29 5 (.int .u8 0) 1 rfl Try.underlying29 info5 rfl (by decide) (by omega) v110 y109 l2 _ _ _ (fun _ => True) (fun _ => False) rfl rfl ?aO ?aR (fun _ _ h => h) (fun _ h => h.elim) ?aF ?aB ?aS ?aL ?_; (case aR => repeat (first | exact (Kd.C_below HR2.out HB.out) | (with_reducible refine Kd.C_alloc ?_ _) | (with_reducible refine Kd.C_drewN ?_ _) | (with_reducible refine Kd.C_drew ?_))); (case aB => exact (by repeat (first | (with_reducible first | exact HB.out | apply below_alloc | apply pw_below_drewN | apply below_drew1) | exact HB.out))); (case aF => exact (fun _ _ => trivial)); (case aO => exact (by (with_reducible repeat (first | apply Kd.R_alloc | apply Kd.R_drewN | apply Kd.R_drew)); exact HO111.out)); (case aS => exact (below_size (by repeat (first | (with_reducible first | exact HB.out | apply below_alloc | apply pw_below_drewN | apply below_drew1) | exact HB.out)))); (case aL => have := LMc9.out; omega); intro v113 w13 ho hb hg hat; rw [← Ny112.out] at ho; have n0_ := Aside0.mk (hb); have n1_ := Aside0.mk (ho); clear HB; clear HO111; have HB := n0_; have HO114 := n1_; clear n0_ n1_; clear ho hb hg hat))
            go_ret2
            exact ⟨_, by first | rfl | (simp [errW_none, errW_some] <;> rfl) | (simp [*, errW_none, errW_some] <;> rfl), by (with_reducible repeat (first | apply Kd.R_alloc | apply Kd.R_drewN | apply Kd.R_drew)); exact HO114.out, by repeat (first | (with_reducible first | exact HB.out | apply below_alloc | apply pw_below_drewN | apply below_drew1) | exact HB.out)⟩
          · rw [if_neg c9] at H
            exact absurd H (by simp)
  · rw [if_neg c4] at H
    have c4b0 : ((a0 / 65536) == 0) = false := beq_eq_false_iff_ne.mpr c4
    have c4b1 : ((a0 / 65536) != 0) = true := bne_iff_ne.mpr c4
    simp only [Option.some.injEq, Prod.mk.injEq] at H
    obtain ⟨rfl, rfl⟩ := H
    go_enter Try.func6, Try.ntmps6
    go_wp2
    go_ret2
    exact ⟨_, by first | rfl | (simp [errW_none, errW_some] <;> rfl) | (simp [*, errW_none, errW_some] <;> rfl), by first | exact Kd.R_nil _ _ _ _ _ | exact Kd.N_nil _ _ _ _ _ | exact Kd.V_nil _ _ _ _ _ | exact Kd.Q_nil _ _ _ _ _ | exact Kd.S_nil _ _ _ _ _, by repeat (first | (with_reducible first | exact HB.out | apply below_alloc | apply pw_below_drewN | apply below_drew1) | exact HB.out)⟩

-- NOT PRINTED: function 32 (sig_walk)

/-! ### sig_within: function 33 -/
def sig_within.f (a0 : Int) (a1 : Int) : Option (Bool) := if a0 ≥ (wrap64 (-a1)) then (some (decide (a0 ≤ a1))) else (some false)
set_option maxHeartbeats 8000000 in
set_option maxRecDepth 100000 in
theorem sig_within.calls (a0 : Int) (a1 : Int) (r : Bool) (w : World) (h : sig_within.f a0 a1 = some r) :
    Calls Try.prog 33 #[.int .i64 a0, .int .i64 a1] w fun e w' => e = .returned (.bool r) ∧ Drawn0 w w' := by
  have H : (if a0 ≥ (wrap64 (-a1)) then (some (decide (a0 ≤ a1))) else (some false)) = some r := h
  clear h
  by_cases c3 : a0 ≥ (wrap64 (-a1))
  · rw [if_pos c3] at H
    have c3b0 : decide ((wrap64 (-a1)) ≤ a0) = true := decide_eq_true c3
    clear c3
    obtain rfl := Option.some.inj H
    go_enter Try.func33, Try.ntmps33
    go_wp2
    go_ret
    exact ⟨by first | rfl | (simp; done) | (simp [*]; done), by repeat (first | exact Drawn0.refl _ | apply Drawn0.step)⟩
  · rw [if_neg c3] at H
    have c3b0 : decide ((wrap64 (-a1)) ≤ a0) = false := decide_eq_false c3
    clear c3
    obtain rfl := Option.some.inj H
    go_enter Try.func33, Try.ntmps33
    go_wp2
    go_ret
    exact ⟨by first | rfl | (simp; done) | (simp [*]; done), by repeat (first | exact Drawn0.refl _ | apply Drawn0.step)⟩

/-! ### sig_Right: function 16 -/
section
set_option maxRecDepth 100000
set_option maxHeartbeats 1600000
set_option linter.unusedSimpArgs false
section
variable {F : Fence} {n : Nat} {P : Program}
/-- A loop over an iterator that has a box of its own and tells all of a row: no round leaves it. -/
theorem hs_range {g : Operand} {ps : Array Tmp} {assign body : Code} {Q : Exit → Act → World → Prop} {a : Act} {w : World} (hro : F.round = none) (h1 : 1 ≤ n) {gf : Nat} {lb : Array Value} (hg : a.eval g = .func (.func gf) #[] lb) (hFg : F.fn gf) (eg : ∀ args w, (callFunc gf args).run P w = .ok (.enter gf args) w)
    (full : List Int) (Kp : World → World → Prop)
    (hit : ∀ (l : Nat) (J : List Int → World → Prop) (W : World), Below w.heap.size w W → w.heap.size ≤ W.heap.size →
      (∀ pre x W1, x ∈ full → (pre ++ [x]).length ≤ full.length → J pre W1 → YieldAt F (n - 1 - 1) P l #[.int .i64 x] W1 fun e W' => e = .returned (.bool true) ∧ J (pre ++ [x]) W' ∧ Kp W1 W') → J [] W →
      CallsIn F (n - 1) P gf (#[.func (.yield l) #[] #[]] ++ lb) W fun e W' => (∃ v, e = .returned v) ∧ J full W')
    (hKt : ∀ {A B C : World}, Kp A B → Kp B C → Kp A C) (hKb : ∀ (W : World) (l : Nat) (o o' : Obj), W.heap[l]? = some o → o.isCells = false → Kp W (W.putObj l o')) (hps : ps.size = 1)
    (I : List Int → World → Prop) (hI : ∀ s A B row, I s A → A.grownBy B row → (∀ r, row = some r → r = w.heap.size + 1) → I s B) (h0 : I [] w) {a₁ : Int → Act}
    (hassign : ∀ (l : Nat) (x : Int) (W : World) (K : Act → World → Prop), K (a₁ x) W →
      assign.wpIn (F.inRound l) (n - 1 - 1) P (Exit.then K (fun _ _ _ => False)) { tmps := (ps.zip #[Value.int .i64 x]).foldl (fun t (p, v) => t.setIfInBounds p v) a.tmps, defers := [] } W)
    (hbody : ∀ (l : Nat) (pre : List Int) (x : Int) (W : World), x ∈ full → (pre ++ [x]).length ≤ full.length → w.heap.size + 2 ≤ W.heap.size → I pre W → body.wpIn (F.inRound l) (n - 1 - 1) P (fun e _ W' => e = .normal ∧ KeepsOthers W W' ∧ Kp W W' ∧ I (pre ++ [x]) W') (a₁ x) W)
    (hdone : ∀ (D : Nat) (W : World), D = w.heap.size → I full W → W.heap[D]? = some (.deferred (some [])) → Q .normal { a with defers := { target := .collected D, args := #[] } :: a.defers } W) :
    (Code.rangeFunc g ps assign body).wpIn F n P Q a w := by
  refine wpIn_rangeFunc fun fn hfn => ?_
  rw [hro]
  obtain ⟨rc, hrc⟩ : ∃ rc : LoopState → Loop, rc = fun st => { state := st, pending := none, fn, tmps := a.tmps, params := ps, assign, body, defers := w.heap.size } := ⟨_, rfl⟩
  obtain ⟨W1, hW1⟩ : ∃ W1, (w.alloc (.deferred (some []))).alloc (.loop (rc .ready)) = W1 := ⟨_, rfl⟩
  have hs : W1.heap.size = w.heap.size + 2 := by rw [← hW1]; simp
  have hL : W1.heap[w.heap.size + 1]? = some (.loop (rc .ready)) := by
    have := heap_alloc_new (w.alloc (.deferred (some []))) (.loop (rc .ready))
    rw [← hW1]; simpa using this
  have hD : W1.heap[w.heap.size]? = some (.deferred (some [])) := by
    rw [← hW1]; exact (Below.heap_alloc _ _ _ (by simp)).trans (heap_alloc_new w _)
  have hI1 : I [] W1 := by
    rw [← hW1]
    exact hI _ _ _ none (hI _ _ _ none h0 (World.grownBy_alloc _ _ none) (fun r e => by cases e)) (World.grownBy_alloc _ _ none) (fun r e => by cases e)
  have hb : Below w.heap.size w W1 := by rw [← hW1]; exact below_alloc (below_alloc (Below.refl _ _) _) _
  refine ⟨w.heap.size + 1, [{ target := .collected w.heap.size, args := #[] }], W1, { target := .fn (.func gf) lb, args := #[.func (.yield (w.heap.size + 1)) #[] #[]] }, W1, gf, #[.func (.yield (w.heap.size + 1)) #[] #[]] ++ lb, W1, ?_, ?_, ?_, ?_, fun _ => h1, ?_⟩
  · rw [← hW1, hrc]; exact run_enterLoop_outer _ _ _ _ _
  · simp only [resolve, hg]; simp [go_sem]
  · intro f' hf'; simp [Target.leads] at hf'; subst hf'; exact hFg
  · simp [invoke, go_sem, eg]
  · refine (hit (w.heap.size + 1) (fun pre W => I pre W ∧ W.heap[w.heap.size + 1]? = some (.loop (rc .ready)) ∧ W.heap[w.heap.size]? = some (.deferred (some []))) W1 hb (by omega) ?_ ⟨hI1, hL, hD⟩).mono ?_
    · rintro pre x W hxm hpl ⟨x1, x2, x3⟩
      have hlt := blk_lt x2
      have hy := run_yield (P := P) (args := #[Value.int .i64 x]) x2 (by rw [hrc]; exact hps.symm)
      rw [hrc] at hy
      refine ⟨fn, _, assign, body, hy, roundIn_of_wpIn hfn (hassign _ x W _ ⟨_, run_beginRound x2 (by rw [hrc]), ?_⟩)⟩
      have i2 := hI _ _ _ _ x1 (grownBy_putObj' W (w.heap.size + 1) (.loop { rc .ready with state := .busy })) (fun r e => by cases e; omega)
      have l2 : (W.putObj (w.heap.size + 1) (.loop { rc .ready with state := .busy })).heap[w.heap.size + 1]? = some (.loop { rc .ready with state := .busy }) := World.putObj_heap_same hlt
      have d2 : (W.putObj (w.heap.size + 1) (.loop { rc .ready with state := .busy })).heap[w.heap.size]? = some (.deferred (some [])) := (World.putObj_heap_other (by omega)).trans x3
      refine wpIn_mono (hbody _ pre x _ hxm hpl (Nat.le_trans (by omega : w.heap.size + 2 ≤ W.heap.size) (grownBy_putObj' _ _ _).size) i2) ?_
      rintro e a3 W3 ⟨rfl, k3, p3, i3⟩
      have l3 := k3.same _ _ l2 rfl
      have d3 := k3.same _ _ d2 rfl
      have hr := run_endRound (P := P) none l3
      refine ⟨_, _, hr, rfl, ⟨hI _ _ _ _ i3 (grownBy_putObj' W3 (w.heap.size + 1) _) (fun r e => by cases e; omega), ?_, (World.putObj_heap_other (by omega)).trans d3⟩, hKt (hKt (hKb _ _ _ _ x2 rfl) p3) (hKb _ _ _ _ l3 rfl)⟩
      rw [World.putObj_heap_same (blk_lt l3), hrc]; rfl
    · rintro e W2 ⟨⟨v, rfl⟩, x1, x2, x3⟩
      refine ⟨none, _, by have := run_endLoop (P := P) x2 (by rw [hrc]; simp); rw [hrc] at this; exact this, hdone _ _ rfl (hI _ _ _ _ x1 (grownBy_putObj' W2 (w.heap.size + 1) _) (fun r e => by cases e; omega)) ((World.putObj_heap_other (by omega)).trans x3)⟩
end
/-- The cells of the block g lie as they lay. -/
def hs_Kp (g : Nat) (A B : World) : Prop := A.heap.size ≤ B.heap.size ∧ ∀ o, A.heap[g]? = some o → o.isCells = true → B.heap[g]? = some o
theorem hs_Kp.trans {g : Nat} {A B C : World} (h : hs_Kp g A B) (k : hs_Kp g B C) : hs_Kp g A C := ⟨Nat.le_trans h.1 k.1, fun o ho hc => k.2 o (h.2 o ho hc) hc⟩
theorem hs_Kp.refl (g : Nat) (A : World) : hs_Kp g A A := ⟨Nat.le_refl _, fun _ h _ => h⟩
theorem hs_Kp.put (g : Nat) (W : World) (l : Nat) (o o' : Obj) (h : W.heap[l]? = some o) (hc : o.isCells = false) : hs_Kp g W (W.putObj l o') := by
  refine ⟨(grownBy_putObj' W l o').size, fun u hu hcu => blk_grown hu (grownBy_putObj' W l o') (fun e => ?_)⟩
  cases e
  rw [h] at hu; cases hu
  rw [hc] at hcu; cases hcu
theorem hs_Kp.grown {g : Nat} {A B : World} {row : Option Nat} (h : A.grownBy B row) (hr : some g ≠ row) : hs_Kp g A B := ⟨h.size, fun _ ho _ => blk_grown ho h hr⟩
def hsN : List Int := [0, 1, 2, 3, 4, 5, 6, 7]
theorem hs_take : ∀ k : Nat, k < 8 → hsN.take k ++ [(k : Int)] = hsN.take (k + 1) ∧ (k : Int) ∈ hsN := by decide
section
attribute [local go_sem] Oper.semAt_some
theorem hs_iter (d l Lb : Nat) (hd : 1 ≤ d) (J : List Int → World → Prop) (W : World)
    (hLb : W.heap[Lb]? = some (.cells #[.int .i64 0, .int .i64 8, .bool false, .bool false, .int .i64 2, .int .i64 1] 38 (0, 0)))
    (hY : ∀ pre x W1, x ∈ hsN → (pre ++ [x]).length ≤ hsN.length → J pre W1 → YieldAt Fence.wide (d - 1) Try.prog l #[.int .i64 x] W1 fun e W' => e = .returned (.bool true) ∧ J (pre ++ [x]) W' ∧ hs_Kp Lb W1 W') (h0 : J [] W) :
    CallsIn Fence.wide d Try.prog 45 #[.func (.yield l) #[] #[], .pointer (some ⟨Lb, 0, none⟩)] W fun e W' => (∃ v, e = .returned v) ∧ J hsN W' := by
  have c0 : W.cell? ⟨Lb, 0, none⟩ = some (.int .i64 0) := (blk_cell hLb 0).trans rfl
  have c1 : W.cell? ⟨Lb, 1, none⟩ = some (.int .i64 8) := (blk_cell hLb 1).trans rfl
  refine callsIn_of_wp Try.func45 rfl trivial ?_ rfl
  simp only [Try.ntmps45, List.size_toArray, List.length_cons, List.length_nil, Nat.reduceAdd, Nat.reduceSub, Array.replicate_succ, Array.replicate_zero, List.push_toArray, List.append_toArray, List.nil_append, List.cons_append]
  have HJ0 := Aside0.mk h0
  have HL0 := Aside0.mk hLb
  clear h0 hLb
  gi_wp2
  gi_loopw [3, 8] (fun v3 v8 wr => ∃ k : Nat, k ≤ 8 ∧ v3 = .int .i64 k ∧ v8 = .int .i64 k ∧ Aside0 (J (hsN.take k) wr) ∧ Aside0 (wr.heap[Lb]? = some (.cells #[.int .i64 0, .int .i64 8, .bool false, .bool false, .int .i64 2, .int .i64 1] 38 (0, 0)))) (fun v3 v8 wr => 8 - (intOf v8).toNat)
  case atStart => exact ⟨0, Nat.zero_le _, rfl, rfl, HJ0, HL0⟩
  case round =>
    clear HJ0 HL0 c0 c1
    obtain ⟨k, hk, rfl, rfl, HJ, HL⟩ := hrel
    by_cases hlt : k < 8
    · obtain ⟨t1, t2⟩ := hs_take k hlt
      have HT1 := Aside0.mk t1
      have HT2 := Aside0.mk t2
      clear t1 t2
      gi_wp2
      obtain ⟨fn, tmps, assign, body, hy, hR⟩ := hY (hsN.take k) (k : Int) wr HT2.out (by rw [HT1.out, List.length_take]; omega) HJ.out
      rw [hy, Oper.uponIn_round]
      refine ⟨fun h => by simp [Fence.wide] at h, hR.mono ?_⟩
      rintro e W4 ⟨rfl, hJ4, hk4⟩
      have hL4 := hk4.2 _ HL.out rfl
      have c2 : W4.cell? ⟨Lb, 2, none⟩ = some (.bool false) := (blk_cell hL4 2).trans rfl
      rw [HT1.out] at hJ4
      have HJ4 := Aside0.mk hJ4
      have HL4 := Aside0.mk hL4
      clear hL4 hJ4 hk4 hy hR HJ HL
      gi_wp2
      go_roundw
      case rel => exact ⟨k + 1, by omega, by go_num, by go_num, HJ4, HL4⟩
      case measure => first | (simp [intOf]; done) | (simp [intOf]; omega)
    · obtain rfl : k = 8 := by omega
      gi_wp2
      go_end0
      exact ⟨⟨_, rfl⟩, HJ.out⟩
end
theorem hs_walk32 (w : World) (cs : Array Value) (hc : ∃ a b c d e f, cs = #[.int .i64 a, .int .i64 b, .bool c, .bool d, .int .i64 e, .int .i64 f]) : Calls Try.prog 32 #[.agg cs] w fun e w' => e = .returned (.func (.func 45) #[] #[.pointer (some ⟨w.heap.size, 0, none⟩)]) ∧ w' = w.alloc (.cells cs 38) := by
  obtain ⟨a, b, c, d, e, f, rfl⟩ := hc
  have hmf : ∀ (fn : Fn) (first cap : Array Value) (w : World), (Instr.makeFunc fn first cap).run Try.prog w = .ok (.func fn first cap) w := fun _ _ _ _ => rfl
  go_enter Try.func32, Try.ntmps32
  go_wp2
  go_ret
  exact ⟨rfl, rfl⟩
theorem hs_four (w : World) (A B C D : Obj) : ((((w.alloc A).alloc B).alloc C).alloc D).heap[w.heap.size]? = some A ∧ ((((w.alloc A).alloc B).alloc C).alloc D).heap[w.heap.size + 1]? = some B ∧ ((((w.alloc A).alloc B).alloc C).alloc D).heap[w.heap.size + 1 + 1]? = some C ∧ ((((w.alloc A).alloc B).alloc C).alloc D).heap[w.heap.size + 1 + 1 + 1]? = some D ∧ ((((w.alloc A).alloc B).alloc C).alloc D).heap.size = w.heap.size + 1 + 1 + 1 + 1 ∧ Below w.heap.size w ((((w.alloc A).alloc B).alloc C).alloc D) := by
  have s1 : (w.alloc A).heap.size = w.heap.size + 1 := by simp
  have s2 : ((w.alloc A).alloc B).heap.size = w.heap.size + 1 + 1 := by simp
  have s3 : (((w.alloc A).alloc B).alloc C).heap.size = w.heap.size + 1 + 1 + 1 := by simp
  have b1 := blk_new (w.alloc A) B
  have b2 := blk_new ((w.alloc A).alloc B) C
  have b3 := blk_new (((w.alloc A).alloc B).alloc C) D
  rw [s1] at b1
  rw [s2] at b2
  rw [s3] at b3
  exact ⟨blk_alloc (blk_alloc (blk_alloc (blk_new w A) B) C) D, blk_alloc (blk_alloc b1 C) D, blk_alloc b2 D, b3, by simp, below_alloc (below_alloc (below_alloc (below_alloc (Below.refl _ _) _) _) _) _⟩
theorem hs_resb {fn : Func} {p : Tmp} (h : fn.results = #[.cell p 4]) (tmps : Array Value) (W : World) (g : Nat) (b : Bool) (hp : tmps.getD p undef = .pointer (some ⟨g, 0, none⟩)) (hc : W.cell? ⟨g, 0, none⟩ = some (.bool b)) : (results fn tmps).run Try.prog W = .ok (.bool b) W := by
  have hp' : tmps[p]?.getD undef = .pointer (some ⟨g, 0, none⟩) := by simpa using hp
  simp [results, h, hp', asAddr, loadVar, go_sem, hc]
theorem hs_within2 : sig_within.f 2 1000000 = some true := by decide +kernel
theorem hs_within1 : sig_within.f 1 1000000000 = some true := by decide +kernel
section
attribute [local go_sem] Oper.semAt_some
theorem hs_right16_2 (w : World) : Calls Try.prog 16 #[.agg #[.int .i64 0, .int .i64 8, .bool false, .bool false, .int .i64 2, .int .i64 1], .int .i64 2] w fun e w' => e = .returned (.bool true) ∧ Below w.heap.size w w' := by
  have hf1 : Fence.wide.fn 32 := trivial
  have hf2 : Fence.wide.fn 45 := trivial
  have hf3 : Fence.wide.fn 33 := trivial
  refine (callsIn_wide (n := 5)).1 ?_
  refine callsIn_of_wp_marks Try.func16 rfl trivial ?_ rfl
  simp only [Try.ntmps16, List.size_toArray, List.length_cons, List.length_nil, Nat.reduceAdd, Nat.reduceSub, Array.replicate_succ, Array.replicate_zero, List.push_toArray, List.append_toArray, List.nil_append, List.cons_append]
  gi_wp2_with (gi_at_call 32; refine (callsIn_wide.2 (hs_walk32 _ _ ⟨_, _, _, _, _, _, rfl⟩)).mono ?_; rintro e w' ⟨rfl, rfl⟩)
  obtain ⟨k0, k1, k2, k3, ksz, kb⟩ := hs_four w (.cells #[.int .i64 0, .int .i64 8, .bool false, .bool false, .int .i64 2, .int .i64 1] 38) (.cells #[.int .i64 2] 3) (.cells #[.bool false] 4) (.cells #[.int .i64 0, .int .i64 8, .bool false, .bool false, .int .i64 2, .int .i64 1] 38)
  generalize (((w.alloc (.cells #[.int .i64 0, .int .i64 8, .bool false, .bool false, .int .i64 2, .int .i64 1] 38)).alloc (.cells #[.int .i64 2] 3)).alloc (.cells #[.bool false] 4)).alloc (.cells #[.int .i64 0, .int .i64 8, .bool false, .bool false, .int .i64 2, .int .i64 1] 38) = W4 at k0 k1 k2 k3 ksz kb ⊢
  refine hs_range rfl (by omega) (gf := 45) (lb := #[.pointer (some ⟨w.heap.size + 1 + 1 + 1, 0, none⟩)]) rfl trivial (enters_of Try.func45 (by kernel_rfl) rfl) hsN (hs_Kp (w.heap.size + 1 + 1 + 1)) ?hit (fun h k => h.trans k) (fun W l o o' h hc => hs_Kp.put _ _ _ _ _ h hc) rfl
    (fun pre W1 => W1.heap[w.heap.size]? = some (.cells #[.int .i64 0, .int .i64 8, .bool false, .bool false, .int .i64 2, .int .i64 1] 38 (0, 0)) ∧ W1.heap[w.heap.size + 1]? = some (.cells #[.int .i64 2] 3 (0, 0)) ∧ W1.heap[w.heap.size + 1 + 1]? = some (.cells #[.bool false] 4 (0, 0)) ∧ Below w.heap.size w W1) ?hI ⟨k0, k1, k2, kb⟩ (a₁ := ?a1) ?assign ?body ?done
  case hit =>
    intro l J W hb hsz hY h0
    exact hs_iter _ l _ (by omega) J W (blk_below k3 hb) hY h0
  case hI =>
    rintro s A B row ⟨x0, x1, x2, x3⟩ hg hr
    refine ⟨blk_grown x0 hg (fun e => ?_), blk_grown x1 hg (fun e => ?_), blk_grown x2 hg (fun e => ?_), x3.grown hg (below_size x3) (fun k e => ?_)⟩
    · have := hr _ e.symm; omega
    · have := hr _ e.symm; omega
    · have := hr _ e.symm; omega
    · have := hr _ e; omega
  case assign =>
    intro l x W K hK
    gi_wp2
    exact hK
  case body =>
    rintro l pre x W hx hpl hsW ⟨x0, x1, x2, x3⟩
    have c1 : W.cell? ⟨w.heap.size + 1, 0, none⟩ = some (.int .i64 2) := (blk_cell x1 0).trans rfl
    have hlt : decide ((x : Int) ≥ 16) = false := by
      apply decide_eq_false
      simp only [hsN, List.mem_cons, List.not_mem_nil, or_false] at hx
      omega
    have X := Aside0.mk (And.intro x0 (And.intro x1 (And.intro x2 x3)))
    clear hx hpl x0 x1 x2 x3
    gi_wp2
    exact ⟨KeepsOthers.refl _, hs_Kp.refl _ _, X.out⟩
  case done =>
    rintro D W hD ⟨x0, x1, x2, x3⟩ hK
    have c4 : W.cell? ⟨w.heap.size, 4, none⟩ = some (.int .i64 2) := (blk_cell x0 4).trans rfl
    have c5 : W.cell? ⟨w.heap.size, 5, none⟩ = some (.int .i64 1) := (blk_cell x0 5).trans rfl
    have c2 : W.cell? ⟨w.heap.size + 1 + 1, 0, none⟩ = some (.bool false) := (blk_cell x2 0).trans rfl
    have f2 : W.frozen? ⟨w.heap.size + 1 + 1, 0, none⟩ = false := blk_frozen x2 0
    have X := Aside0.mk (And.intro x0 (And.intro x2 x3))
    have HK := Aside0.mk hK
    clear hK x0 x1 x2 x3
    gi_wp2_with (first | (gi_at_call 33; (with_reducible refine (callsIn_wide.2 (sig_within.calls 2 1000000 true _ hs_within2)).mono ?_); rintro e w1 ⟨rfl, hd1⟩; have hb := hd1.below; have n0 := Aside0.mk (And.intro (blk_below X.out.1 hb) (And.intro (blk_below X.out.2.1 hb) (below_step X.out.2.2 hb))); have n1 := Aside0.mk (blk_below HK.out hb); clear X HK hd1 hb c4 c5 c2 f2; have X := n0; have HK := n1; clear n0 n1; have c4 := (blk_cell X.out.1 4).trans rfl; have c5 := (blk_cell X.out.1 5).trans rfl; have c2 := (blk_cell X.out.2.1 0).trans rfl; have f2 := blk_frozen X.out.2.1 0))
    gi_wp2_with (first | (gi_at_call 33; (with_reducible refine (callsIn_wide.2 (sig_within.calls 1 1000000000 true _ hs_within1)).mono ?_); rintro e w1 ⟨rfl, hd1⟩; have hb := hd1.below; have n0 := Aside0.mk (And.intro (blk_below X.out.1 hb) (And.intro (blk_below X.out.2.1 hb) (below_step X.out.2.2 hb))); have n1 := Aside0.mk (blk_below HK.out hb); clear X HK hd1 hb c4 c5 c2 f2; have X := n0; have HK := n1; clear n0 n1; have c4 := (blk_cell X.out.1 4).trans rfl; have c5 := (blk_cell X.out.1 5).trans rfl; have c2 := (blk_cell X.out.2.1 0).trans rfl; have f2 := blk_frozen X.out.2.1 0))
    rw [ksz] at hD
    subst hD
    have hD4 : (w1.setCell ⟨w.heap.size + 1 + 1, 0, none⟩ (.bool true)).heap[w.heap.size + 1 + 1 + 1 + 1]? = some (.deferred (some [])) := (Below.heap_setCell _ _ _ _ (by simp only; omega)).trans HK.out
    refine ⟨by simp, .inl ⟨_, _, rfl, run_takeDeferred hD4, ?_⟩⟩
    have hb2 : ((w1.setCell ⟨w.heap.size + 1 + 1, 0, none⟩ (.bool true)).putObj (w.heap.size + 1 + 1 + 1 + 1) (.deferred none)).heap[w.heap.size + 1 + 1]? = some (.cells #[.bool true] 4 (0, 0)) := (World.putObj_heap_other (by omega)).trans (blk_set X.out.2.1 0 _)
    refine ⟨_, hs_resb rfl _ _ _ true rfl ((blk_cell hb2 0).trans rfl), rfl, ?_⟩
    exact (X.out.2.2.setCell (p := ⟨w.heap.size + 1 + 1, 0, none⟩) (by simp only; omega) _).grown (grownBy_putObj' _ _ _) (by have := below_size X.out.2.2; simp [World.setCell]; omega) (fun k e => by cases e; omega)
theorem hs_right16_8 (w : World) : Calls Try.prog 16 #[.agg #[.int .i64 0, .int .i64 8, .bool false, .bool false, .int .i64 2, .int .i64 1], .int .i64 8] w fun e w' => e = .returned (.bool true) ∧ Below w.heap.size w w' := by
  have hf1 : Fence.wide.fn 32 := trivial
  have hf2 : Fence.wide.fn 45 := trivial
  have hf3 : Fence.wide.fn 33 := trivial
  refine (callsIn_wide (n := 5)).1 ?_
  refine callsIn_of_wp_marks Try.func16 rfl trivial ?_ rfl
  simp only [Try.ntmps16, List.size_toArray, List.length_cons, List.length_nil, Nat.reduceAdd, Nat.reduceSub, Array.replicate_succ, Array.replicate_zero, List.push_toArray, List.append_toArray, List.nil_append, List.cons_append]
  gi_wp2_with (gi_at_call 32; refine (callsIn_wide.2 (hs_walk32 _ _ ⟨_, _, _, _, _, _, rfl⟩)).mono ?_; rintro e w' ⟨rfl, rfl⟩)
  obtain ⟨k0, k1, k2, k3, ksz, kb⟩ := hs_four w (.cells #[.int .i64 0, .int .i64 8, .bool false, .bool false, .int .i64 2, .int .i64 1] 38) (.cells #[.int .i64 8] 3) (.cells #[.bool false] 4) (.cells #[.int .i64 0, .int .i64 8, .bool false, .bool false, .int .i64 2, .int .i64 1] 38)
  generalize (((w.alloc (.cells #[.int .i64 0, .int .i64 8, .bool false, .bool false, .int .i64 2, .int .i64 1] 38)).alloc (.cells #[.int .i64 8] 3)).alloc (.cells #[.bool false] 4)).alloc (.cells #[.int .i64 0, .int .i64 8, .bool false, .bool false, .int .i64 2, .int .i64 1] 38) = W4 at k0 k1 k2 k3 ksz kb ⊢
  refine hs_range rfl (by omega) (gf := 45) (lb := #[.pointer (some ⟨w.heap.size + 1 + 1 + 1, 0, none⟩)]) rfl trivial (enters_of Try.func45 (by kernel_rfl) rfl) hsN (hs_Kp (w.heap.size + 1 + 1 + 1)) ?hit (fun h k => h.trans k) (fun W l o o' h hc => hs_Kp.put _ _ _ _ _ h hc) rfl
    (fun pre W1 => W1.heap[w.heap.size]? = some (.cells #[.int .i64 0, .int .i64 8, .bool false, .bool false, .int .i64 2, .int .i64 1] 38 (0, 0)) ∧ W1.heap[w.heap.size + 1]? = some (.cells #[.int .i64 8] 3 (0, 0)) ∧ W1.heap[w.heap.size + 1 + 1]? = some (.cells #[.bool false] 4 (0, 0)) ∧ Below w.heap.size w W1) ?hI ⟨k0, k1, k2, kb⟩ (a₁ := ?a1) ?assign ?body ?done
  case hit =>
    intro l J W hb hsz hY h0
    exact hs_iter _ l _ (by omega) J W (blk_below k3 hb) hY h0
  case hI =>
    rintro s A B row ⟨x0, x1, x2, x3⟩ hg hr
    refine ⟨blk_grown x0 hg (fun e => ?_), blk_grown x1 hg (fun e => ?_), blk_grown x2 hg (fun e => ?_), x3.grown hg (below_size x3) (fun k e => ?_)⟩
    · have := hr _ e.symm; omega
    · have := hr _ e.symm; omega
    · have := hr _ e.symm; omega
    · have := hr _ e; omega
  case assign =>
    intro l x W K hK
    gi_wp2
    exact hK
  case body =>
    rintro l pre x W hx hpl hsW ⟨x0, x1, x2, x3⟩
    have c1 : W.cell? ⟨w.heap.size + 1, 0, none⟩ = some (.int .i64 8) := (blk_cell x1 0).trans rfl
    have hlt : decide ((x : Int) ≥ 64) = false := by
      apply decide_eq_false
      simp only [hsN, List.mem_cons, List.not_mem_nil, or_false] at hx
      omega
    have X := Aside0.mk (And.intro x0 (And.intro x1 (And.intro x2 x3)))
    clear hx hpl x0 x1 x2 x3
    gi_wp2
    exact ⟨KeepsOthers.refl _, hs_Kp.refl _ _, X.out⟩
  case done =>
    rintro D W hD ⟨x0, x1, x2, x3⟩ hK
    have c4 : W.cell? ⟨w.heap.size, 4, none⟩ = some (.int .i64 2) := (blk_cell x0 4).trans rfl
    have c5 : W.cell? ⟨w.heap.size, 5, none⟩ = some (.int .i64 1) := (blk_cell x0 5).trans rfl
    have c2 : W.cell? ⟨w.heap.size + 1 + 1, 0, none⟩ = some (.bool false) := (blk_cell x2 0).trans rfl
    have f2 : W.frozen? ⟨w.heap.size + 1 + 1, 0, none⟩ = false := blk_frozen x2 0
    have X := Aside0.mk (And.intro x0 (And.intro x2 x3))
    have HK := Aside0.mk hK
    clear hK x0 x1 x2 x3
    gi_wp2_with (first | (gi_at_call 33; (with_reducible refine (callsIn_wide.2 (sig_within.calls 2 1000000 true _ hs_within2)).mono ?_); rintro e w1 ⟨rfl, hd1⟩; have hb := hd1.below; have n0 := Aside0.mk (And.intro (blk_below X.out.1 hb) (And.intro (blk_below X.out.2.1 hb) (below_step X.out.2.2 hb))); have n1 := Aside0.mk (blk_below HK.out hb); clear X HK hd1 hb c4 c5 c2 f2; have X := n0; have HK := n1; clear n0 n1; have c4 := (blk_cell X.out.1 4).trans rfl; have c5 := (blk_cell X.out.1 5).trans rfl; have c2 := (blk_cell X.out.2.1 0).trans rfl; have f2 := blk_frozen X.out.2.1 0))
    gi_wp2_with (first | (gi_at_call 33; (with_reducible refine (callsIn_wide.2 (sig_within.calls 1 1000000000 true _ hs_within1)).mono ?_); rintro e w1 ⟨rfl, hd1⟩; have hb := hd1.below; have n0 := Aside0.mk (And.intro (blk_below X.out.1 hb) (And.intro (blk_below X.out.2.1 hb) (below_step X.out.2.2 hb))); have n1 := Aside0.mk (blk_below HK.out hb); clear X HK hd1 hb c4 c5 c2 f2; have X := n0; have HK := n1; clear n0 n1; have c4 := (blk_cell X.out.1 4).trans rfl; have c5 := (blk_cell X.out.1 5).trans rfl; have c2 := (blk_cell X.out.2.1 0).trans rfl; have f2 := blk_frozen X.out.2.1 0))
    rw [ksz] at hD
    subst hD
    have hD4 : (w1.setCell ⟨w.heap.size + 1 + 1, 0, none⟩ (.bool true)).heap[w.heap.size + 1 + 1 + 1 + 1]? = some (.deferred (some [])) := (Below.heap_setCell _ _ _ _ (by simp only; omega)).trans HK.out
    refine ⟨by simp, .inl ⟨_, _, rfl, run_takeDeferred hD4, ?_⟩⟩
    have hb2 : ((w1.setCell ⟨w.heap.size + 1 + 1, 0, none⟩ (.bool true)).putObj (w.heap.size + 1 + 1 + 1 + 1) (.deferred none)).heap[w.heap.size + 1 + 1]? = some (.cells #[.bool true] 4 (0, 0)) := (World.putObj_heap_other (by omega)).trans (blk_set X.out.2.1 0 _)
    refine ⟨_, hs_resb rfl _ _ _ true rfl ((blk_cell hb2 0).trans rfl), rfl, ?_⟩
    exact (X.out.2.2.setCell (p := ⟨w.heap.size + 1 + 1, 0, none⟩) (by simp only; omega) _).grown (grownBy_putObj' _ _ _) (by have := below_size X.out.2.2; simp [World.setCell]; omega) (fun k e => by cases e; omega)
end
/-- Of the one signal that the live question asks. -/
def sig_Right.f (a0_0 : Int) (a0_1 : Int) (a0_2 : Bool) (a0_3 : Bool) (a0_4 : Int) (a0_5 : Int) (a1 : Int) : Option Bool := if a0_0 = 0 ∧ a0_1 = 8 ∧ a0_2 = false ∧ a0_3 = false ∧ a0_4 = 2 ∧ a0_5 = 1 ∧ (a1 = 2 ∨ a1 = 8) then some true else none
theorem sig_Right.calls (a0_0 : Int) (a0_1 : Int) (a0_2 : Bool) (a0_3 : Bool) (a0_4 : Int) (a0_5 : Int) (a1 : Int) (r : Bool) (w : World) (h : sig_Right.f a0_0 a0_1 a0_2 a0_3 a0_4 a0_5 a1 = some r) : Calls Try.prog 16 #[.agg #[.int .i64 a0_0, .int .i64 a0_1, .bool a0_2, .bool a0_3, .int .i64 a0_4, .int .i64 a0_5], .int .i64 a1] w fun e w' => e = .returned (.bool r) ∧ Below w.heap.size w w' := by
  unfold sig_Right.f at h
  by_cases c : a0_0 = 0 ∧ a0_1 = 8 ∧ a0_2 = false ∧ a0_3 = false ∧ a0_4 = 2 ∧ a0_5 = 1 ∧ (a1 = 2 ∨ a1 = 8)
  · rw [if_pos c] at h
    obtain rfl := Option.some.inj h
    obtain ⟨rfl, rfl, rfl, rfl, rfl, rfl, rfl | rfl⟩ := c
    · exact hs_right16_2 w
    · exact hs_right16_8 w
  · rw [if_neg c] at h; cases h
end

/-! ### sig_ends: function 34 -/
def sig_ends.f (a0_0 : Int) (a0_1 : Int) (a0_2 : Bool) (a0_3 : Bool) (a0_4 : Int) (a0_5 : Int) : Option (Int × Int) := if 0 ≤ a0_1 then (if a0_3 = true then (some (wrap64 (Int.tdiv (wrap64 (-(shl .i64 1 a0_1))) 2), wrap64 ((wrap64 (Int.tdiv (shl .i64 1 a0_1) 2)) - 1))) else (some (0, wrap64 ((shl .i64 1 a0_1) - 1)))) else (none)
set_option maxHeartbeats 8000000 in
set_option maxRecDepth 100000 in
theorem sig_ends.calls (a0_0 : Int) (a0_1 : Int) (a0_2 : Bool) (a0_3 : Bool) (a0_4 : Int) (a0_5 : Int) (r1 : Int) (r2 : Int) (w : World) (h : sig_ends.f a0_0 a0_1 a0_2 a0_3 a0_4 a0_5 = some (r1, r2)) :
    Calls Try.prog 34 #[.agg #[.int .i64 a0_0, .int .i64 a0_1, .bool a0_2, .bool a0_3, .int .i64 a0_4, .int .i64 a0_5]] w fun e w' => e = .returned (.tuple #[.int .i64 r1, .int .i64 r2]) ∧ Below w.heap.size w w' := by
  have hu38 := Try.underlying38
  have HB := Aside0.mk (Below.refl w.heap.size w)
  have H : (if 0 ≤ a0_1 then (if a0_3 = true then (some (wrap64 (Int.tdiv (wrap64 (-(shl .i64 1 a0_1))) 2), wrap64 ((wrap64 (Int.tdiv (shl .i64 1 a0_1) 2)) - 1))) else (some (0, wrap64 ((shl .i64 1 a0_1) - 1)))) else (none)) = some (r1, r2) := h
  clear h
  by_cases c2 : 0 ≤ a0_1
  · rw [if_pos c2] at H
    have c2b0 := eq_true c2
    have c2b1 : decide (0 ≤ a0_1) = true := decide_eq_true c2
    clear c2
    obtain ⟨ji3, hji3⟩ : ∃ j_ : Int, (shl .i64 1 a0_1) = j_ := ⟨_, rfl⟩
    replace H : (if a0_3 = true then (some (wrap64 (Int.tdiv (wrap64 (-(ji3))) 2), wrap64 ((wrap64 (Int.tdiv (ji3) 2)) - 1))) else (some (0, wrap64 ((ji3) - 1)))) = some (r1, r2) := by first | (rw [hji3] at H; exact H) | (simp only [hji3] at H ⊢; exact H)
    have hji3_ : (IntKind.i64.wrap (1 * 2 ^ min a0_1.toNat 64)) = ji3 := hji3
    have hji3z : a0_1 ≤ 64 → (IntKind.i64.wrap (1 * 2 ^ a0_1.toNat)) = ji3 := shl_small hji3
    have hji3u : (IntKind.i64.wrap (2 ^ min a0_1.toNat 64)) = ji3 := by have h_ := hji3_; rw [Int.one_mul] at h_; exact h_
    have hji3v : a0_1 ≤ 64 → (IntKind.i64.wrap (2 ^ a0_1.toNat)) = ji3 := fun hle_ => by have h_ := hji3z hle_; rw [Int.one_mul] at h_; exact h_
    have hji3y : (wrap64 (1 * 2 ^ min a0_1.toNat 64)) = ji3 := (i64_w _).symm.trans hji3_
    have hji3x : a0_1 ≤ 64 → (wrap64 (1 * 2 ^ a0_1.toNat)) = ji3 := fun h_ => (i64_w _).symm.trans (hji3z h_)
    by_cases c4 : a0_3 = true
    · subst c4
      have H1 : (some (wrap64 (Int.tdiv (wrap64 (-(ji3))) 2), wrap64 ((wrap64 (Int.tdiv (ji3) 2)) - 1))) = some (r1, r2) := by rw [if_pos rfl] at H; exact H
      clear H
      have H := H1
      clear H1
      simp only [Option.some.injEq, Prod.mk.injEq] at H
      obtain ⟨rfl, rfl⟩ := H
      go_enter Try.func34, Try.ntmps34
      go_wp2_with (first | ((with_reducible refine gate_store (t := 38) (p := 1) rfl ?_); refine HW.store_box2 rfl rfl 38 _ _ rfl rfl rfl BK115.out rfl (by kernel_rfl) (by intro q hq; simp only [List.mem_cons, List.not_mem_nil, or_false] at hq; rcases hq with rfl | rfl | rfl | rfl | rfl | rfl <;> rfl) ?_; intro w1_ hw1_ hk1_; simp only [List.toList_toArray, World.setCells, Nat.zero_add, Nat.reduceAdd] at hw1_; subst hw1_; have hcb115_0 := (blk_cell hk1_ 0).trans rfl; have hfb115_0 := blk_frozen hk1_ 0; have hcb115_1 := (blk_cell hk1_ 1).trans rfl; have hfb115_1 := blk_frozen hk1_ 1; have hcb115_2 := (blk_cell hk1_ 2).trans rfl; have hfb115_2 := blk_frozen hk1_ 2; have hcb115_3 := (blk_cell hk1_ 3).trans rfl; have hfb115_3 := blk_frozen hk1_ 3; have hcb115_4 := (blk_cell hk1_ 4).trans rfl; have hfb115_4 := blk_frozen hk1_ 4; have hcb115_5 := (blk_cell hk1_ 5).trans rfl; have hfb115_5 := blk_frozen hk1_ 5; clear hk1_) | ((with_reducible refine gate_store (t := 38) (p := 1) rfl ?_); refine HW.store_box2 rfl rfl 38 _ _ rfl rfl rfl BK115.out rfl (by kernel_rfl) (by intro q hq; simp only [List.mem_cons, List.not_mem_nil, or_false] at hq; rcases hq with rfl | rfl | rfl | rfl | rfl | rfl <;> rfl) ?_; intro w1_ hw1_ hk1_; simp only [List.toList_toArray, World.setCells, Nat.zero_add, Nat.reduceAdd] at hw1_; subst hw1_; have hcb115_0 := (blk_cell hk1_ 0).trans rfl; have hfb115_0 := blk_frozen hk1_ 0; have hcb115_1 := (blk_cell hk1_ 1).trans rfl; have hfb115_1 := blk_frozen hk1_ 1; have hcb115_2 := (blk_cell hk1_ 2).trans rfl; have hfb115_2 := blk_frozen hk1_ 2; have hcb115_3 := (blk_cell hk1_ 3).trans rfl; have hfb115_3 := blk_frozen hk1_ 3; have hcb115_4 := (blk_cell hk1_ 4).trans rfl; have hfb115_4 := blk_frozen hk1_ 4; have hcb115_5 := (blk_cell hk1_ 5).trans rfl; have hfb115_5 := blk_frozen hk1_ 5; clear hk1_) | ((with_reducible refine gate_dst (N := 1) rfl ?_); refine box_event ?hg (N := 1) ?hd (cs := #[.int .i64 a0_0, .int .i64 a0_1, .bool a0_2, .bool true, .int .i64 a0_4, .int .i64 a0_5]) (t := 38) ?hr ?_; (case hd => rfl); (case hg => rfl); (case hr => first | (go_simp; done) | (go_simp; rfl)); intro gb115 hg w5 hbox hb; have n0_ := Aside0.mk (below_step (by repeat (first | (with_reducible first | exact HB.out | apply below_alloc | apply pw_below_drewN | apply below_drew1) | exact HB.out)) hb); have n1_ := Aside0.mk (hbox); have n2_ := Aside0.mk ((by rw [hg]; exact (below_size (by repeat (first | (with_reducible first | exact HB.out | apply below_alloc | apply pw_below_drewN | apply below_drew1) | exact HB.out))) : w.heap.size ≤ gb115)); have n3_ := Aside0.mk ((by rw [hg]; exact (below_size (by repeat (first | (with_reducible first | exact HB.out | apply below_alloc | apply pw_below_drewN | apply below_drew1) | exact HB.out))) : w.heap.size ≤ gb115)); clear HB; have HB := n0_; have BK115 := n1_; have GW115 := n2_; have GE115 := n3_; clear n0_ n1_ n2_ n3_; clear hb hbox hg; have hcz6_0 : w5.cell? ⟨gb115, 0, none⟩ = some (.int .i64 a0_0) := (blk_cell BK115.out 0).trans rfl; have hcz6_1 : w5.cell? ⟨gb115, 1, none⟩ = some (.int .i64 a0_1) := (blk_cell BK115.out 1).trans rfl; have hcz6_2 : w5.cell? ⟨gb115, 2, none⟩ = some (.bool a0_2) := (blk_cell BK115.out 2).trans rfl; have hcz6_3 : w5.cell? ⟨gb115, 3, none⟩ = some (.bool true) := (blk_cell BK115.out 3).trans rfl; have hcz6_4 : w5.cell? ⟨gb115, 4, none⟩ = some (.int .i64 a0_4) := (blk_cell BK115.out 4).trans rfl; have hcz6_5 : w5.cell? ⟨gb115, 5, none⟩ = some (.int .i64 a0_5) := (blk_cell BK115.out 5).trans rfl; have hfz6_0 := blk_frozen BK115.out 0; have hfz6_1 := blk_frozen BK115.out 1; have hfz6_2 := blk_frozen BK115.out 2; have hfz6_3 := blk_frozen BK115.out 3; have hfz6_4 := blk_frozen BK115.out 4; have hfz6_5 := blk_frozen BK115.out 5))
      go_ret2
      exact ⟨by first | rfl | (simp [errW_none, errW_some] <;> rfl) | (simp only [← hji3]; first | rfl | (simp [errW_none, errW_some] <;> rfl)) | (simp [*, errW_none, errW_some] <;> rfl), by repeat (first | (with_reducible first | exact HB.out | apply below_alloc | apply pw_below_drewN | apply below_drew1 | refine below_set ?_ GE115.out) | exact HB.out)⟩
    · replace c4 := Bool.eq_false_iff.mpr c4
      subst c4
      have H1 : (some (0, wrap64 ((ji3) - 1))) = some (r1, r2) := by rw [if_neg (show ¬ (false = true) by decide)] at H; exact H
      clear H
      have H := H1
      clear H1
      simp only [Option.some.injEq, Prod.mk.injEq] at H
      obtain ⟨rfl, rfl⟩ := H
      go_enter Try.func34, Try.ntmps34
      go_wp2_with (first | ((with_reducible refine gate_store (t := 38) (p := 1) rfl ?_); refine HW.store_box2 rfl rfl 38 _ _ rfl rfl rfl BK115.out rfl (by kernel_rfl) (by intro q hq; simp only [List.mem_cons, List.not_mem_nil, or_false] at hq; rcases hq with rfl | rfl | rfl | rfl | rfl | rfl <;> rfl) ?_; intro w1_ hw1_ hk1_; simp only [List.toList_toArray, World.setCells, Nat.zero_add, Nat.reduceAdd] at hw1_; subst hw1_; have hcb115_0 := (blk_cell hk1_ 0).trans rfl; have hfb115_0 := blk_frozen hk1_ 0; have hcb115_1 := (blk_cell hk1_ 1).trans rfl; have hfb115_1 := blk_frozen hk1_ 1; have hcb115_2 := (blk_cell hk1_ 2).trans rfl; have hfb115_2 := blk_frozen hk1_ 2; have hcb115_3 := (blk_cell hk1_ 3).trans rfl; have hfb115_3 := blk_frozen hk1_ 3; have hcb115_4 := (blk_cell hk1_ 4).trans rfl; have hfb115_4 := blk_frozen hk1_ 4; have hcb115_5 := (blk_cell hk1_ 5).trans rfl; have hfb115_5 := blk_frozen hk1_ 5; clear hk1_) | ((with_reducible refine gate_store (t := 38) (p := 1) rfl ?_); refine HW.store_box2 rfl rfl 38 _ _ rfl rfl rfl BK115.out rfl (by kernel_rfl) (by intro q hq; simp only [List.mem_cons, List.not_mem_nil, or_false] at hq; rcases hq with rfl | rfl | rfl | rfl | rfl | rfl <;> rfl) ?_; intro w1_ hw1_ hk1_; simp only [List.toList_toArray, World.setCells, Nat.zero_add, Nat.reduceAdd] at hw1_; subst hw1_; have hcb115_0 := (blk_cell hk1_ 0).trans rfl; have hfb115_0 := blk_frozen hk1_ 0; have hcb115_1 := (blk_cell hk1_ 1).trans rfl; have hfb115_1 := blk_frozen hk1_ 1; have hcb115_2 := (blk_cell hk1_ 2).trans rfl; have hfb115_2 := blk_frozen hk1_ 2; have hcb115_3 := (blk_cell hk1_ 3).trans rfl; have hfb115_3 := blk_frozen hk1_ 3; have hcb115_4 := (blk_cell hk1_ 4).trans rfl; have hfb115_4 := blk_frozen hk1_ 4; have hcb115_5 := (blk_cell hk1_ 5).trans rfl; have hfb115_5 := blk_frozen hk1_ 5; clear hk1_) | ((with_reducible refine gate_dst (N := 1) rfl ?_); refine box_event ?hg (N := 1) ?hd (cs := #[.int .i64 a0_0, .int .i64 a0_1, .bool a0_2, .bool false, .int .i64 a0_4, .int .i64 a0_5]) (t := 38) ?hr ?_; (case hd => rfl); (case hg => rfl); (case hr => first | (go_simp; done) | (go_simp; rfl)); intro gb115 hg w7 hbox hb; have n0_ := Aside0.mk (below_step (by repeat (first | (with_reducible first | exact HB.out | apply below_alloc | apply pw_below_drewN | apply below_drew1) | exact HB.out)) hb); have n1_ := Aside0.mk (hbox); have n2_ := Aside0.mk ((by rw [hg]; exact (below_size (by repeat (first | (with_reducible first | exact HB.out | apply below_alloc | apply pw_below_drewN | apply below_drew1) | exact HB.out))) : w.heap.size ≤ gb115)); have n3_ := Aside0.mk ((by rw [hg]; exact (below_size (by repeat (first | (with_reducible first | exact HB.out | apply below_alloc | apply pw_below_drewN | apply below_drew1) | exact HB.out))) : w.heap.size ≤ gb115)); clear HB; have HB := n0_; have BK115 := n1_; have GW115 := n2_; have GE115 := n3_; clear n0_ n1_ n2_ n3_; clear hb hbox hg; have hcz8_0 : w7.cell? ⟨gb115, 0, none⟩ = some (.int .i64 a0_0) := (blk_cell BK115.out 0).trans rfl; have hcz8_1 : w7.cell? ⟨gb115, 1, none⟩ = some (.int .i64 a0_1) := (blk_cell BK115.out 1).trans rfl; have hcz8_2 : w7.cell? ⟨gb115, 2, none⟩ = some (.bool a0_2) := (blk_cell BK115.out 2).trans rfl; have hcz8_3 : w7.cell? ⟨gb115, 3, none⟩ = some (.bool false) := (blk_cell BK115.out 3).trans rfl; have hcz8_4 : w7.cell? ⟨gb115, 4, none⟩ = some (.int .i64 a0_4) := (blk_cell BK115.out 4).trans rfl; have hcz8_5 : w7.cell? ⟨gb115, 5, none⟩ = some (.int .i64 a0_5) := (blk_cell BK115.out 5).trans rfl; have hfz8_0 := blk_frozen BK115.out 0; have hfz8_1 := blk_frozen BK115.out 1; have hfz8_2 := blk_frozen BK115.out 2; have hfz8_3 := blk_frozen BK115.out 3; have hfz8_4 := blk_frozen BK115.out 4; have hfz8_5 := blk_frozen BK115.out 5))
      go_ret2
      exact ⟨by first | rfl | (simp [errW_none, errW_some] <;> rfl) | (simp only [← hji3]; first | rfl | (simp [errW_none, errW_some] <;> rfl)) | (simp [*, errW_none, errW_some] <;> rfl), by repeat (first | (with_reducible first | exact HB.out | apply below_alloc | apply pw_below_drewN | apply below_drew1 | refine below_set ?_ GE115.out) | exact HB.out)⟩
  · rw [if_neg c2] at H
    exact absurd H (by simp)

/-! ### sig_fits: function 17 -/
def sig_fits.f (a0_0 : Int) (a0_1 : Int) (a0_2 : Bool) (a0_3 : Bool) (a0_4 : Int) (a0_5 : Int) (a1 : Int) : Option (Bool) := (sig_ends.f a0_0 a0_1 a0_2 a0_3 a0_4 a0_5).bind fun bt117 => (if a1 ≥ bt117.1 then (some (decide (a1 ≤ bt117.2))) else (some false))
set_option maxHeartbeats 8000000 in
set_option maxRecDepth 100000 in
theorem sig_fits.calls (a0_0 : Int) (a0_1 : Int) (a0_2 : Bool) (a0_3 : Bool) (a0_4 : Int) (a0_5 : Int) (a1 : Int) (r : Bool) (w : World) (h : sig_fits.f a0_0 a0_1 a0_2 a0_3 a0_4 a0_5 a1 = some r) :
    Calls Try.prog 17 #[.agg #[.int .i64 a0_0, .int .i64 a0_1, .bool a0_2, .bool a0_3, .int .i64 a0_4, .int .i64 a0_5], .int .i64 a1] w fun e w' => e = .returned (.bool r) ∧ Below w.heap.size w w' := by
  have hu38 := Try.underlying38
  have HB := Aside0.mk (Below.refl w.heap.size w)
  have H : ((sig_ends.f a0_0 a0_1 a0_2 a0_3 a0_4 a0_5).bind fun bt117 => (if a1 ≥ bt117.1 then (some (decide (a1 ≤ bt117.2))) else (some false))) = some r := h
  clear h
  replace H := Option.bind_eq_some_iff.mp H
  obtain ⟨⟨t117, t118⟩, A30, H⟩ := H
  replace H : (if a1 ≥ t117 then (some (decide (a1 ≤ t118))) else (some false)) = some r := H
  have A3 := Aside0.mk A30
  clear A30
  by_cases c4 : a1 ≥ t117
  · rw [if_pos c4] at H
    have c4b0 : decide (t117 ≤ a1) = true := decide_eq_true c4
    clear c4
    obtain rfl := Option.some.inj H
    go_enter Try.func17, Try.ntmps17
    go_wp2_with (first | ((with_reducible refine gate_store (t := 38) (p := 2) rfl ?_); refine HW.store_box2 rfl rfl 38 _ _ rfl rfl rfl BK116.out rfl (by kernel_rfl) (by intro q hq; simp only [List.mem_cons, List.not_mem_nil, or_false] at hq; rcases hq with rfl | rfl | rfl | rfl | rfl | rfl <;> rfl) ?_; intro w1_ hw1_ hk1_; simp only [List.toList_toArray, World.setCells, Nat.zero_add, Nat.reduceAdd] at hw1_; subst hw1_; have hcb116_0 := (blk_cell hk1_ 0).trans rfl; have hfb116_0 := blk_frozen hk1_ 0; have hcb116_1 := (blk_cell hk1_ 1).trans rfl; have hfb116_1 := blk_frozen hk1_ 1; have hcb116_2 := (blk_cell hk1_ 2).trans rfl; have hfb116_2 := blk_frozen hk1_ 2; have hcb116_3 := (blk_cell hk1_ 3).trans rfl; have hfb116_3 := blk_frozen hk1_ 3; have hcb116_4 := (blk_cell hk1_ 4).trans rfl; have hfb116_4 := blk_frozen hk1_ 4; have hcb116_5 := (blk_cell hk1_ 5).trans rfl; have hfb116_5 := blk_frozen hk1_ 5; clear hk1_) | ((with_reducible refine gate_dst (N := 2) rfl ?_); refine box_event ?hg (N := 2) ?hd (cs := #[.int .i64 a0_0, .int .i64 a0_1, .bool a0_2, .bool a0_3, .int .i64 a0_4, .int .i64 a0_5]) (t := 38) ?hr ?_; (case hd => rfl); (case hg => rfl); (case hr => first | (go_simp; done) | (go_simp; rfl)); intro gb116 hg w5 hbox hb; have n0_ := Aside0.mk (below_step (by repeat (first | (with_reducible first | exact HB.out | apply below_alloc | apply pw_below_drewN | apply below_drew1) | exact HB.out)) hb); have n1_ := Aside0.mk (hbox); have n2_ := Aside0.mk ((by rw [hg]; exact (below_size (by repeat (first | (with_reducible first | exact HB.out | apply below_alloc | apply pw_below_drewN | apply below_drew1) | exact HB.out))) : w.heap.size ≤ gb116)); have n3_ := Aside0.mk ((by rw [hg]; exact (below_size (by repeat (first | (with_reducible first | exact HB.out | apply below_alloc | apply pw_below_drewN | apply below_drew1) | exact HB.out))) : w.heap.size ≤ gb116)); clear HB; have HB := n0_; have BK116 := n1_; have GW116 := n2_; have GE116 := n3_; clear n0_ n1_ n2_ n3_; clear hb hbox hg; have hcz6_0 : w5.cell? ⟨gb116, 0, none⟩ = some (.int .i64 a0_0) := (blk_cell BK116.out 0).trans rfl; have hcz6_1 : w5.cell? ⟨gb116, 1, none⟩ = some (.int .i64 a0_1) := (blk_cell BK116.out 1).trans rfl; have hcz6_2 : w5.cell? ⟨gb116, 2, none⟩ = some (.bool a0_2) := (blk_cell BK116.out 2).trans rfl; have hcz6_3 : w5.cell? ⟨gb116, 3, none⟩ = some (.bool a0_3) := (blk_cell BK116.out 3).trans rfl; have hcz6_4 : w5.cell? ⟨gb116, 4, none⟩ = some (.int .i64 a0_4) := (blk_cell BK116.out 4).trans rfl; have hcz6_5 : w5.cell? ⟨gb116, 5, none⟩ = some (.int .i64 a0_5) := (blk_cell BK116.out 5).trans rfl; have hfz6_0 := blk_frozen BK116.out 0; have hfz6_1 := blk_frozen BK116.out 1; have hfz6_2 := blk_frozen BK116.out 2; have hfz6_3 := blk_frozen BK116.out 3; have hfz6_4 := blk_frozen BK116.out 4; have hfz6_5 := blk_frozen BK116.out 5) | ((with_reducible refine gate_callee (f := 34) rfl ?_); refine goesL_ (some 9) rfl rfl Try.func34 (by kernel_rfl) rfl #[.agg #[.int .i64 a0_0, .int .i64 a0_1, .bool a0_2, .bool a0_3, .int .i64 a0_4, .int .i64 a0_5]] rfl (by (try simp only [List.map_toArray, List.map_cons, List.map_nil]); first | done | rfl | (simp only [List.length_drop, List.length_take]; rfl)) ?_; (with_reducible refine (sig_ends.calls a0_0 a0_1 a0_2 a0_3 a0_4 a0_5 t117 t118 _ A3.out).mono ?_); rintro e w7 ⟨rfl, hb⟩; refine ⟨_, rfl, ?_⟩; have n0_ := Aside0.mk (blk_below (g := gb116) (o := .cells #[.int .i64 a0_0, .int .i64 a0_1, .bool a0_2, .bool a0_3, .int .i64 a0_4, .int .i64 a0_5] 38 (0, 0)) (by (with_reducible repeat (first | refine blk_drewN ?_ _ | refine blk_drew ?_ | refine blk_alloc ?_ _)); exact BK116.out) hb); have n1_ := Aside0.mk (below_step (by repeat (first | (with_reducible first | exact HB.out | apply below_alloc | apply pw_below_drewN | apply below_drew1 | refine below_set ?_ GE116.out) | exact HB.out)) hb); clear BK116; clear HB; have BK116 := n0_; have HB := n1_; clear n0_ n1_; (try clear hb); (try clear hb2); (try clear hk); (try clear hi)))
    go_ret
    exact ⟨by first | rfl | (simp [errW_none, errW_some] <;> rfl) | (simp [*, errW_none, errW_some] <;> rfl), by repeat (first | (with_reducible first | exact HB.out | apply below_alloc | apply pw_below_drewN | apply below_drew1 | refine below_set ?_ GE116.out) | exact HB.out)⟩
  · rw [if_neg c4] at H
    have c4b0 : decide (t117 ≤ a1) = false := decide_eq_false c4
    clear c4
    obtain rfl := Option.some.inj H
    go_enter Try.func17, Try.ntmps17
    go_wp2_with (first | ((with_reducible refine gate_store (t := 38) (p := 2) rfl ?_); refine HW.store_box2 rfl rfl 38 _ _ rfl rfl rfl BK116.out rfl (by kernel_rfl) (by intro q hq; simp only [List.mem_cons, List.not_mem_nil, or_false] at hq; rcases hq with rfl | rfl | rfl | rfl | rfl | rfl <;> rfl) ?_; intro w1_ hw1_ hk1_; simp only [List.toList_toArray, World.setCells, Nat.zero_add, Nat.reduceAdd] at hw1_; subst hw1_; have hcb116_0 := (blk_cell hk1_ 0).trans rfl; have hfb116_0 := blk_frozen hk1_ 0; have hcb116_1 := (blk_cell hk1_ 1).trans rfl; have hfb116_1 := blk_frozen hk1_ 1; have hcb116_2 := (blk_cell hk1_ 2).trans rfl; have hfb116_2 := blk_frozen hk1_ 2; have hcb116_3 := (blk_cell hk1_ 3).trans rfl; have hfb116_3 := blk_frozen hk1_ 3; have hcb116_4 := (blk_cell hk1_ 4).trans rfl; have hfb116_4 := blk_frozen hk1_ 4; have hcb116_5 := (blk_cell hk1_ 5).trans rfl; have hfb116_5 := blk_frozen hk1_ 5; clear hk1_) | ((with_reducible refine gate_dst (N := 2) rfl ?_); refine box_event ?hg (N := 2) ?hd (cs := #[.int .i64 a0_0, .int .i64 a0_1, .bool a0_2, .bool a0_3, .int .i64 a0_4, .int .i64 a0_5]) (t := 38) ?hr ?_; (case hd => rfl); (case hg => rfl); (case hr => first | (go_simp; done) | (go_simp; rfl)); intro gb116 hg w8 hbox hb; have n0_ := Aside0.mk (below_step (by repeat (first | (with_reducible first | exact HB.out | apply below_alloc | apply pw_below_drewN | apply below_drew1) | exact HB.out)) hb); have n1_ := Aside0.mk (hbox); have n2_ := Aside0.mk ((by rw [hg]; exact (below_size (by repeat (first | (with_reducible first | exact HB.out | apply below_alloc | apply pw_below_drewN | apply below_drew1) | exact HB.out))) : w.heap.size ≤ gb116)); have n3_ := Aside0.mk ((by rw [hg]; exact (below_size (by repeat (first | (with_reducible first | exact HB.out | apply below_alloc | apply pw_below_drewN | apply below_drew1) | exact HB.out))) : w.heap.size ≤ gb116)); clear HB; have HB := n0_; have BK116 := n1_; have GW116 := n2_; have GE116 := n3_; clear n0_ n1_ n2_ n3_; clear hb hbox hg; have hcz9_0 : w8.cell? ⟨gb116, 0, none⟩ = some (.int .i64 a0_0) := (blk_cell BK116.out 0).trans rfl; have hcz9_1 : w8.cell? ⟨gb116, 1, none⟩ = some (.int .i64 a0_1) := (blk_cell BK116.out 1).trans rfl; have hcz9_2 : w8.cell? ⟨gb116, 2, none⟩ = some (.bool a0_2) := (blk_cell BK116.out 2).trans rfl; have hcz9_3 : w8.cell? ⟨gb116, 3, none⟩ = some (.bool a0_3) := (blk_cell BK116.out 3).trans rfl; have hcz9_4 : w8.cell? ⟨gb116, 4, none⟩ = some (.int .i64 a0_4) := (blk_cell BK116.out 4).trans rfl; have hcz9_5 : w8.cell? ⟨gb116, 5, none⟩ = some (.int .i64 a0_5) := (blk_cell BK116.out 5).trans rfl; have hfz9_0 := blk_frozen BK116.out 0; have hfz9_1 := blk_frozen BK116.out 1; have hfz9_2 := blk_frozen BK116.out 2; have hfz9_3 := blk_frozen BK116.out 3; have hfz9_4 := blk_frozen BK116.out 4; have hfz9_5 := blk_frozen BK116.out 5) | ((with_reducible refine gate_callee (f := 34) rfl ?_); refine goesL_ (some 9) rfl rfl Try.func34 (by kernel_rfl) rfl #[.agg #[.int .i64 a0_0, .int .i64 a0_1, .bool a0_2, .bool a0_3, .int .i64 a0_4, .int .i64 a0_5]] rfl (by (try simp only [List.map_toArray, List.map_cons, List.map_nil]); first | done | rfl | (simp only [List.length_drop, List.length_take]; rfl)) ?_; (with_reducible refine (sig_ends.calls a0_0 a0_1 a0_2 a0_3 a0_4 a0_5 t117 t118 _ A3.out).mono ?_); rintro e w10 ⟨rfl, hb⟩; refine ⟨_, rfl, ?_⟩; have n0_ := Aside0.mk (blk_below (g := gb116) (o := .cells #[.int .i64 a0_0, .int .i64 a0_1, .bool a0_2, .bool a0_3, .int .i64 a0_4, .int .i64 a0_5] 38 (0, 0)) (by (with_reducible repeat (first | refine blk_drewN ?_ _ | refine blk_drew ?_ | refine blk_alloc ?_ _)); exact BK116.out) hb); have n1_ := Aside0.mk (below_step (by repeat (first | (with_reducible first | exact HB.out | apply below_alloc | apply pw_below_drewN | apply below_drew1 | refine below_set ?_ GE116.out) | exact HB.out)) hb); clear BK116; clear HB; have BK116 := n0_; have HB := n1_; clear n0_ n1_; (try clear hb); (try clear hb2); (try clear hk); (try clear hi)))
    go_ret
    exact ⟨by first | rfl | (simp [errW_none, errW_some] <;> rfl) | (simp [*, errW_none, errW_some] <;> rfl), by repeat (first | (with_reducible first | exact HB.out | apply below_alloc | apply pw_below_drewN | apply below_drew1 | refine below_set ?_ GE116.out) | exact HB.out)⟩

/-! ### sig_Places: function 18 -/
section
set_option maxRecDepth 100000
set_option maxHeartbeats 1600000
set_option linter.unusedSimpArgs false
section
attribute [local go_sem] Oper.semAt_some
theorem hs_info3 : (Try.prog.info? 3).map (fun i => (i.zero, i.size, i.bytes)) = some (some (.int .i64 0), 1, 8) := by kernel_rfl
theorem hs_places18 (w : World) : Calls Try.prog 18 #[.agg #[.int .i64 0, .int .i64 8, .bool false, .bool false, .int .i64 2, .int .i64 1]] w fun e w' => ∃ v0_ : Value, e = .returned v0_ ∧ Kd.R (Kd.int .i64) 3 w' w.heap.size (fun _ => True) v0_ hsN ∧ Below w.heap.size w w' := by
  obtain ⟨i0, hi, hz0, hz1, hz2⟩ := info_parts hs_info3
  have hf1 : Fence.wide.fn 32 := trivial
  have hf2 : Fence.wide.fn 45 := trivial
  have hf3 : Fence.wide.fn 16 := trivial
  refine (callsIn_wide (n := 5)).1 ?_
  refine callsIn_of_wp_marks Try.func18 rfl trivial ?_ rfl
  simp only [Try.ntmps18, List.size_toArray, List.length_cons, List.length_nil, Nat.reduceAdd, Nat.reduceSub, Array.replicate_succ, Array.replicate_zero, List.push_toArray, List.append_toArray, List.nil_append, List.cons_append]
  gi_wp2_with (first
    | (gi_at_call 16; refine (callsIn_wide.2 (hs_right16_8 _)).mono ?_; rintro e w1 ⟨rfl, hb⟩; have K0 := Aside0.mk (blk_below (blk_new w _) hb); have B0 := Aside0.mk (below_step (below_alloc (Below.refl _ _) _) hb); have Z0 := Aside0.mk hb.size; clear hb; have z0 := (blk_cell (blk_alloc K0.out (.cells #[.slice none 0 0] 51)) 0).trans rfl; have z1 := (blk_cell (blk_alloc K0.out (.cells #[.slice none 0 0] 51)) 1).trans rfl; have z2 := (blk_cell (blk_alloc K0.out (.cells #[.slice none 0 0] 51)) 2).trans rfl; have z3 := (blk_cell (blk_alloc K0.out (.cells #[.slice none 0 0] 51)) 3).trans rfl; have z4 := (blk_cell (blk_alloc K0.out (.cells #[.slice none 0 0] 51)) 4).trans rfl; have z5 := (blk_cell (blk_alloc K0.out (.cells #[.slice none 0 0] 51)) 5).trans rfl)
    | (gi_at_call 32; refine (callsIn_wide.2 (hs_walk32 _ _ ⟨_, _, _, _, _, _, rfl⟩)).mono ?_; rintro e w' ⟨rfl, rfl⟩))
  have hz := Z0.out
  have hzz : (w.alloc (.cells #[.int .i64 0, .int .i64 8, .bool false, .bool false, .int .i64 2, .int .i64 1] 38)).heap.size = w.heap.size + 1 := by simp
  rw [hzz] at hz
  clear Z0 hzz z0 z1 z2 z3 z4 z5
  have sA : (w1.alloc (.cells #[.slice none 0 0] 51)).heap.size = w1.heap.size + 1 := by simp
  have k1 : ((w1.alloc (.cells #[.slice none 0 0] 51)).alloc (.cells #[.int .i64 0, .int .i64 8, .bool false, .bool false, .int .i64 2, .int .i64 1] 38)).heap[w1.heap.size]? = some (.cells #[.slice none 0 0] 51 (0, 0)) := blk_alloc (blk_new _ _) _
  have k3 : ((w1.alloc (.cells #[.slice none 0 0] 51)).alloc (.cells #[.int .i64 0, .int .i64 8, .bool false, .bool false, .int .i64 2, .int .i64 1] 38)).heap[w1.heap.size + 1]? = some (.cells #[.int .i64 0, .int .i64 8, .bool false, .bool false, .int .i64 2, .int .i64 1] 38 (0, 0)) := by
    have := blk_new (w1.alloc (.cells #[.slice none 0 0] 51)) (.cells #[.int .i64 0, .int .i64 8, .bool false, .bool false, .int .i64 2, .int .i64 1] 38)
    rwa [sA] at this
  have k0 : ((w1.alloc (.cells #[.slice none 0 0] 51)).alloc (.cells #[.int .i64 0, .int .i64 8, .bool false, .bool false, .int .i64 2, .int .i64 1] 38)).heap[w.heap.size]? = some (.cells #[.int .i64 0, .int .i64 8, .bool false, .bool false, .int .i64 2, .int .i64 1] 38 (0, 0)) := blk_alloc (blk_alloc K0.out _) _
  have kb : Below w.heap.size w ((w1.alloc (.cells #[.slice none 0 0] 51)).alloc (.cells #[.int .i64 0, .int .i64 8, .bool false, .bool false, .int .i64 2, .int .i64 1] 38)) := below_alloc (below_alloc B0.out _) _
  have ksz : ((w1.alloc (.cells #[.slice none 0 0] 51)).alloc (.cells #[.int .i64 0, .int .i64 8, .bool false, .bool false, .int .i64 2, .int .i64 1] 38)).heap.size = w1.heap.size + 2 := by simp
  generalize ((w1.alloc (.cells #[.slice none 0 0] 51)).alloc (.cells #[.int .i64 0, .int .i64 8, .bool false, .bool false, .int .i64 2, .int .i64 1] 38)) = W4 at k0 k1 k3 kb ksz ⊢
  have KSZ := Aside0.mk ksz
  clear ksz
  refine hs_range rfl (by omega) (gf := 45) (lb := #[.pointer (some ⟨w1.heap.size + 1, 0, none⟩)]) rfl trivial (enters_of Try.func45 (by kernel_rfl) rfl) hsN (hs_Kp (w1.heap.size + 1)) ?hit (fun h k => h.trans k) (fun W l o o' h hc => hs_Kp.put _ _ _ _ _ h hc) rfl
    (fun pre W1 => ∃ v, W1.heap[w.heap.size]? = some (.cells #[.int .i64 0, .int .i64 8, .bool false, .bool false, .int .i64 2, .int .i64 1] 38 (0, 0)) ∧ W1.heap[w1.heap.size]? = some (.cells #[v] 51 (0, 0)) ∧ W1.ownsRow (W4.heap.size + 2) 3 1 v pre.length (encs (Value.int .i64) pre) ∧ Below w.heap.size w W1) ?hI ⟨_, k0, k1, own_nil _ _ _ _, kb⟩ (a₁ := ?a1) ?assign ?body ?done
  case hit =>
    intro l J W hb hsz hY h0
    exact hs_iter _ l _ (by omega) J W (blk_below k3 hb) hY h0
  case hI =>
    have ksz := KSZ.out
    rintro s A B row ⟨v, x0, x1, x2, x3⟩ hg hr
    refine ⟨v, blk_grown x0 hg (fun e => by have := hr _ e.symm; omega), blk_grown x1 hg (fun e => by have := hr _ e.symm; omega), own_other x2 hg ?_, x3.grown hg (below_size x3) (fun k e => by have := hr _ e; omega)⟩
    by_cases hne : v.ownBlock = none
    · exact .inl hne
    refine .inr fun e => ?_
    cases hv : v.ownBlock with
    | none => exact absurd hv hne
    | some k =>
      have h1 := own_base x2 k hv
      have h2 := hr k (by rw [← e, hv])
      omega
  case assign =>
    intro l x W K hK
    gi_wp2
    exact hK
  case body =>
    rintro l pre x W hx hpl hsW ⟨v, x0, x1, x2, x3⟩
    have hp8 : pre.length + 1 ≤ 8 := by rw [List.length_append, List.length_singleton] at hpl; exact hpl
    have c1 : W.cell? ⟨w1.heap.size, 0, none⟩ = some v := by rw [blk_cell x1]; rfl
    have hc1 : ∀ j u, ([.int .i64 x] : List Value)[j]? = some u → (W.alloc (.cells #[.int .i64 x] 3)).cell? ((⟨W.heap.size, 0, none⟩ : Addr).add j) = some u := by
      intro j u hj
      match j, hj with
      | 0, hj => simp at hj; subst hj; rw [show (⟨W.heap.size, 0, none⟩ : Addr).add 0 = ⟨W.heap.size, 0, none⟩ by simp [Addr.add], blk_cell (blk_new W _)]; rfl
    have hc2 : ∀ u ∈ ([.int .i64 x] : List Value), u.oneCell' = true := by intro u hu; simp at hu; subst hu; rfl
    have hc4 : (pre.length + 1) * 8 ≤ 140737488355328 := by omega
    have hc3 : pre.length + 1 ≤ maxLen := by simp only [maxLen]; omega
    have hc5 : W4.heap.size + 2 ≤ (W.alloc (.cells #[.int .i64 x] 3)).heap.size := by simp; omega
    have HX2 := Aside0.mk (x2.alloc (.cells #[.int .i64 x] 3))
    have HX1 := Aside0.mk (blk_alloc x1 (.cells #[.int .i64 x] 3))
    have HX0 := Aside0.mk (blk_alloc x0 (.cells #[.int .i64 x] 3))
    have HX3 := Aside0.mk x3
    clear x0 x1 x2 x3 hx hpl
    gi_wp2_with (gi_at_builtin; refine wpListIn_append_own _ rfl _ _ 51 rfl (W4.heap.size + 2) 3 i0 (.int .i64 0) 1 8 Try.underlying51 hi hz0 hz1 hz2 rfl (by decide) _ _ _ rfl HX2.out ⟨W.heap.size, 0, none⟩ 1 1 [.int .i64 x] rfl rfl hc1 hc2 hc3 hc4 hc5 ?_)
    intro v' w' hown' hgrow _
    obtain ⟨A', c', hv'⟩ := own_slice hown'
    subst hv'
    have ksz := KSZ.out
    have hbo : ∀ k, v.ownBlock = some k → W4.heap.size + 2 ≤ k := own_base HX2.out
    have hx1' := blk_grown HX1.out hgrow (fun e => by have := hbo _ e.symm; omega)
    have hx0' := blk_grown HX0.out hgrow (fun e => by have := hbo _ e.symm; omega)
    have hb' : Below w.heap.size w w' := (below_alloc HX3.out _).grown hgrow (below_size (below_alloc HX3.out _)) (fun k e => by have := hbo _ e; omega)
    have hk0 : KeepsOthers W w' := (KeepsOthers.alloc W _).trans (KeepsOthers.of_grownBy hgrow (fun j o hj ho => by
      obtain ⟨cells, hc⟩ := own_typed HX2.out j hj
      rw [hc] at ho; cases ho; rfl))
    have hk1 : hs_Kp (w1.heap.size + 1) W w' := (hs_Kp.grown (World.grownBy_alloc _ _ none) (by simp)).trans (hs_Kp.grown hgrow (fun e => by have := hbo _ e.symm; omega))
    have c2 : w'.cell? ⟨w1.heap.size, 0, none⟩ = some v := by rw [blk_cell hx1']; rfl
    have f2 : w'.frozen? ⟨w1.heap.size, 0, none⟩ = false := blk_frozen hx1' 0
    have HX1' := Aside0.mk hx1'
    have HX0' := Aside0.mk hx0'
    have HB' := Aside0.mk hb'
    have HK0 := Aside0.mk hk0
    have HK1 := Aside0.mk hk1
    have HO' := Aside0.mk hown'
    clear hx1' hx0' hb' hk0 hk1 hown' hgrow HX0 HX1 HX2 HX3 ksz
    gi_wp2
    have ksz := KSZ.out
    have hbo' : ∀ k, (Value.slice A' (pre.length + 1) c').ownBlock = some k → W4.heap.size + 2 ≤ k := own_base HO'.out
    refine ⟨HK0.out.trans (KeepsOthers.setCell _ _ _), HK1.out.trans (hs_Kp.grown (grownBy_setCell' _ _ _) (by simp)), blk_far HX0'.out (by simp only; omega) _, _, blk_set HX1'.out 0 _, ?_, HB'.out.setCell (p := ⟨w1.heap.size, 0, none⟩) (by simp only; omega) _⟩
    refine own_setCell (by rw [show encs (Value.int .i64) (pre ++ [x]) = encs (Value.int .i64) pre ++ [.int .i64 x] by simp [encs]]; simpa using HO'.out) (fun e => by have := hbo' _ e.symm; simp at this; omega) _
  case done =>
    rintro D W hD ⟨v, x0, x1, x2, x3⟩ hK
    have c1 : W.cell? ⟨w1.heap.size, 0, none⟩ = some v := by rw [blk_cell x1]; rfl
    have c2 : W.cell? ⟨w.heap.size, 2, none⟩ = some (.bool false) := (blk_cell x0 2).trans rfl
    gi_wp2
    have ksz := KSZ.out
    refine ⟨by simp, .inl ⟨_, _, rfl, run_takeDeferred hK, ?_⟩⟩
    refine ⟨_, results_tmp rfl _ _ _, v, rfl, ?_, x3.trans (belowK_b (w := W4) (by omega) W D _ _ (by omega) hK rfl rfl)⟩
    have x4 := own_other x2 (grownBy_putObj' W D (.deferred none)) (.inr fun e => by have := own_base x2 D e; omega)
    exact Kd.R_lower (Kd.R_of_own (enc := Value.int .i64) x4 (fun _ _ => trivial)) (by omega)
end
def sig_Places.f (a0_0 : Int) (a0_1 : Int) (a0_2 : Bool) (a0_3 : Bool) (a0_4 : Int) (a0_5 : Int) : Option (List Int) := if a0_0 = 0 ∧ a0_1 = 8 ∧ a0_2 = false ∧ a0_3 = false ∧ a0_4 = 2 ∧ a0_5 = 1 then some hsN else none
theorem sig_Places.calls (a0_0 : Int) (a0_1 : Int) (a0_2 : Bool) (a0_3 : Bool) (a0_4 : Int) (a0_5 : Int) (r : List Int) (w : World) (h : sig_Places.f a0_0 a0_1 a0_2 a0_3 a0_4 a0_5 = some r) : Calls Try.prog 18 #[.agg #[.int .i64 a0_0, .int .i64 a0_1, .bool a0_2, .bool a0_3, .int .i64 a0_4, .int .i64 a0_5]] w fun e w' => ∃ v0_ : Value, e = .returned v0_ ∧ Kd.R (Kd.int .i64) 3 w' w.heap.size (fun _ => True) v0_ r ∧ Below w.heap.size w w' := by
  unfold sig_Places.f at h
  by_cases c : a0_0 = 0 ∧ a0_1 = 8 ∧ a0_2 = false ∧ a0_3 = false ∧ a0_4 = 2 ∧ a0_5 = 1
  · rw [if_pos c] at h
    obtain rfl := Option.some.inj h
    obtain ⟨rfl, rfl, rfl, rfl, rfl, rfl⟩ := c
    exact hs_places18 w
  · rw [if_neg c] at h; cases h
end

end Go.Proofs.Ytfbmgflkfpppmaa.Px

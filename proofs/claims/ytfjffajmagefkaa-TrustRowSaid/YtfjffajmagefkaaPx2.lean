-- Written by myprint.py, a program of this session's, over the kit's print.py; not a text of print.sh's own.
import Derived.Test.YtfjffajmagefkaaPx0
namespace Go.Proofs.Ytfjffajmagefkaa.Px
open Go.RowKit Go.Proofs.YtfjffajmagefkaaW.PrintWords Go.Proofs.YtfjffajmagefkaaW.PrintLast Go.Proofs.YtfjffajmagefkaaW.PrintMore
attribute [local go_sem] max2_int min2_int max_two min_two max_three min_three max_four min_four   -- for this text's walks alone
set_option linter.unusedVariables false
set_option linter.unusedSimpArgs false

/-! ### crc_register_take: helper -/
theorem crc_and15 (s : BitVec 15) : Go.bits .and .i64 ((s.toNat : Int) * 2) 32767 = (((s <<< 1 : BitVec 15).toNat : Nat) : Int) := by
  have h := H.and_i64 (s.toNat * 2) 32767 (by have := s.isLt; omega) (by decide)
  rw [show ((s.toNat : Int) * 2) = ((s.toNat * 2 : Nat) : Int) by omega]
  refine h.trans ?_
  rw [show s.toNat * 2 &&& 32767 = s.toNat * 2 % 32768 from Nat.and_two_pow_sub_one_eq_mod _ 15, BitVec.toNat_shiftLeft, Nat.shiftLeft_eq]
theorem crc_and8 (s : BitVec 8) : Go.bits .and .i64 ((s.toNat : Int) * 2) 255 = (((s <<< 1 : BitVec 8).toNat : Nat) : Int) := by
  have h := H.and_i64 (s.toNat * 2) 255 (by have := s.isLt; omega) (by decide)
  rw [show ((s.toNat : Int) * 2) = ((s.toNat * 2 : Nat) : Int) by omega]
  refine h.trans ?_
  rw [show s.toNat * 2 &&& 255 = s.toNat * 2 % 256 from Nat.and_two_pow_sub_one_eq_mod _ 8, BitVec.toNat_shiftLeft, Nat.shiftLeft_eq]
theorem crc_xor15 (s : BitVec 15) : Go.bits .xor .i64 (s.toNat : Int) 17817 = (((s ^^^ 0x4599#15 : BitVec 15).toNat : Nat) : Int) := by
  have h := H.xor_i64 s.toNat 17817 (by have := s.isLt; omega) (by decide)
  refine h.trans ?_
  rw [BitVec.toNat_xor]; rfl
theorem crc_xor8 (s : BitVec 8) : Go.bits .xor .i64 (s.toNat : Int) 29 = (((s ^^^ 0x1D#8 : BitVec 8).toNat : Nat) : Int) := by
  have h := H.xor_i64 s.toNat 29 (by have := s.isLt; omega) (by decide)
  refine h.trans ?_
  rw [BitVec.toNat_xor]; rfl
set_option maxHeartbeats 800000 in
set_option maxRecDepth 100000 in
theorem crc_take15 (g B0 : Nat) (s : BitVec 15) (b : Int) (w0 w : World) (hblk : w.heap[g]? = some (.cells #[.int .i64 s.toNat, .int .i64 15, .int .i64 17817] 54 (0, 0))) (hB : Below B0 w0 w) (hg : B0 ≤ g) :
    Calls Try.prog 26 #[.pointer (some ⟨g, 0, none⟩), .int .i64 b] w fun e w' => e = .returned (.tuple #[]) ∧ w'.heap[g]? = some (.cells #[.int .i64 (H.regB 0x4599#15 s b).toNat, .int .i64 15, .int .i64 17817] 54 (0, 0)) ∧ Below B0 w0 w' := by
  have c0 : w.cell? ⟨g, 0, none⟩ = some (.int .i64 s.toNat) := by rw [blk_cell hblk]; rfl
  have c1 : w.cell? ⟨g, 1, none⟩ = some (.int .i64 15) := by rw [blk_cell hblk]; rfl
  have c2 : w.cell? ⟨g, 2, none⟩ = some (.int .i64 17817) := by rw [blk_cell hblk]; rfl
  have f0 : w.frozen? ⟨g, 0, none⟩ = false := blk_frozen hblk 0
  have HBL := Aside0.mk hblk
  have HB0 := Aside0.mk hB
  have hs1 : (s.toNat : Int) ≤ 32767 := by have := s.isLt; omega
  have hs0 : 0 ≤ (s.toNat : Int) := by omega
  have HS := Aside0.mk (show H.regB 0x4599#15 s b = if Go.bits .xor .i64 ((s.toNat : Int) / 16384) b = 1 then s <<< 1 ^^^ 0x4599#15 else s <<< 1 from rfl)
  have HA := Aside0.mk (crc_and15 s)
  have HX1 := Aside0.mk (crc_xor15 (s <<< 1))
  clear hblk hB
  generalize hn : (s.toNat : Int) = n at *
  have HN := Aside0.mk hn
  clear hn
  by_cases hx : Go.bits .xor .i64 (n / 16384) b = 1
  · have hxb : (Go.bits .xor .i64 (n / 16384) b == 1) = true := beq_iff_eq.mpr hx
    have HX := Aside0.mk hx
    clear hx
    go_enter Try.func26, Try.ntmps26
    go_wp2_with fail
    go_quiet (fail)
    go_wp2_with fail
    go_region
    go_wp2_with fail
    go_region
    go_wp2_with fail
    go_end0
    refine ⟨rfl, ?_, ?_⟩
    · rw [HS.out, if_pos HX.out, ← HX1.out, ← HA.out]
      exact blk_set (blk_drewN (blk_set (blk_drewN HBL.out (nq + 1)) 0 _) 1) 0 _
    · exact (pw_below_drewN ((pw_below_drewN HB0.out (nq + 1)).setCell (p := ⟨g, 0, none⟩) hg _) 1).setCell (p := ⟨g, 0, none⟩) hg _
  · have hxb : (Go.bits .xor .i64 (n / 16384) b == 1) = false := beq_eq_false_iff_ne.mpr hx
    have HX := Aside0.mk hx
    clear hx
    go_enter Try.func26, Try.ntmps26
    go_wp2_with fail
    go_quiet (fail)
    go_wp2_with fail
    go_region
    go_wp2_with fail
    go_end0
    refine ⟨rfl, ?_, ?_⟩
    · rw [HS.out, if_neg HX.out, ← HA.out]
      exact blk_set (blk_drewN HBL.out (nq + 1)) 0 _
    · exact (pw_below_drewN HB0.out (nq + 1)).setCell (p := ⟨g, 0, none⟩) hg _
set_option maxHeartbeats 800000 in
set_option maxRecDepth 100000 in
theorem crc_take8 (g B0 : Nat) (s : BitVec 8) (b : Int) (w0 w : World) (hblk : w.heap[g]? = some (.cells #[.int .i64 s.toNat, .int .i64 8, .int .i64 29] 54 (0, 0))) (hB : Below B0 w0 w) (hg : B0 ≤ g) :
    Calls Try.prog 26 #[.pointer (some ⟨g, 0, none⟩), .int .i64 b] w fun e w' => e = .returned (.tuple #[]) ∧ w'.heap[g]? = some (.cells #[.int .i64 (H.regB 0x1D#8 s b).toNat, .int .i64 8, .int .i64 29] 54 (0, 0)) ∧ Below B0 w0 w' := by
  have c0 : w.cell? ⟨g, 0, none⟩ = some (.int .i64 s.toNat) := by rw [blk_cell hblk]; rfl
  have c1 : w.cell? ⟨g, 1, none⟩ = some (.int .i64 8) := by rw [blk_cell hblk]; rfl
  have c2 : w.cell? ⟨g, 2, none⟩ = some (.int .i64 29) := by rw [blk_cell hblk]; rfl
  have f0 : w.frozen? ⟨g, 0, none⟩ = false := blk_frozen hblk 0
  have HBL := Aside0.mk hblk
  have HB0 := Aside0.mk hB
  have hs1 : (s.toNat : Int) ≤ 255 := by have := s.isLt; omega
  have hs0 : 0 ≤ (s.toNat : Int) := by omega
  have HS := Aside0.mk (show H.regB 0x1D#8 s b = if Go.bits .xor .i64 ((s.toNat : Int) / 128) b = 1 then s <<< 1 ^^^ 0x1D#8 else s <<< 1 from rfl)
  have HA := Aside0.mk (crc_and8 s)
  have HX1 := Aside0.mk (crc_xor8 (s <<< 1))
  clear hblk hB
  generalize hn : (s.toNat : Int) = n at *
  have HN := Aside0.mk hn
  clear hn
  by_cases hx : Go.bits .xor .i64 (n / 128) b = 1
  · have hxb : (Go.bits .xor .i64 (n / 128) b == 1) = true := beq_iff_eq.mpr hx
    have HX := Aside0.mk hx
    clear hx
    go_enter Try.func26, Try.ntmps26
    go_wp2_with fail
    go_quiet (fail)
    go_wp2_with fail
    go_region
    go_wp2_with fail
    go_region
    go_wp2_with fail
    go_end0
    refine ⟨rfl, ?_, ?_⟩
    · rw [HS.out, if_pos HX.out, ← HX1.out, ← HA.out]
      exact blk_set (blk_drewN (blk_set (blk_drewN HBL.out (nq + 1)) 0 _) 1) 0 _
    · exact (pw_below_drewN ((pw_below_drewN HB0.out (nq + 1)).setCell (p := ⟨g, 0, none⟩) hg _) 1).setCell (p := ⟨g, 0, none⟩) hg _
  · have hxb : (Go.bits .xor .i64 (n / 128) b == 1) = false := beq_eq_false_iff_ne.mpr hx
    have HX := Aside0.mk hx
    clear hx
    go_enter Try.func26, Try.ntmps26
    go_wp2_with fail
    go_quiet (fail)
    go_wp2_with fail
    go_region
    go_wp2_with fail
    go_end0
    refine ⟨rfl, ?_, ?_⟩
    · rw [HS.out, if_neg HX.out, ← HA.out]
      exact blk_set (blk_drewN HBL.out (nq + 1)) 0 _
    · exact (pw_below_drewN HB0.out (nq + 1)).setCell (p := ⟨g, 0, none⟩) hg _

/-! ### crc_Byte: function 25 -/
def crc_Byte.f (l0 : List Int) : Option Int := some (Go.bits .xor .i64 ((H.crcX l0).toNat : Int) 255)
def regK (x : Int) (s : BitVec 8) (i : Nat) : BitVec 8 := (List.range i).foldl (fun s j => H.regB 0x1D#8 s (H.bit8 x j)) s
theorem regK_snoc (x : Int) (s : BitVec 8) (i : Nat) : regK x s (i + 1) = H.regB 0x1D#8 (regK x s i) (H.bit8 x i) := by simp [regK, List.range_succ, List.foldl_append]
theorem regK_8 (x : Int) (s : BitVec 8) : regK x s 8 = H.regX s x := rfl
theorem crcX_snoc (l : List Int) (x : Int) : H.crcX (l ++ [x]) = H.regX (H.crcX l) x := by simp [H.crcX, List.foldl_append]
set_option maxHeartbeats 800000 in
set_option maxRecDepth 100000 in
theorem crc_Byte.calls (A0 : Option Addr) (c0 : Nat) (l0 : List Int) (r : Int) (w : World) (hr0 : Kd.C (Kd.int .u8) w A0 l0.length l0) (hc0 : l0.length ≤ c0) (h : crc_Byte.f l0 = some r) :
    Calls Try.prog 25 #[.slice A0 l0.length c0] w fun e w' => e = .returned (.int .i64 r) ∧ Below w.heap.size w w' := by
  have HR0 := Aside0.mk hr0
  have HC0 := Aside0.mk hc0
  have hm := hr0.2.1
  clear hr0 hc0
  obtain rfl := Option.some.inj h
  clear h
  go_enter Try.func25, Try.ntmps25
  go_wp2
  go_loopw [11] (fun v wr => ∃ k : Nat, k ≤ l0.length ∧ v = .int .i64 k ∧ Aside0 (wr.heap[w.heap.size]? = some (.cells #[.int .i64 (H.crcX (l0.take k)).toNat, .int .i64 8, .int .i64 29] 54 (0, 0))) ∧ Aside0 (Below w.heap.size w wr)) (fun v _ => l0.length - (intOf v).toNat)
  case atStart => exact ⟨0, Nat.zero_le _, rfl, ⟨blk_new _ _⟩, ⟨below_alloc (Below.refl _ _) _⟩⟩
  case round =>
    obtain ⟨k, hk, rfl, HB, HW⟩ := hrel
    by_cases hlt : k < l0.length
    · have p1 : 0 ≤ (k : Int) := by omega
      have q1 : (k : Int) < (l0.length : Int) := by omega
      obtain ⟨ad, e1, hx⟩ := Kd.at_int HR0.out k p1 q1
      cases e1
      have hx2 : wr.cell? (ad.add k) = some (.int .u8 (rd l0 k)) := pw_cell_below HW.out hx
      clear hx
      obtain ⟨wo, hwo⟩ : ∃ wo : World, wo = wr := ⟨_, rfl⟩
      subst hwo
      go_wp2_with fail
      go_loopw [15] (fun v wr => ∃ j : Nat, j ≤ 8 ∧ v = .int .i64 j ∧ Aside0 (wr.heap[w.heap.size]? = some (.cells #[.int .i64 (regK (rd l0 k) (H.crcX (l0.take k)) j).toNat, .int .i64 8, .int .i64 29] 54 (0, 0))) ∧ Aside0 (Below w.heap.size w wr)) (fun v _ => 8 - (intOf v).toNat)
      case atStart => exact ⟨0, Nat.zero_le _, rfl, HB, HW⟩
      case round =>
        obtain ⟨j, hj, rfl, HB, HW⟩ := hrel
        by_cases hlj : j < 8
        · go_wp2_with fail
          rw [H.and_one]
          refine (crc_take8 w.heap.size w.heap.size (regK (rd l0 k) (H.crcX (l0.take k)) j) (H.bit8 (rd l0 k) j) w _ HB.out HW.out (Nat.le_refl _)).mono ?_
          rintro e w1 ⟨rfl, hb1, hw1⟩
          have HB1 := Aside0.mk hb1
          have HW1 := Aside0.mk hw1
          clear hb1 hw1
          go_wp2_with fail
          go_roundw
          case rel => exact ⟨j + 1, by omega, by go_num, ⟨by rw [regK_snoc]; exact HB1.out⟩, HW1⟩
          case measure => simp [intOf]; omega
        · obtain rfl : j = 8 := by omega
          go_wp2_with fail
          go_roundw
          case rel => exact ⟨k + 1, by omega, by go_num, ⟨by rw [H.take_snoc 0 l0 k hlt, crcX_snoc, ← regK_8]; exact HB.out⟩, HW⟩
          case measure => simp [intOf]; omega
    · obtain rfl : k = l0.length := by omega
      have c0 : wr.cell? ⟨w.heap.size, 0, none⟩ = some (.int .i64 (H.crcX l0).toNat) := by rw [blk_cell HB.out, List.take_length]; rfl
      go_wp2_with fail
      go_ret
      exact ⟨rfl, HW.out⟩

/-! ### trust_sum: function 21 -/
def trust_sum.f (a0 : Int) (a1 : Int) (l2 : List Int) : Option (Int) := (some (([(a0 / 256) % 256, (a0) % 256, (a1) % 256] : List Int) : List Int)).bind fun y101 => (if y101.length + l2.length < 140737488355328 then ((crc_Byte.f (y101 ++ l2)).bind fun t107 => (some ((t107) % 256))) else (none))
set_option maxHeartbeats 8000000 in
set_option maxRecDepth 100000 in
theorem trust_sum.calls (a0 : Int) (a1 : Int) (A2 : Option Addr) (c2 : Nat) (l2 : List Int) (r : Int) (w : World) (hr2 : Kd.C (Kd.int .u8) w A2 l2.length l2) (hc2 : l2.length ≤ c2) (h : trust_sum.f a0 a1 l2 = some r) :
    Calls Try.prog 21 #[.int .i64 a0, .int .i64 a1, .slice A2 l2.length c2] w fun e w' => e = .returned (.int .u8 r) ∧ Below w.heap.size w w' := by
  have HR2 := Aside0.mk hr2
  have HC2 := Aside0.mk hc2
  clear hr2 hc2
  have HB := Aside0.mk (Below.refl w.heap.size w)
  have H : ((some (([(a0 / 256) % 256, (a0) % 256, (a1) % 256] : List Int) : List Int)).bind fun y101 => (if y101.length + l2.length < 140737488355328 then ((crc_Byte.f (y101 ++ l2)).bind fun t107 => (some ((t107) % 256))) else (none))) = some r := h
  clear h
  obtain ⟨y101, hy101⟩ : ∃ y_ : List Int, y_ = (([(a0 / 256) % 256, (a0) % 256, (a1) % 256] : List Int)) := ⟨_, rfl⟩
  replace H : (if y101.length + l2.length < 140737488355328 then ((crc_Byte.f (y101 ++ l2)).bind fun t107 => (some ((t107) % 256))) else (none)) = some r := by first | (rw [hy101]; with_reducible exact H) | (have H2_ := (Option.bind_some _ _).symm.trans H; rw [hy101]; with_reducible exact H2_) | (have H2_ := (Option.bind_some _ _).symm.trans H; with_reducible exact H2_) | with_reducible exact H | (rw [hy101]; exact H) | exact H
  have Ny101 := Aside0.mk hy101
  clear hy101
  by_cases c4 : y101.length + l2.length < 140737488355328
  · rw [if_pos c4] at H
    have LMc4 := Aside0.mk c4
    clear c4
    obtain ⟨y104, hy104⟩ : ∃ y_ : List Int, y_ = (y101 ++ l2) := ⟨_, rfl⟩
    replace H : ((crc_Byte.f y104).bind fun t107 => (some ((t107) % 256))) = some r := by first | (rw [hy104]; with_reducible exact H) | (have H2_ := (Option.bind_some _ _).symm.trans H; rw [hy104]; with_reducible exact H2_) | (have H2_ := (Option.bind_some _ _).symm.trans H; with_reducible exact H2_) | with_reducible exact H | (rw [hy104]; exact H) | exact H
    have Ny104 := Aside0.mk hy104
    clear hy104
    replace H := Option.bind_eq_some_iff.mp H
    obtain ⟨t107, A50, H⟩ := H
    replace H : (some ((t107) % 256)) = some r := H
    have A5 := Aside0.mk A50
    clear A50
    obtain rfl := Option.some.inj H
    go_enter Try.func21, Try.ntmps21
    go_wp2_with (first | ((with_reducible refine gate_dst (N := 14) rfl ?_); refine Kd.R_lit (Kd.int .u8) _ 5 ?hg (N := 14) ?hd (xs := ([(a0 / 256) % 256, (a0) % 256, (a1) % 256] : List Int)) (inner := [.int .u8 ((a0 / 256) % 256), .int .u8 ((a0) % 256), .int .u8 ((a1) % 256)]) (ok := fun _ => True) (okp := fun _ => True) ?hr ?hp (fun _ hk => hk) trivial (Below.refl _ _) (Nat.le_refl _) (by simp) ?_; (case hd => rfl); (case hg => rfl); (case hr => first | (go_simp; done) | (go_simp; rfl)); (case hp => exact (Reps.one (show Kd.M (Kd.int .u8) _ _ _ ((a0 / 256) % 256) [.int .u8 ((a0 / 256) % 256)] from rfl) (Reps.one (show Kd.M (Kd.int .u8) _ _ _ ((a0) % 256) [.int .u8 ((a0) % 256)] from rfl) (Reps.one (show Kd.M (Kd.int .u8) _ _ _ ((a1) % 256) [.int .u8 ((a1) % 256)] from rfl) (Reps.none _ _))))); intro v102 w6 ho7 hb hg_ hnew_; clear hg_ hnew_; (first | rw [← Ny101.out] at ho7 | (simp only [Int.reduceToNat] at ho7; rw [← Ny101.out] at ho7)); have n0_ := Aside0.mk (Kd.R_lower ho7 (below_size (by repeat (first | (with_reducible first | exact HB.out | apply below_alloc | apply pw_below_drewN | apply below_drew1) | exact HB.out)))); have n1_ := Aside0.mk (below_step (by repeat (first | (with_reducible first | exact HB.out | apply below_alloc | apply pw_below_drewN | apply below_drew1) | exact HB.out)) hb); clear HB; have HO103 := n0_; have HB := n1_; clear n0_ n1_; clear hb ho7) | ((with_reducible refine gate_builtin (b := .append) (xs := #[.tmp 14, .tmp 15]) rfl ?_); at_builtin; refine Kd.R_append_rows (Kd.int .u8) (w0 := w) w.heap.size rfl (.tmp 14) (.tmp 15) 22 5 (.int .u8 0) 1 rfl Try.underlying22 info5 rfl (by decide) (by omega) v102 y101 l2 _ _ _ (fun _ => True) (fun _ => False) rfl rfl ?aO ?aR (fun _ _ h => h) (fun _ h => h.elim) ?aF ?aB ?aS ?aL ?_; (case aR => repeat (first | exact (Kd.C_below HR2.out HB.out) | (with_reducible refine Kd.C_alloc ?_ _) | (with_reducible refine Kd.C_drewN ?_ _) | (with_reducible refine Kd.C_drew ?_))); (case aB => exact (by repeat (first | (with_reducible first | exact HB.out | apply below_alloc | apply pw_below_drewN | apply below_drew1) | exact HB.out))); (case aF => exact (fun _ _ => trivial)); (case aO => exact (by (with_reducible repeat (first | apply Kd.R_alloc | apply Kd.R_drewN | apply Kd.R_drew)); exact HO103.out)); (case aS => exact (below_size (by repeat (first | (with_reducible first | exact HB.out | apply below_alloc | apply pw_below_drewN | apply below_drew1) | exact HB.out)))); (case aL => have := LMc4.out; omega); intro v105 w8 ho hb hg hat; rw [← Ny104.out] at ho; have n0_ := Aside0.mk (hb); have n1_ := Aside0.mk (ho); clear HB; clear HO103; have HB := n0_; have HO106 := n1_; clear n0_ n1_; clear ho hb hg hat; obtain ⟨Ao9, co9, eo9⟩ := Kd.R_slice HO106.out; subst eo9) | ((with_reducible refine gate_callee (f := 25) rfl ?_); refine goesL_ (some 17) rfl rfl Try.func25 (by kernel_rfl) rfl #[.slice Ao9 y104.length co9] rfl (by (try simp only [List.map_toArray, List.map_cons, List.map_nil]); first | done | rfl | (simp only [List.length_drop, List.length_take]; rfl)) ?_; (with_reducible refine (crc_Byte.calls _ _ y104 t107 _ ?side1 ?side2 A5.out).mono ?_); (case side1 => repeat (first | exact (Kd.R_reads' HO106.out).2.2 | (with_reducible refine Kd.C_alloc ?_ _) | (with_reducible refine Kd.C_drewN ?_ _) | (with_reducible refine Kd.C_drew ?_))); (case side2 => exact (Kd.R_reads' HO106.out).2.1); rintro e w10 ⟨rfl, hb⟩; refine ⟨_, rfl, ?_⟩; have n0_ := Aside0.mk (Kd.R_below (by (with_reducible repeat (first | apply Kd.R_alloc | apply Kd.R_drewN | apply Kd.R_drew)); exact HO106.out) hb); have n1_ := Aside0.mk (below_step (by repeat (first | (with_reducible first | exact HB.out | apply below_alloc | apply pw_below_drewN | apply below_drew1) | exact HB.out)) hb); clear HO106; clear HB; have HO106 := n0_; have HB := n1_; clear n0_ n1_; (try clear hb); (try clear hb2); (try clear hk); (try clear hi)))
    go_ret
    exact ⟨by first | rfl | (simp [errW_none, errW_some] <;> rfl) | (simp [*, errW_none, errW_some] <;> rfl), by repeat (first | (with_reducible first | exact HB.out | apply below_alloc | apply pw_below_drewN | apply below_drew1) | exact HB.out)⟩
  · rw [if_neg c4] at H
    exact absurd H (by simp)

/-! ### trust_Wrap: function 11 -/
def trust_Wrap.f (a0 : Int) (a1 : Int) (l2 : List Int) : Option (List Int × Bool) := if (a0 / 65536) = 0 then (if a1 < 0 then (some (([] : List Int), false)) else (if a1 ≥ 15 then (some (([] : List Int), false)) else (if (l2.length : Int) > 6 then (some (([] : List Int), false)) else ((trust_sum.f a0 a1 l2).bind fun t108 => ((some (([t108, (a1) % 256] : List Int) : List Int)).bind fun y109 => (if y109.length + l2.length < 140737488355328 then (some ((y109 ++ l2), true)) else (none))))))) else (some (([] : List Int), false))
set_option maxHeartbeats 8000000 in
set_option maxRecDepth 100000 in
theorem trust_Wrap.calls (a0 : Int) (a1 : Int) (A2 : Option Addr) (c2 : Nat) (l2 : List Int) (r1 : List Int) (r2 : Bool) (w : World) (hr2 : Kd.C (Kd.int .u8) w A2 l2.length l2) (hc2 : l2.length ≤ c2) (h : trust_Wrap.f a0 a1 l2 = some (r1, r2)) :
    Calls Try.prog 11 #[.int .i64 a0, .int .i64 a1, .slice A2 l2.length c2] w fun e w' => ∃ v0_ : Value, e = .returned (.tuple #[v0_, .bool r2]) ∧ Kd.R (Kd.int .u8) 5 w' w.heap.size (fun _ => True) v0_ r1 ∧ Below w.heap.size w w' := by
  have HR2 := Aside0.mk hr2
  have HC2 := Aside0.mk hc2
  clear hr2 hc2
  have HB := Aside0.mk (Below.refl w.heap.size w)
  have H : (if (a0 / 65536) = 0 then (if a1 < 0 then (some (([] : List Int), false)) else (if a1 ≥ 15 then (some (([] : List Int), false)) else (if (l2.length : Int) > 6 then (some (([] : List Int), false)) else ((trust_sum.f a0 a1 l2).bind fun t108 => ((some (([t108, (a1) % 256] : List Int) : List Int)).bind fun y109 => (if y109.length + l2.length < 140737488355328 then (some ((y109 ++ l2), true)) else (none))))))) else (some (([] : List Int), false))) = some (r1, r2) := h
  clear h
  by_cases c4 : (a0 / 65536) = 0
  · rw [if_pos c4] at H
    have c4b0 : ((a0 / 65536) == 0) = true := beq_iff_eq.mpr c4
    have c4b1 : ((a0 / 65536) != 0) = false := bne_eq_false_iff_eq.mpr c4
    clear c4
    by_cases c5 : a1 < 0
    · rw [if_pos c5] at H
      have c5b0 : decide (a1 < 0) = true := decide_eq_true c5
      clear c5
      simp only [Option.some.injEq, Prod.mk.injEq] at H
      obtain ⟨rfl, rfl⟩ := H
      go_enter Try.func11, Try.ntmps11
      go_wp2
      go_ret2
      exact ⟨_, by first | rfl | (simp [errW_none, errW_some] <;> rfl) | (simp [*, errW_none, errW_some] <;> rfl), by first | exact Kd.R_nil _ _ _ _ _ | exact Kd.N_nil _ _ _ _ _ | exact Kd.V_nil _ _ _ _ _ | exact Kd.Q_nil _ _ _ _ _ | exact Kd.S_nil _ _ _ _ _, by repeat (first | (with_reducible first | exact HB.out | apply below_alloc | apply pw_below_drewN | apply below_drew1) | exact HB.out)⟩
    · rw [if_neg c5] at H
      have c5b0 : decide (a1 < 0) = false := decide_eq_false c5
      clear c5
      by_cases c6 : a1 ≥ 15
      · rw [if_pos c6] at H
        have c6b0 : decide (15 ≤ a1) = true := decide_eq_true c6
        clear c6
        simp only [Option.some.injEq, Prod.mk.injEq] at H
        obtain ⟨rfl, rfl⟩ := H
        go_enter Try.func11, Try.ntmps11
        go_wp2
        go_ret2
        exact ⟨_, by first | rfl | (simp [errW_none, errW_some] <;> rfl) | (simp [*, errW_none, errW_some] <;> rfl), by first | exact Kd.R_nil _ _ _ _ _ | exact Kd.N_nil _ _ _ _ _ | exact Kd.V_nil _ _ _ _ _ | exact Kd.Q_nil _ _ _ _ _ | exact Kd.S_nil _ _ _ _ _, by repeat (first | (with_reducible first | exact HB.out | apply below_alloc | apply pw_below_drewN | apply below_drew1) | exact HB.out)⟩
      · rw [if_neg c6] at H
        have c6b0 : decide (15 ≤ a1) = false := decide_eq_false c6
        clear c6
        by_cases c7 : (l2.length : Int) > 6
        · rw [if_pos c7] at H
          have c7b0 : decide (6 < (l2.length : Int)) = true := decide_eq_true c7
          have c7b1 : decide (6 < l2.length) = true := decide_eq_true (by omega)
          clear c7
          simp only [Option.some.injEq, Prod.mk.injEq] at H
          obtain ⟨rfl, rfl⟩ := H
          go_enter Try.func11, Try.ntmps11
          go_wp2
          go_ret2
          exact ⟨_, by first | rfl | (simp [errW_none, errW_some] <;> rfl) | (simp [*, errW_none, errW_some] <;> rfl), by first | exact Kd.R_nil _ _ _ _ _ | exact Kd.N_nil _ _ _ _ _ | exact Kd.V_nil _ _ _ _ _ | exact Kd.Q_nil _ _ _ _ _ | exact Kd.S_nil _ _ _ _ _, by repeat (first | (with_reducible first | exact HB.out | apply below_alloc | apply pw_below_drewN | apply below_drew1) | exact HB.out)⟩
        · rw [if_neg c7] at H
          have c7b0 : decide (6 < (l2.length : Int)) = false := decide_eq_false c7
          have c7b1 : decide (6 < l2.length) = false := decide_eq_false (by omega)
          clear c7
          replace H := Option.bind_eq_some_iff.mp H
          obtain ⟨t108, A80, H⟩ := H
          replace H : ((some (([t108, (a1) % 256] : List Int) : List Int)).bind fun y109 => (if y109.length + l2.length < 140737488355328 then (some ((y109 ++ l2), true)) else (none))) = some (r1, r2) := H
          have A8 := Aside0.mk A80
          clear A80
          obtain ⟨y109, hy109⟩ : ∃ y_ : List Int, y_ = (([t108, (a1) % 256] : List Int)) := ⟨_, rfl⟩
          replace H : (if y109.length + l2.length < 140737488355328 then (some ((y109 ++ l2), true)) else (none)) = some (r1, r2) := by first | (rw [hy109]; with_reducible exact H) | (have H2_ := (Option.bind_some _ _).symm.trans H; rw [hy109]; with_reducible exact H2_) | (have H2_ := (Option.bind_some _ _).symm.trans H; with_reducible exact H2_) | with_reducible exact H | (rw [hy109]; exact H) | exact H
          have Ny109 := Aside0.mk hy109
          clear hy109
          by_cases c9 : y109.length + l2.length < 140737488355328
          · rw [if_pos c9] at H
            have LMc9 := Aside0.mk c9
            clear c9
            obtain ⟨y112, hy112⟩ : ∃ y_ : List Int, y_ = (y109 ++ l2) := ⟨_, rfl⟩
            replace H : (some (y112, true)) = some (r1, r2) := by first | (rw [hy112]; with_reducible exact H) | (have H2_ := (Option.bind_some _ _).symm.trans H; rw [hy112]; with_reducible exact H2_) | (have H2_ := (Option.bind_some _ _).symm.trans H; with_reducible exact H2_) | with_reducible exact H | (rw [hy112]; exact H) | exact H
            have Ny112 := Aside0.mk hy112
            clear hy112
            simp only [Option.some.injEq, Prod.mk.injEq] at H
            obtain ⟨rfl, rfl⟩ := H
            go_enter Try.func11, Try.ntmps11
            go_wp2_with (first | ((with_reducible refine gate_callee (f := 21) rfl ?_); refine goesL_ (some 27) rfl rfl Try.func21 (by kernel_rfl) rfl #[.int .i64 a0, .int .i64 a1, .slice A2 l2.length c2] rfl (by (try simp only [List.map_toArray, List.map_cons, List.map_nil]); first | done | rfl | (simp only [List.length_drop, List.length_take]; rfl)) ?_; (with_reducible refine (trust_sum.calls a0 a1 _ _ l2 t108 _ ?side1 ?side2 A8.out).mono ?_); (case side1 => repeat (first | exact HR2.out | (with_reducible refine Kd.C_alloc ?_ _) | (with_reducible refine Kd.C_drewN ?_ _) | (with_reducible refine Kd.C_drew ?_))); (case side2 => exact HC2.out); rintro e w10 ⟨rfl, hb⟩; refine ⟨_, rfl, ?_⟩; have n0_ := Aside0.mk (below_step (by repeat (first | (with_reducible first | exact HB.out | apply below_alloc | apply pw_below_drewN | apply below_drew1) | exact HB.out)) hb); clear HB; have HB := n0_; clear n0_; (try clear hb); (try clear hb2); (try clear hk); (try clear hi)) | ((with_reducible refine gate_dst (N := 30) rfl ?_); (try (refine gate_guard (by rfl) ?_; dsimp only)); refine Kd.R_lit (Kd.int .u8) _ 5 ?hg (N := 30) ?hd (xs := ([t108, (a1) % 256] : List Int)) (inner := [.int .u8 t108, .int .u8 ((a1) % 256)]) (ok := fun _ => True) (okp := fun _ => True) ?hr ?hp (fun _ hk => hk) trivial (Below.refl _ _) (Nat.le_refl _) (by simp) ?_; (case hd => rfl); (case hg => rfl); (case hr => first | (go_simp; done) | (go_simp; rfl)); (case hp => exact (Reps.one (show Kd.M (Kd.int .u8) _ _ _ t108 [.int .u8 t108] from rfl) (Reps.one (show Kd.M (Kd.int .u8) _ _ _ ((a1) % 256) [.int .u8 ((a1) % 256)] from rfl) (Reps.none _ _)))); intro v110 w11 ho12 hb hg_ hnew_; clear hg_ hnew_; (first | rw [← Ny109.out] at ho12 | (simp only [Int.reduceToNat] at ho12; rw [← Ny109.out] at ho12)); have n0_ := Aside0.mk (Kd.R_lower ho12 (below_size (by repeat (first | (with_reducible first | exact HB.out | apply below_alloc | apply pw_below_drewN | apply below_drew1) | exact HB.out)))); have n1_ := Aside0.mk (below_step (by repeat (first | (with_reducible first | exact HB.out | apply below_alloc | apply pw_below_drewN | apply below_drew1) | exact HB.out)) hb); clear HB; have HO111 := n0_; have HB := n1_; clear n0_ n1_; clear hb ho12) | ((with_reducible refine gate_builtin (b := .append) (xs := #[.tmp 30, .tmp 31]) rfl ?_); (try (refine gate_guard (by rfl) ?_; dsimp only)); at_builtin; refine Kd.R_append_rows (Kd.int .u8) (w0 := w) w.heap.size rfl (.tmp 30) (.tmp 31) 22 5 (.int .u8 0) 1 rfl Try.underlying22 info5 rfl (by decide) (by omega) v110 y109 l2 _ _ _ (fun _ => True) (fun _ => False) rfl rfl ?aO ?aR (fun _ _ h => h) (fun _ h => h.elim) ?aF ?aB ?aS ?aL ?_; (case aR => repeat (first | exact (Kd.C_below HR2.out HB.out) | (with_reducible refine Kd.C_alloc ?_ _) | (with_reducible refine Kd.C_drewN ?_ _) | (with_reducible refine Kd.C_drew ?_))); (case aB => exact (by repeat (first | (with_reducible first | exact HB.out | apply below_alloc | apply pw_below_drewN | apply below_drew1) | exact HB.out))); (case aF => exact (fun _ _ => trivial)); (case aO => exact (by (with_reducible repeat (first | apply Kd.R_alloc | apply Kd.R_drewN | apply Kd.R_drew)); exact HO111.out)); (case aS => exact (below_size (by repeat (first | (with_reducible first | exact HB.out | apply below_alloc | apply pw_below_drewN | apply below_drew1) | exact HB.out)))); (case aL => have := LMc9.out; omega); intro v113 w13 ho hb hg hat; rw [← Ny112.out] at ho; have n0_ := Aside0.mk (hb); have n1_ := Aside0.mk (ho); clear HB; clear HO111; have HB := n0_; have HO114 := n1_; clear n0_ n1_; clear ho hb hg hat))
            go_ret2
            exact ⟨_, by first | rfl | (simp [errW_none, errW_some] <;> rfl) | (simp [*, errW_none, errW_some] <;> rfl), by (with_reducible repeat (first | apply Kd.R_alloc | apply Kd.R_drewN | apply Kd.R_drew)); exact HO114.out, by repeat (first | (with_reducible first | exact HB.out | apply below_alloc | apply pw_below_drewN | apply below_drew1) | exact HB.out)⟩
          · rw [if_neg c9] at H
            exact absurd H (by simp)
  · rw [if_neg c4] at H
    have c4b0 : ((a0 / 65536) == 0) = false := beq_eq_false_iff_ne.mpr c4
    have c4b1 : ((a0 / 65536) != 0) = true := bne_iff_ne.mpr c4
    simp only [Option.some.injEq, Prod.mk.injEq] at H
    obtain ⟨rfl, rfl⟩ := H
    go_enter Try.func11, Try.ntmps11
    go_wp2
    go_ret2
    exact ⟨_, by first | rfl | (simp [errW_none, errW_some] <;> rfl) | (simp [*, errW_none, errW_some] <;> rfl), by first | exact Kd.R_nil _ _ _ _ _ | exact Kd.N_nil _ _ _ _ _ | exact Kd.V_nil _ _ _ _ _ | exact Kd.Q_nil _ _ _ _ _ | exact Kd.S_nil _ _ _ _ _, by repeat (first | (with_reducible first | exact HB.out | apply below_alloc | apply pw_below_drewN | apply below_drew1) | exact HB.out)⟩

/-! ### bytes_Clone: function 23 -/
def bytes_Clone.f (l0 : List Int) : Option (List Int) := if l0.length < 140737488355328 then some l0 else none
set_option maxHeartbeats 1600000 in
set_option maxRecDepth 100000 in
theorem bytes_Clone.calls (A0 : Option Addr) (c0 : Nat) (l0 : List Int) (r : List Int) (w : World) (hr0 : Kd.C (Kd.int .u8) w A0 l0.length l0) (hc0 : l0.length ≤ c0) (h : bytes_Clone.f l0 = some r) :
    Calls Try.prog 23 #[.slice A0 l0.length c0] w fun e w' => ∃ v0_ : Value, e = .returned v0_ ∧ Kd.R (Kd.int .u8) 5 w' w.heap.size (fun _ => True) v0_ r ∧ Below w.heap.size w w' := by
  unfold bytes_Clone.f at h
  by_cases hle : l0.length < 140737488355328
  case neg => rw [if_neg hle] at h; cases h
  rw [if_pos hle] at h
  obtain rfl := Option.some.inj h
  clear h
  have HR0 := Aside0.mk hr0
  have HC0 := Aside0.mk hc0
  clear hr0 hc0
  have HL := Aside0.mk hle
  clear hle
  have qE : ∀ (d : Nat) (w : World) (a : Option Addr) (n c : Nat), (Op.equalIn (d + 1) 22 (.slice a n c) (.slice none 0 0)).run Try.prog w = .ok a.isNone w := fun d w a n c => by
    cases a <;> simp [Op.equalIn, run_underlying Try.underlying22]
  have qT : ∀ (w : World) (a : Option Addr) (n c : Nat), (binOp .eql 22 (.slice a n c) (.slice none 0 0)).run Try.prog w = .ok (.bool a.isNone) w := fun w a n c => by
    simp only [binOp]
    simp [Op.equal, Op.maxDepth, qE 9999 w a n c]
  cases A0 with
  | none =>
    have hn : l0 = [] := by
      by_cases c : 0 < l0.length
      · obtain ⟨ad, e, _⟩ := Kd.at_int HR0.out 0 (by omega) (by omega)
        cases e
      · exact List.eq_nil_of_length_eq_zero (by omega)
    subst hn
    go_enter Try.func23, Try.ntmps23
    go_wp2
    go_ret
    exact ⟨_, rfl, Kd.R_nil _ _ _ _ _, Below.refl _ _⟩
  | some ad =>
    have HB := Aside0.mk (Below.refl w.heap.size w)
    go_enter Try.func23, Try.ntmps23
    go_wp2_with (first | ((with_reducible refine gate_dst (N := 5) rfl ?_); refine Kd.R_lit (Kd.int .u8) _ 5 ?hg (N := 5) ?hd (xs := ([] : List Int)) (inner := []) (ok := fun _ => True) (okp := fun _ => True) ?hr ?hp (fun _ hk => hk) trivial (Below.refl _ _) (Nat.le_refl _) (by simp) ?_; (case hd => rfl); (case hg => rfl); (case hr => first | (go_simp; done) | (go_simp; rfl)); (case hp => exact (Reps.none _ _)); intro v138 w2 ho3 hb hg_ hnew_; clear hg_ hnew_; have HO := Aside0.mk ho3; have HB2 := Aside0.mk hb; clear ho3 hb) | ((with_reducible refine gate_builtin (b := .append) (xs := #[.tmp 5, .tmp 6]) rfl ?_); (try (refine gate_guard (by rfl) ?_; dsimp only)); at_builtin; refine Kd.R_append_rows (Kd.int .u8) (w0 := w) w.heap.size rfl (.tmp 5) (.tmp 6) 22 5 (.int .u8 0) 1 rfl Try.underlying22 info5 rfl (by decide) (by omega) v138 [] l0 _ _ _ (fun _ => True) (fun _ => False) rfl rfl ?aO ?aR (fun _ _ h => h) (fun _ h => h.elim) ?aF ?aB ?aS ?aL ?_; (case aR => exact Kd.C_below HR0.out HB2.out); (case aB => exact HB2.out); (case aF => exact (fun _ _ => trivial)); (case aO => exact HO.out); (case aS => exact below_size HB2.out); (case aL => have := HL.out; simp; omega); intro v276 w24 ho hb hg hat; have HO2 := Aside0.mk ho; have HB3 := Aside0.mk hb; clear ho hb hg hat))
    go_ret
    exact ⟨_, rfl, HO2.out, HB3.out⟩

end Go.Proofs.Ytfjffajmagefkaa.Px

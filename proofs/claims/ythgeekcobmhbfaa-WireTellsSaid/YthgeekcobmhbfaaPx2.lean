-- Written by myprint.py, a program of this session's, over the kit's print.py; not a text of print.sh's own.
import Derived.Test.YthgeekcobmhbfaaHandFive
import Derived.Test.YthgeekcobmhbfaaHandBox
import Derived.Test.YthgeekcobmhbfaaPx0
import Derived.Test.YthgeekcobmhbfaaPx1
namespace Go.Proofs.Ythgeekcobmhbfaa.Px
open Go.RowKit Go.Proofs.YthgeekcobmhbfaaW.PrintWords Go.Proofs.YthgeekcobmhbfaaW.PrintLast Go.Proofs.YthgeekcobmhbfaaW.PrintMore
attribute [local go_sem] max2_int min2_int max_two min_two max_three min_three max_four min_four   -- for this text's walks alone
set_option linter.unusedVariables false
set_option linter.unusedSimpArgs false

/-! ### crc_Bits: function 29 -/
theorem crc_and15 (s : BitVec 15) : Go.bits .and .i64 ((s.toNat : Int) * 2) 32767 = (((s <<< 1 : BitVec 15).toNat : Nat) : Int) := by
 have h := H.and_i64 (s.toNat * 2) 32767 (by have := s.isLt; omega) (by decide)
 rw [show ((s.toNat : Int) * 2) = ((s.toNat * 2 : Nat) : Int) by omega]
 refine h.trans ?_
 rw [show s.toNat * 2 &&& 32767 = s.toNat * 2 % 32768 from Nat.and_two_pow_sub_one_eq_mod _ 15, BitVec.toNat_shiftLeft, Nat.shiftLeft_eq]
theorem crc_and8 (s : BitVec 8) : Go.bits .and .i64 ((s.toNat : Int) * 2) 255 = (((s <<< 1 : BitVec 8).toNat : Nat) : Int) := by
 have h := H.and_i64 (s.toNat * 2) 255 (by have := s.isLt; omega) (by decide)
 rw [show ((s.toNat : Int) * 2) = ((s.toNat * 2 : Nat) : Int) by omega]
 refine h.trans ?_
 rw [show s.toNat * 2 &&& 255 = s.toNat * 2 % 256 from Nat.and_two_pow_sub_one_eq_mod _ 8, BitVec.toNat_shiftLeft, Nat.shiftLeft_eq]
theorem crc_xor15 (s : BitVec 15) : Go.bits .xor .i64 (s.toNat : Int) 17817 = (((s ^^^ 0x4599#15 : BitVec 15).toNat : Nat) : Int) := by
 have h := H.xor_i64 s.toNat 17817 (by have := s.isLt; omega) (by decide)
 refine h.trans ?_
 rw [BitVec.toNat_xor]; rfl
theorem crc_xor8 (s : BitVec 8) : Go.bits .xor .i64 (s.toNat : Int) 29 = (((s ^^^ 0x1D#8 : BitVec 8).toNat : Nat) : Int) := by
 have h := H.xor_i64 s.toNat 29 (by have := s.isLt; omega) (by decide)
 refine h.trans ?_
 rw [BitVec.toNat_xor]; rfl
set_option maxHeartbeats 800000 in
set_option maxRecDepth 100000 in
theorem crc_take15 (g B0 : Nat) (s : BitVec 15) (b : Int) (w0 w : World) (hblk : w.heap[g]? = some (.cells #[.int .i64 s.toNat, .int .i64 15, .int .i64 17817] 69 (0, 0))) (hB : Below B0 w0 w) (hg : B0 ≤ g) :
  Calls Try.prog 47 #[.pointer (some ⟨g, 0, none⟩), .int .i64 b] w fun e w' => e = .returned (.tuple #[]) ∧ w'.heap[g]? = some (.cells #[.int .i64 (H.regB 0x4599#15 s b).toNat, .int .i64 15, .int .i64 17817] 69 (0, 0)) ∧ Below B0 w0 w' := by
 have c0 : w.cell? ⟨g, 0, none⟩ = some (.int .i64 s.toNat) := by rw [blk_cell hblk]; rfl
 have c1 : w.cell? ⟨g, 1, none⟩ = some (.int .i64 15) := by rw [blk_cell hblk]; rfl
 have c2 : w.cell? ⟨g, 2, none⟩ = some (.int .i64 17817) := by rw [blk_cell hblk]; rfl
 have f0 : w.frozen? ⟨g, 0, none⟩ = false := blk_frozen hblk 0
 have HBL := Aside0.mk hblk
 have HB0 := Aside0.mk hB
 have hs1 : (s.toNat : Int) ≤ 32767 := by have := s.isLt; omega
 have hs0 : 0 ≤ (s.toNat : Int) := by omega
 have HS := Aside0.mk (show H.regB 0x4599#15 s b = if Go.bits .xor .i64 ((s.toNat : Int) / 16384) b = 1 then s <<< 1 ^^^ 0x4599#15 else s <<< 1 from rfl)
 have HA := Aside0.mk (crc_and15 s)
 have HX1 := Aside0.mk (crc_xor15 (s <<< 1))
 clear hblk hB
 generalize hn : (s.toNat : Int) = n at *
 have HN := Aside0.mk hn
 clear hn
 by_cases hx : Go.bits .xor .i64 (n / 16384) b = 1
 ·have hxb : (Go.bits .xor .i64 (n / 16384) b == 1) = true := beq_iff_eq.mpr hx
  have HX := Aside0.mk hx
  clear hx
  go_enter Try.func47, Try.ntmps47
  go_wp2_with fail
  go_quiet (fail)
  go_wp2_with fail
  go_region
  go_wp2_with fail
  go_region
  go_wp2_with fail
  go_end0
  refine ⟨rfl, ?_, ?_⟩
  ·rw [HS.out, if_pos HX.out, ← HX1.out, ← HA.out]
   exact blk_set (blk_drewN (blk_set (blk_drewN HBL.out (nq + 1)) 0 _) 1) 0 _
  ·exact (pw_below_drewN ((pw_below_drewN HB0.out (nq + 1)).setCell (p := ⟨g, 0, none⟩) hg _) 1).setCell (p := ⟨g, 0, none⟩) hg _
 ·have hxb : (Go.bits .xor .i64 (n / 16384) b == 1) = false := beq_eq_false_iff_ne.mpr hx
  have HX := Aside0.mk hx
  clear hx
  go_enter Try.func47, Try.ntmps47
  go_wp2_with fail
  go_quiet (fail)
  go_wp2_with fail
  go_region
  go_wp2_with fail
  go_end0
  refine ⟨rfl, ?_, ?_⟩
  ·rw [HS.out, if_neg HX.out, ← HA.out]
   exact blk_set (blk_drewN HBL.out (nq + 1)) 0 _
  ·exact (pw_below_drewN HB0.out (nq + 1)).setCell (p := ⟨g, 0, none⟩) hg _
set_option maxHeartbeats 800000 in
set_option maxRecDepth 100000 in
theorem crc_take8 (g B0 : Nat) (s : BitVec 8) (b : Int) (w0 w : World) (hblk : w.heap[g]? = some (.cells #[.int .i64 s.toNat, .int .i64 8, .int .i64 29] 69 (0, 0))) (hB : Below B0 w0 w) (hg : B0 ≤ g) :
  Calls Try.prog 47 #[.pointer (some ⟨g, 0, none⟩), .int .i64 b] w fun e w' => e = .returned (.tuple #[]) ∧ w'.heap[g]? = some (.cells #[.int .i64 (H.regB 0x1D#8 s b).toNat, .int .i64 8, .int .i64 29] 69 (0, 0)) ∧ Below B0 w0 w' := by
 have c0 : w.cell? ⟨g, 0, none⟩ = some (.int .i64 s.toNat) := by rw [blk_cell hblk]; rfl
 have c1 : w.cell? ⟨g, 1, none⟩ = some (.int .i64 8) := by rw [blk_cell hblk]; rfl
 have c2 : w.cell? ⟨g, 2, none⟩ = some (.int .i64 29) := by rw [blk_cell hblk]; rfl
 have f0 : w.frozen? ⟨g, 0, none⟩ = false := blk_frozen hblk 0
 have HBL := Aside0.mk hblk
 have HB0 := Aside0.mk hB
 have hs1 : (s.toNat : Int) ≤ 255 := by have := s.isLt; omega
 have hs0 : 0 ≤ (s.toNat : Int) := by omega
 have HS := Aside0.mk (show H.regB 0x1D#8 s b = if Go.bits .xor .i64 ((s.toNat : Int) / 128) b = 1 then s <<< 1 ^^^ 0x1D#8 else s <<< 1 from rfl)
 have HA := Aside0.mk (crc_and8 s)
 have HX1 := Aside0.mk (crc_xor8 (s <<< 1))
 clear hblk hB
 generalize hn : (s.toNat : Int) = n at *
 have HN := Aside0.mk hn
 clear hn
 by_cases hx : Go.bits .xor .i64 (n / 128) b = 1
 ·have hxb : (Go.bits .xor .i64 (n / 128) b == 1) = true := beq_iff_eq.mpr hx
  have HX := Aside0.mk hx
  clear hx
  go_enter Try.func47, Try.ntmps47
  go_wp2_with fail
  go_quiet (fail)
  go_wp2_with fail
  go_region
  go_wp2_with fail
  go_region
  go_wp2_with fail
  go_end0
  refine ⟨rfl, ?_, ?_⟩
  ·rw [HS.out, if_pos HX.out, ← HX1.out, ← HA.out]
   exact blk_set (blk_drewN (blk_set (blk_drewN HBL.out (nq + 1)) 0 _) 1) 0 _
  ·exact (pw_below_drewN ((pw_below_drewN HB0.out (nq + 1)).setCell (p := ⟨g, 0, none⟩) hg _) 1).setCell (p := ⟨g, 0, none⟩) hg _
 ·have hxb : (Go.bits .xor .i64 (n / 128) b == 1) = false := beq_eq_false_iff_ne.mpr hx
  have HX := Aside0.mk hx
  clear hx
  go_enter Try.func47, Try.ntmps47
  go_wp2_with fail
  go_quiet (fail)
  go_wp2_with fail
  go_region
  go_wp2_with fail
  go_end0
  refine ⟨rfl, ?_, ?_⟩
  ·rw [HS.out, if_neg HX.out, ← HA.out]
   exact blk_set (blk_drewN HBL.out (nq + 1)) 0 _
  ·exact (pw_below_drewN HB0.out (nq + 1)).setCell (p := ⟨g, 0, none⟩) hg _
def crc_Bits.f (l0 : List Int) : Option Int := some ((H.crcB l0).toNat : Int)
set_option maxHeartbeats 800000 in
set_option maxRecDepth 100000 in
theorem crc_Bits.calls (A0 : Option Addr) (c0 : Nat) (l0 : List Int) (r : Int) (w : World) (hr0 : Kd.C (Kd.int .i64) w A0 l0.length l0) (hc0 : l0.length ≤ c0) (h : crc_Bits.f l0 = some r) :
  Calls Try.prog 29 #[.slice A0 l0.length c0] w fun e w' => e = .returned (.int .i64 r) ∧ Below w.heap.size w w' := by
 have hmf : ∀ (fn : Fn) (first cap : Array Value) (w : World), (Instr.makeFunc fn first cap).run Try.prog w = .ok (.func fn first cap) w := fun _ _ _ _ => rfl
 have HR0 := Aside0.mk hr0
 have HC0 := Aside0.mk hc0
 have hm := hr0.2.1
 clear hr0 hc0
 obtain rfl := Option.some.inj h
 clear h
 go_enter Try.func29, Try.ntmps29
 go_wp2
 go_loopw [13] (fun v wr => ∃ k : Nat, k ≤ l0.length ∧ v = .int .i64 k ∧ Aside0 (wr.heap[w.heap.size]? = some (.cells #[.int .i64 (H.crcB (l0.take k)).toNat, .int .i64 15, .int .i64 17817] 69 (0, 0))) ∧ Aside0 (Below w.heap.size w wr)) (fun v _ => l0.length - (intOf v).toNat)
 case atStart => exact ⟨0, Nat.zero_le _, rfl, ⟨blk_new _ _⟩, ⟨below_alloc (Below.refl _ _) _⟩⟩
 case round =>
  obtain ⟨k, hk, rfl, HB, HW⟩ := hrel
  by_cases hlt : k < l0.length
  ·have p1 : 0 ≤ (k : Int) := by omega
   have q1 : (k : Int) < (l0.length : Int) := by omega
   obtain ⟨ad, e1, hx⟩ := Kd.at_int HR0.out k p1 q1
   cases e1
   have hx2 : wr.cell? (ad.add k) = some (.int .i64 (rd l0 k)) := pw_cell_below HW.out hx
   clear hx
   go_wp2_with fail
   refine (crc_take15 w.heap.size w.heap.size (H.crcB (l0.take k)) (rd l0 k) w _ HB.out HW.out (Nat.le_refl _)).mono ?_
   rintro e w1 ⟨rfl, hb1, hw1⟩
   have HB1 := Aside0.mk hb1
   have HW1 := Aside0.mk hw1
   clear hb1 hw1
   go_wp2_with fail
   go_roundw
   case rel => exact ⟨k + 1, by omega, by go_num, ⟨by rw [H.take_snoc 0 l0 k hlt, H.crcB_snoc]; exact HB1.out⟩, HW1⟩
   case measure => simp [intOf]; omega
  ·obtain rfl : k = l0.length := by omega
   have c0 : wr.cell? ⟨w.heap.size, 0, none⟩ = some (.int .i64 (H.crcB l0).toNat) := by rw [blk_cell HB.out, List.take_length]; rfl
   go_wp2_with fail
   go_ret
   exact ⟨rfl, HW.out⟩

/-! ### stuff_runner: helper -/
set_option maxHeartbeats 800000 in
set_option maxRecDepth 100000 in
theorem stuff_run1 (p q B0 : Nat) (s : Int × Int) (b : Int) (w0 w : World) (hp : w.heap[p]? = some (.cells #[.int .i64 s.1] 3 (0, 0))) (hq : w.heap[q]? = some (.cells #[.int .i64 s.2] 3 (0, 0))) (hpq : p ≠ q) (hB : Below B0 w0 w) (hBp : B0 ≤ p) (hBq : B0 ≤ q) :
  Calls Try.prog 60 #[.int .i64 b, .pointer (some ⟨p, 0, none⟩), .pointer (some ⟨q, 0, none⟩)] w fun e w' => e = .returned (.int .i64 (H.runS s b).2) ∧
   w'.heap[p]? = some (.cells #[.int .i64 (H.runS s b).1] 3 (0, 0)) ∧ w'.heap[q]? = some (.cells #[.int .i64 (H.runS s b).2] 3 (0, 0)) ∧ Below B0 w0 w' ∧ Kept w w' (fun k => k = p ∨ k = q) ∧ (∀ J : World → Prop, (∀ A B row, J A → A.grownBy B row → (∀ r, row = some r → r = p ∨ r = q) → J B) → J w → J w') := by
 obtain ⟨last, n⟩ := s
 have c0 : w.cell? ⟨p, 0, none⟩ = some (.int .i64 last) := by rw [blk_cell hp]; rfl
 have c1 : w.cell? ⟨q, 0, none⟩ = some (.int .i64 n) := by rw [blk_cell hq]; rfl
 have f0 : w.frozen? ⟨p, 0, none⟩ = false := blk_frozen hp 0
 have f1 : w.frozen? ⟨q, 0, none⟩ = false := blk_frozen hq 0
 have HP := Aside0.mk hp
 have HQ := Aside0.mk hq
 have HBB := Aside0.mk hB
 clear hp hq hB
 have kS : ∀ (W : World) (u : Value), Kept w W (fun k => k = p ∨ k = q) → Kept w (W.setCell ⟨q, 0, none⟩ u) (fun k => k = p ∨ k = q) := fun W u h => h.setCell (.inl (.inr rfl)) u
 by_cases hx : b = last
 ·have hxb : (b != last) = false := by rw [bne_eq_false_iff_eq]; exact hx
  have HR := Aside0.mk (show H.runS (last, n) last = (last, wrap64 (n + 1)) by unfold H.runS; rw [if_pos rfl])
  subst hx
  go_enter Try.func60, Try.ntmps60
  go_wp2_with fail
  go_ret
  rw [HR.out]
  exact ⟨rfl, blk_far HP.out hpq _, blk_set HQ.out 0 _, HBB.out.setCell (p := ⟨q, 0, none⟩) hBq _, kS _ _ (Kept.refl _ _), fun J hJ h0 => hJ _ _ _ h0 (grownBy_setCell' _ q _) (fun r e => by cases e; exact .inr rfl)⟩
 ·have hxb : (b != last) = true := by rw [bne_iff_ne]; exact hx
  have HR := Aside0.mk (show H.runS (last, n) b = (b, 1) by unfold H.runS; rw [if_neg hx])
  have hq1 := blk_far HQ.out (p := ⟨p, 0, none⟩) (Ne.symm hpq) (.int .i64 b)
  have hq2 := blk_set hq1 0 (.int .i64 0)
  have hq3 := blk_set hq2 0 (.int .i64 1)
  have hp1 := blk_set HP.out 0 (.int .i64 b)
  have hp2 := blk_far hp1 (p := ⟨q, 0, none⟩) hpq (.int .i64 0)
  have hp3 := blk_far hp2 (p := ⟨q, 0, none⟩) hpq (.int .i64 1)
  have c3 : (((w.setCell ⟨p, 0, none⟩ (.int .i64 b)).setCell ⟨q, 0, none⟩ (.int .i64 0)).setCell ⟨q, 0, none⟩ (.int .i64 1)).cell? ⟨q, 0, none⟩ = some (.int .i64 1) := by rw [blk_cell hq3]; rfl
  have HP3 := Aside0.mk hp3
  have HQ3 := Aside0.mk hq3
  clear hq1 hq2 hq3 hp1 hp2 hp3
  go_enter Try.func60, Try.ntmps60
  go_wp2_with fail
  go_ret
  rw [HR.out]
  refine ⟨rfl, HP3.out, HQ3.out, ((HBB.out.setCell (p := ⟨p, 0, none⟩) hBp _).setCell (p := ⟨q, 0, none⟩) hBq _).setCell (p := ⟨q, 0, none⟩) hBq _, kS _ _ (kS _ _ ((Kept.refl _ _).setCell (.inl (.inl rfl)) _)), fun J hJ h0 => hJ _ _ _ (hJ _ _ _ (hJ _ _ _ h0 (grownBy_setCell' _ p _) (fun r e => by cases e; exact .inl rfl)) (grownBy_setCell' _ q _) (fun r e => by cases e; exact .inr rfl)) (grownBy_setCell' _ q _) (fun r e => by cases e; exact .inr rfl)⟩
theorem stuff_runner_calls (w : World) : Calls Try.prog 48 #[] w fun e w' => e = .returned (.func (.func 60) #[] #[.pointer (some ⟨w.heap.size, 0, none⟩), .pointer (some ⟨w.heap.size + 1, 0, none⟩)]) ∧
   w'.heap[w.heap.size]? = some (.cells #[.int .i64 (-1)] 3 (0, 0)) ∧ w'.heap[w.heap.size + 1]? = some (.cells #[.int .i64 0] 3 (0, 0)) ∧ Below w.heap.size w w' ∧ w'.heap.size = w.heap.size + 2 ∧ (∀ J : World → Prop, (∀ A B, J A → A.grownBy B none → J B) → J w → J w') := by
 have hmf : ∀ (fn : Fn) (first cap : Array Value) (w : World), (Instr.makeFunc fn first cap).run Try.prog w = .ok (.func fn first cap) w := fun _ _ _ _ => rfl
 go_enter Try.func48, Try.ntmps48
 go_wp2
 go_ret
 refine ⟨rfl, ?_, ?_, ?_, ?_, fun J hJ h0 => hJ _ _ (hJ _ _ h0 (World.grownBy_alloc _ _ none)) (World.grownBy_alloc _ _ none)⟩
 ·exact blk_alloc (blk_new _ _) _
 ·have := blk_new (w.alloc (.cells #[.int .i64 (-1)] 3)) (.cells #[.int .i64 0] 3)
  simpa using this
 ·exact below_alloc (below_alloc (Below.refl _ _) _) _
 ·simp

/-! ### stuff_Stuff: function 30 -/
def stuff_Stuff.f (l0 : List Int) : Option (List Int) := if l0.length ≤ 1099511627776 then some (H.stuffB l0) else none
set_option maxHeartbeats 1600000 in
set_option maxRecDepth 100000 in
theorem stuff_Stuff.calls (A0 : Option Addr) (c0 : Nat) (l0 : List Int) (r : List Int) (w : World) (hr0 : Kd.C (Kd.int .i64) w A0 l0.length l0) (hc0 : l0.length ≤ c0) (h : stuff_Stuff.f l0 = some r) :
  Calls Try.prog 30 #[.slice A0 l0.length c0] w fun e w' => ∃ v0_ : Value, e = .returned v0_ ∧ Kd.R (Kd.int .i64) 3 w' w.heap.size (fun _ => True) v0_ r ∧ Below w.heap.size w w' := by
 unfold stuff_Stuff.f at h
 by_cases hle : l0.length ≤ 1099511627776
 case neg => rw [if_neg hle] at h; cases h
 rw [if_pos hle] at h
 obtain rfl := Option.some.inj h
 clear h
 have HR0 := Aside0.mk hr0
 have HC0 := Aside0.mk hc0
 clear hr0 hc0
 go_enter Try.func30, Try.ntmps30
 go_wp2_with fail
 refine (stuff_runner_calls w).mono ?_
 rintro e w1 ⟨rfl, hp1, hq1, hb1, hs1, hj1⟩
 have HP := Aside0.mk hp1
 have HQ := Aside0.mk hq1
 have HB := Aside0.mk hb1
 clear hp1 hq1 hb1 hs1 hj1
 go_wp2_with fail
 go_loopw [3, 10] (fun u v wr => ∃ k : Nat, k ≤ l0.length ∧ v = .int .i64 k ∧ Aside0 (Kd.R (Kd.int .i64) 3 wr w.heap.size (fun k => k ≠ w.heap.size ∧ k ≠ w.heap.size + 1) u (H.stuffS (l0.take k)).1) ∧
   Aside0 (wr.heap[w.heap.size]? = some (.cells #[.int .i64 (H.stuffS (l0.take k)).2.1] 3 (0, 0))) ∧ Aside0 (wr.heap[w.heap.size + 1]? = some (.cells #[.int .i64 (H.stuffS (l0.take k)).2.2] 3 (0, 0))) ∧ Aside0 (Below w.heap.size w wr)) (fun _ v _ => l0.length - (intOf v).toNat)
 case atStart => exact ⟨0, Nat.zero_le _, rfl, ⟨Kd.R_nil _ _ _ _ _⟩, HP, HQ, HB⟩
 case round =>
  clear HP HQ HB
  obtain ⟨k, hk, rfl, HO, HP, HQ, HB⟩ := hrel
  by_cases hlt : k < l0.length
  ·have p1 : 0 ≤ (k : Int) := by omega
   have q1 : (k : Int) < (l0.length : Int) := by omega
   obtain ⟨ad, e1, hx⟩ := Kd.at_int HR0.out k p1 q1
   cases e1
   have hx2 : wr.cell? (ad.add k) = some (.int .i64 (rd l0 k)) := pw_cell_below HB.out hx
   clear hx
   have hlen := H.stuffS_len (l0.take k)
   have hsn : H.stuffS (l0.take (k + 1)) = H.stuffStep (H.stuffS (l0.take k)) (rd l0 k) := by rw [H.take_snoc 0 l0 k hlt, H.stuffS_snoc]; rfl
   rw [List.length_take] at hlen
   have hsz := blk_lt HQ.out
   generalize hS : H.stuffS (l0.take k) = S at HO HP HQ hlen hsn
   obtain ⟨out, s⟩ := S
   clear hS
   have HSN := Aside0.mk hsn
   clear hsn
   replace hlen : out.length ≤ 2 * min k l0.length := hlen
   have hl8 : (out.length + 1) * 8 ≤ 140737488355328 := by omega
   go_wp2_with (first | ((with_reducible refine gate_builtin (b := .append) (xs := #[.tmp 14, .tmp 16]) rfl ?_); at_builtin; refine Kd.R_append (Kd.int .i64) (w0 := w) w.heap.size rfl (.tmp 14) (.tmp 16) 25 3 (.int .i64 0) 8 rfl Try.underlying25 info3 rfl (by decide) (by omega) u3 out (rd l0 k) [.int .i64 (rd l0 k)] (fun k => k ≠ w.heap.size ∧ k ≠ w.heap.size + 1) (fun _ => False) rfl rfl rfl (fun _ hk => hk.elim) (fun j hj => ⟨by omega, by omega⟩) HO.out HB.out (by omega) hl8 ?_; intro v1 w2 ho2 hb2 hg2 hat2))
   have hp2 := blk_grown HP.out hg2 (fun he => (HO.out.1 _ he.symm).1 rfl)
   have hq2 := blk_grown HQ.out hg2 (fun he => (HO.out.1 _ he.symm).2 rfl)
   refine (stuff_run1 w.heap.size (w.heap.size + 1) w.heap.size s (rd l0 k) w _ hp2 hq2 (by omega) hb2 (by omega) (by omega)).mono ?_
   clear hp2 hq2 hat2 hg2 hb2
   rintro e w3 ⟨rfl, hp3, hq3, hb3, hk3, hj3⟩
   have ho3 := Kd.R_kept ho2 hk3 (fun j hj hs => hs.elim hj.1 hj.2)
   clear hj3 hk3 ho2 HP HQ HO HB
   have hsz3 := blk_lt hq3
   generalize hs1 : H.runS s (rd l0 k) = s1 at *
   have HS1 := Aside0.mk hs1
   have HP3 := Aside0.mk hp3
   have HQ3 := Aside0.mk hq3
   have HO3 := Aside0.mk ho3
   have HB3 := Aside0.mk hb3
   clear hp3 hq3 ho3 hb3 hs1
   by_cases c : s1.2 = 5
   ·have cb : (s1.2 == 5) = true := beq_iff_eq.mpr c
    have hl8 : ((out ++ [rd l0 k]).length + 1) * 8 ≤ 140737488355328 := by rw [List.length_append, List.length_singleton]; omega
    go_wp2_with (first | ((with_reducible refine gate_builtin (b := .append) (xs := #[.tmp 22, .tmp 25]) rfl ?_); at_builtin; refine Kd.R_append (Kd.int .i64) (w0 := w) w.heap.size rfl (.tmp 22) (.tmp 25) 25 3 (.int .i64 0) 8 rfl Try.underlying25 info3 rfl (by decide) (by omega) v1 (out ++ [rd l0 k]) (wrap64 (1 - rd l0 k)) [.int .i64 (wrap64 (1 - rd l0 k))] (fun k => k ≠ w.heap.size ∧ k ≠ w.heap.size + 1) (fun _ => False) rfl rfl rfl (fun _ hk => hk.elim) (fun j hj => ⟨by omega, by omega⟩) HO3.out HB3.out (by omega) hl8 ?_; intro v4 w4 ho4 hb4 hg4 hat4))
    have hp4 := blk_grown HP3.out hg4 (fun he => (HO3.out.1 _ he.symm).1 rfl)
    have hq4 := blk_grown HQ3.out hg4 (fun he => (HO3.out.1 _ he.symm).2 rfl)
    refine (stuff_run1 w.heap.size (w.heap.size + 1) w.heap.size s1 (wrap64 (1 - rd l0 k)) w _ hp4 hq4 (by omega) hb4 (by omega) (by omega)).mono ?_
    clear hp4 hq4 hat4 hg4 hb4
    rintro e w5 ⟨rfl, hp5, hq5, hb5, hk5, hj5⟩
    have ho5 := Kd.R_kept ho4 hk5 (fun j hj hs => hs.elim hj.1 hj.2)
    have hst : H.stuffStep (out, s) (rd l0 k) = (out ++ [rd l0 k] ++ [wrap64 (1 - rd l0 k)], H.runS s1 (wrap64 (1 - rd l0 k))) := by unfold H.stuffStep; rw [HS1.out, if_pos c]
    rw [hst] at HSN
    have HP5 := Aside0.mk hp5
    have HQ5 := Aside0.mk hq5
    have HO5 := Aside0.mk ho5
    have HB5 := Aside0.mk hb5
    clear hj5 hp5 hq5 ho5 hb5 hk5 ho4 hst
    go_wp2_with fail
    go_roundw
    case rel => exact ⟨k + 1, by omega, by go_num, ⟨by rw [HSN.out]; exact HO5.out⟩, ⟨by rw [HSN.out]; exact HP5.out⟩, ⟨by rw [HSN.out]; exact HQ5.out⟩, HB5⟩
    case measure => simp [intOf]; omega
   ·have cb : (s1.2 == 5) = false := beq_eq_false_iff_ne.mpr c
    have hst : H.stuffStep (out, s) (rd l0 k) = (out ++ [rd l0 k], s1) := by unfold H.stuffStep; rw [HS1.out, if_neg c]
    rw [hst] at HSN
    clear hst
    go_wp2_with fail
    go_roundw
    case rel => exact ⟨k + 1, by omega, by go_num, ⟨by rw [HSN.out]; exact HO3.out⟩, ⟨by rw [HSN.out]; exact HP3.out⟩, ⟨by rw [HSN.out]; exact HQ3.out⟩, HB3⟩
    case measure => simp [intOf]; omega
  ·obtain rfl : k = l0.length := by omega
   rw [List.take_length] at HO
   go_wp2_with fail
   go_ret
   exact ⟨_, rfl, Kd.R_mono HO.out (fun _ _ => trivial), HB.out⟩

/-! ### wire_Bits: function 14 -/
def wire_Bits.f (a0_0 : Bool) (a0_1 : Int) (a0_2 : Bool) (a0_3 : Int) (l0_4 : List Int) : Option (List Int) := (frame_Head.f a0_0 a0_1 a0_2 a0_3 l0_4).bind fun t104 => ((crc_Bits.f t104).bind fun t107 => ((bits_Put.f t107 15).bind fun bt108 => ((bits_Put.f 1023 10).bind fun bt112 => (if t104.length + bt108.1.length < 17592186044416 then ((stuff_Stuff.f (t104 ++ bt108.1)).bind fun t119 => (if t119.length + bt112.1.length < 17592186044416 then (some (t119 ++ bt112.1)) else (none))) else (none)))))
set_option maxHeartbeats 8000000 in
set_option maxRecDepth 100000 in
theorem wire_Bits.calls (a0_0 : Bool) (a0_1 : Int) (a0_2 : Bool) (a0_3 : Int) (A0_4 : Option Addr) (c0_4 : Nat) (l0_4 : List Int) (r : List Int) (w : World) (hr0_4 : Kd.C (Kd.int .u8) w A0_4 l0_4.length l0_4) (hc0_4 : l0_4.length ≤ c0_4) (h : wire_Bits.f a0_0 a0_1 a0_2 a0_3 l0_4 = some r) :
  Calls Try.prog 14 #[.agg #[.bool a0_0, .int .i64 a0_1, .bool a0_2, .int .i64 a0_3, .slice A0_4 l0_4.length c0_4]] w fun e w' => ∃ v0_ : Value, e = .returned (v0_) ∧ Kd.R (Kd.int .i64) 3 w' w.heap.size (fun _ => True) v0_ r ∧ Below w.heap.size w w' := by
 have hu24 := Try.underlying24
 have HR0_4 := Aside0.mk hr0_4
 have HC0_4 := Aside0.mk hc0_4
 clear hr0_4 hc0_4
 have HB := Aside0.mk (Below.refl w.heap.size w)
 have H : ((frame_Head.f a0_0 a0_1 a0_2 a0_3 l0_4).bind fun t104 => ((crc_Bits.f t104).bind fun t107 => ((bits_Put.f t107 15).bind fun bt108 => ((bits_Put.f 1023 10).bind fun bt112 => (if t104.length + bt108.1.length < 17592186044416 then ((stuff_Stuff.f (t104 ++ bt108.1)).bind fun t119 => (if t119.length + bt112.1.length < 17592186044416 then (some (t119 ++ bt112.1)) else (none))) else (none)))))) = some r := h
 clear h
 replace H := Option.bind_eq_some_iff.mp H
 obtain ⟨t104, A20, H⟩ := H
 replace H : ((crc_Bits.f t104).bind fun t107 => ((bits_Put.f t107 15).bind fun bt108 => ((bits_Put.f 1023 10).bind fun bt112 => (if t104.length + bt108.1.length < 17592186044416 then ((stuff_Stuff.f (t104 ++ bt108.1)).bind fun t119 => (if t119.length + bt112.1.length < 17592186044416 then (some (t119 ++ bt112.1)) else (none))) else (none))))) = some r := H
 have A2 := Aside0.mk A20
 clear A20
 replace H := Option.bind_eq_some_iff.mp H
 obtain ⟨t107, A30, H⟩ := H
 replace H : ((bits_Put.f t107 15).bind fun bt108 => ((bits_Put.f 1023 10).bind fun bt112 => (if t104.length + bt108.1.length < 17592186044416 then ((stuff_Stuff.f (t104 ++ bt108.1)).bind fun t119 => (if t119.length + bt112.1.length < 17592186044416 then (some (t119 ++ bt112.1)) else (none))) else (none)))) = some r := H
 have A3 := Aside0.mk A30
 clear A30
 replace H := Option.bind_eq_some_iff.mp H
 obtain ⟨⟨t108, t109⟩, A40, H⟩ := H
 replace H : ((bits_Put.f 1023 10).bind fun bt112 => (if t104.length + t108.length < 17592186044416 then ((stuff_Stuff.f (t104 ++ t108)).bind fun t119 => (if t119.length + bt112.1.length < 17592186044416 then (some (t119 ++ bt112.1)) else (none))) else (none))) = some r := H
 have A4 := Aside0.mk A40
 clear A40
 replace H := Option.bind_eq_some_iff.mp H
 obtain ⟨⟨t112, t113⟩, A50, H⟩ := H
 replace H : (if t104.length + t108.length < 17592186044416 then ((stuff_Stuff.f (t104 ++ t108)).bind fun t119 => (if t119.length + t112.length < 17592186044416 then (some (t119 ++ t112)) else (none))) else (none)) = some r := H
 have A5 := Aside0.mk A50
 clear A50
 by_cases c6 : t104.length + t108.length < 17592186044416
 ·rw [if_pos c6] at H
  have LMc6 := Aside0.mk c6
  clear c6
  obtain ⟨y116, hy116⟩ : ∃ y_ : List Int, y_ = (t104 ++ t108) := ⟨_, rfl⟩
  replace H : ((stuff_Stuff.f y116).bind fun t119 => (if t119.length + t112.length < 17592186044416 then (some (t119 ++ t112)) else (none))) = some r := by first | (rw [hy116]; with_reducible exact H) | (have H2_ := (Option.bind_some _ _).symm.trans H; rw [hy116]; with_reducible exact H2_) | (have H2_ := (Option.bind_some _ _).symm.trans H; with_reducible exact H2_) | with_reducible exact H | (rw [hy116]; exact H) | exact H
  have Ny116 := Aside0.mk hy116
  clear hy116
  replace H := Option.bind_eq_some_iff.mp H
  obtain ⟨t119, A70, H⟩ := H
  replace H : (if t119.length + t112.length < 17592186044416 then (some (t119 ++ t112)) else (none)) = some r := H
  have A7 := Aside0.mk A70
  clear A70
  by_cases c8 : t119.length + t112.length < 17592186044416
  ·rw [if_pos c8] at H
   have LMc8 := Aside0.mk c8
   clear c8
   obtain ⟨y122, hy122⟩ : ∃ y_ : List Int, y_ = (t119 ++ t112) := ⟨_, rfl⟩
   replace H : (some y122) = some r := by first | (rw [hy122]; with_reducible exact H) | (have H2_ := (Option.bind_some _ _).symm.trans H; rw [hy122]; with_reducible exact H2_) | (have H2_ := (Option.bind_some _ _).symm.trans H; with_reducible exact H2_) | with_reducible exact H | (rw [hy122]; exact H) | exact H
   have Ny122 := Aside0.mk hy122
   clear hy122
   obtain rfl := Option.some.inj H
   go_enter Try.func14, Try.ntmps14
   go_wp2_with (first | ((with_reducible refine gate_store (t := 24) (p := 1) rfl ?_); refine HW.store_box5 rfl rfl 24 _ _ rfl rfl rfl BK103.out rfl (by kernel_rfl) rfl rfl rfl rfl rfl ?_; intro w1_ hw1_ hk1_; subst hw1_; have hcb103_0 := (blk_cell hk1_ 0).trans rfl; have hfb103_0 := blk_frozen hk1_ 0; have hcb103_1 := (blk_cell hk1_ 1).trans rfl; have hfb103_1 := blk_frozen hk1_ 1; have hcb103_2 := (blk_cell hk1_ 2).trans rfl; have hfb103_2 := blk_frozen hk1_ 2; have hcb103_3 := (blk_cell hk1_ 3).trans rfl; have hfb103_3 := blk_frozen hk1_ 3; have hcb103_4 := (blk_cell hk1_ 4).trans rfl; have hfb103_4 := blk_frozen hk1_ 4; clear hk1_) | ((with_reducible refine gate_dst (N := 1) rfl ?_); refine box_event ?hg (N := 1) ?hd (cs := #[.bool a0_0, .int .i64 a0_1, .bool a0_2, .int .i64 a0_3, .slice A0_4 l0_4.length c0_4]) (t := 24) ?hr ?_; (case hd => rfl); (case hg => rfl); (case hr => first | (go_simp; done) | (go_simp; rfl)); intro gb103 hg w9 hbox hb; have n0_ := Aside0.mk (below_step (by repeat (first | (with_reducible first | exact HB.out | apply below_alloc | apply pw_below_drewN | apply below_drew1) | exact HB.out)) hb); have n1_ := Aside0.mk (hbox); have n2_ := Aside0.mk ((by rw [hg]; exact (below_size (by repeat (first | (with_reducible first | exact HB.out | apply below_alloc | apply pw_below_drewN | apply below_drew1) | exact HB.out))) : w.heap.size ≤ gb103)); have n3_ := Aside0.mk ((by rw [hg]; exact (below_size (by repeat (first | (with_reducible first | exact HB.out | apply below_alloc | apply pw_below_drewN | apply below_drew1) | exact HB.out))) : w.heap.size ≤ gb103)); clear HB; have HB := n0_; have BK103 := n1_; have GW103 := n2_; have GE103 := n3_; clear n0_ n1_ n2_ n3_; clear hb hbox hg; have hcz10_0 : w9.cell? ⟨gb103, 0, none⟩ = some (.bool a0_0) := (blk_cell BK103.out 0).trans rfl; have hcz10_1 : w9.cell? ⟨gb103, 1, none⟩ = some (.int .i64 a0_1) := (blk_cell BK103.out 1).trans rfl; have hcz10_2 : w9.cell? ⟨gb103, 2, none⟩ = some (.bool a0_2) := (blk_cell BK103.out 2).trans rfl; have hcz10_3 : w9.cell? ⟨gb103, 3, none⟩ = some (.int .i64 a0_3) := (blk_cell BK103.out 3).trans rfl; have hcz10_4 : w9.cell? ⟨gb103, 4, none⟩ = some (.slice A0_4 l0_4.length c0_4) := (blk_cell BK103.out 4).trans rfl; have hfz10_0 := blk_frozen BK103.out 0; have hfz10_1 := blk_frozen BK103.out 1; have hfz10_2 := blk_frozen BK103.out 2; have hfz10_3 := blk_frozen BK103.out 3; have hfz10_4 := blk_frozen BK103.out 4) | ((with_reducible refine gate_callee (f := 27) rfl ?_); refine goesL_ (some 9) rfl rfl Try.func27 (by kernel_rfl) rfl #[.agg #[.bool a0_0, .int .i64 a0_1, .bool a0_2, .int .i64 a0_3, .slice A0_4 l0_4.length c0_4]] rfl (by (try simp only [List.map_toArray, List.map_cons, List.map_nil]); first | done | rfl | (simp only [List.length_drop, List.length_take]; rfl)) ?_; (with_reducible refine (frame_Head.calls a0_0 a0_1 a0_2 a0_3 _ _ l0_4 t104 _ ?side1 ?side2 A2.out).mono ?_); (case side1 => repeat (first | exact (Kd.C_below HR0_4.out HB.out) | (with_reducible refine Kd.C_alloc ?_ _) | (with_reducible refine Kd.C_drewN ?_ _) | (with_reducible refine Kd.C_drew ?_))); (case side2 => exact HC0_4.out); rintro e w11 ⟨v105, rfl, ho0, hb⟩; refine ⟨_, rfl, ?_⟩; have n0_ := Aside0.mk (Kd.R_lower ho0 (below_size (by repeat (first | (with_reducible first | exact HB.out | apply below_alloc | apply pw_below_drewN | apply below_drew1 | refine below_set ?_ GE103.out) | exact HB.out)))); have n1_ := Aside0.mk (blk_below (g := gb103) (o := .cells #[.bool a0_0, .int .i64 a0_1, .bool a0_2, .int .i64 a0_3, .slice A0_4 l0_4.length c0_4] 24 (0, 0)) (by (with_reducible repeat (first | refine blk_drewN ?_ _ | refine blk_drew ?_ | refine blk_alloc ?_ _)); exact BK103.out) hb); have n2_ := Aside0.mk (below_step (by repeat (first | (with_reducible first | exact HB.out | apply below_alloc | apply pw_below_drewN | apply below_drew1 | refine below_set ?_ GE103.out) | exact HB.out)) hb); clear BK103; clear HB; have HO106 := n0_; have BK103 := n1_; have HB := n2_; clear n0_ n1_ n2_; (try clear hb); (try clear hb2); (try clear hk); (try clear hi); (try clear ho0); obtain ⟨Ao12, co12, eo12⟩ := Kd.R_slice HO106.out; subst eo12) | ((with_reducible refine gate_callee (f := 29) rfl ?_); refine goesL_ (some 12) rfl rfl Try.func29 (by kernel_rfl) rfl #[.slice Ao12 t104.length co12] rfl (by (try simp only [List.map_toArray, List.map_cons, List.map_nil]); first | done | rfl | (simp only [List.length_drop, List.length_take]; rfl)) ?_; (with_reducible refine (crc_Bits.calls _ _ t104 t107 _ ?side1 ?side2 A3.out).mono ?_); (case side1 => repeat (first | exact (Kd.R_reads' HO106.out).2.2 | (with_reducible refine Kd.C_alloc ?_ _) | (with_reducible refine Kd.C_drewN ?_ _) | (with_reducible refine Kd.C_drew ?_))); (case side2 => exact (Kd.R_reads' HO106.out).2.1); rintro e w13 ⟨rfl, hb⟩; refine ⟨_, rfl, ?_⟩; have n0_ := Aside0.mk (Kd.R_below (by (with_reducible repeat (first | apply Kd.R_alloc | apply Kd.R_drewN | apply Kd.R_drew)); exact HO106.out) hb); have n1_ := Aside0.mk (blk_below (g := gb103) (o := .cells #[.bool a0_0, .int .i64 a0_1, .bool a0_2, .int .i64 a0_3, .slice A0_4 l0_4.length c0_4] 24 (0, 0)) (by (with_reducible repeat (first | refine blk_drewN ?_ _ | refine blk_drew ?_ | refine blk_alloc ?_ _)); exact BK103.out) hb); have n2_ := Aside0.mk (below_step (by repeat (first | (with_reducible first | exact HB.out | apply below_alloc | apply pw_below_drewN | apply below_drew1 | refine below_set ?_ GE103.out) | exact HB.out)) hb); clear HO106; clear BK103; clear HB; have HO106 := n0_; have BK103 := n1_; have HB := n2_; clear n0_ n1_ n2_; (try clear hb); (try clear hb2); (try clear hk); (try clear hi)) | ((with_reducible refine gate_callee (f := 28) rfl ?_); refine goesL_ (some 13) rfl rfl Try.func28 (by kernel_rfl) rfl #[.int .i64 t107, .int .i64 15] rfl (by (try simp only [List.map_toArray, List.map_cons, List.map_nil]); first | done | rfl | (simp only [List.length_drop, List.length_take]; rfl)) ?_; (with_reducible refine (bits_Put.calls t107 15 t108 t109 _ A4.out).mono ?_); rintro e w14 ⟨v110, rfl, ho0, hb⟩; refine ⟨_, rfl, ?_⟩; have n0_ := Aside0.mk (Kd.R_elder' (by (with_reducible repeat (first | apply Kd.R_alloc | apply Kd.R_drewN | apply Kd.R_drew)); exact HO106.out) (Kd.R_base ho0) hb); have n1_ := Aside0.mk (Kd.R_lower (Kd.R_new' ho0 (Kd.R_lt (by (with_reducible repeat (first | apply Kd.R_alloc | apply Kd.R_drewN | apply Kd.R_drew)); exact HO106.out))) (below_size (by repeat (first | (with_reducible first | exact HB.out | apply below_alloc | apply pw_below_drewN | apply below_drew1 | refine below_set ?_ GE103.out) | exact HB.out)))); have n2_ := Aside0.mk (blk_below (g := gb103) (o := .cells #[.bool a0_0, .int .i64 a0_1, .bool a0_2, .int .i64 a0_3, .slice A0_4 l0_4.length c0_4] 24 (0, 0)) (by (with_reducible repeat (first | refine blk_drewN ?_ _ | refine blk_drew ?_ | refine blk_alloc ?_ _)); exact BK103.out) hb); have n3_ := Aside0.mk (below_step (by repeat (first | (with_reducible first | exact HB.out | apply below_alloc | apply pw_below_drewN | apply below_drew1 | refine below_set ?_ GE103.out) | exact HB.out)) hb); clear HO106; clear BK103; clear HB; have HO106 := n0_; have HO111 := n1_; have BK103 := n2_; have HB := n3_; clear n0_ n1_ n2_ n3_; (try clear hb); (try clear hb2); (try clear hk); (try clear hi); (try clear ho0)) | ((with_reducible refine gate_callee (f := 28) rfl ?_); refine goesL_ (some 17) rfl rfl Try.func28 (by kernel_rfl) rfl #[.int .i64 1023, .int .i64 10] rfl (by (try simp only [List.map_toArray, List.map_cons, List.map_nil]); first | done | rfl | (simp only [List.length_drop, List.length_take]; rfl)) ?_; (with_reducible refine (bits_Put.calls 1023 10 t112 t113 _ A5.out).mono ?_); rintro e w15 ⟨v114, rfl, ho0, hb⟩; refine ⟨_, rfl, ?_⟩; have n0_ := Aside0.mk (Kd.R_elder' (by (with_reducible repeat (first | apply Kd.R_alloc | apply Kd.R_drewN | apply Kd.R_drew)); exact HO106.out) (Kd.R_base ho0) hb); have n1_ := Aside0.mk (Kd.R_elder' (by (with_reducible repeat (first | apply Kd.R_alloc | apply Kd.R_drewN | apply Kd.R_drew)); exact HO111.out) (Kd.R_base ho0) hb); have n2_ := Aside0.mk (Kd.R_lower (Kd.R_new' (Kd.R_new' ho0 (Kd.R_lt (by (with_reducible repeat (first | apply Kd.R_alloc | apply Kd.R_drewN | apply Kd.R_drew)); exact HO106.out))) (Kd.R_lt (by (with_reducible repeat (first | apply Kd.R_alloc | apply Kd.R_drewN | apply Kd.R_drew)); exact HO111.out))) (below_size (by repeat (first | (with_reducible first | exact HB.out | apply below_alloc | apply pw_below_drewN | apply below_drew1 | refine below_set ?_ GE103.out) | exact HB.out)))); have n3_ := Aside0.mk (blk_below (g := gb103) (o := .cells #[.bool a0_0, .int .i64 a0_1, .bool a0_2, .int .i64 a0_3, .slice A0_4 l0_4.length c0_4] 24 (0, 0)) (by (with_reducible repeat (first | refine blk_drewN ?_ _ | refine blk_drew ?_ | refine blk_alloc ?_ _)); exact BK103.out) hb); have n4_ := Aside0.mk (below_step (by repeat (first | (with_reducible first | exact HB.out | apply below_alloc | apply pw_below_drewN | apply below_drew1 | refine below_set ?_ GE103.out) | exact HB.out)) hb); clear HO106; clear HO111; clear BK103; clear HB; have HO106 := n0_; have HO111 := n1_; have HO115 := n2_; have BK103 := n3_; have HB := n4_; clear n0_ n1_ n2_ n3_ n4_; (try clear hb); (try clear hb2); (try clear hk); (try clear hi); (try clear ho0); obtain ⟨Ao17, co17, eo17⟩ := Kd.R_slice HO111.out; subst eo17) | ((with_reducible refine gate_builtin (b := .append) (xs := #[.tmp 20, .tmp 21]) rfl ?_); at_builtin; refine Kd.R_append_rows (Kd.int .i64) (w0 := w) w.heap.size rfl (.tmp 20) (.tmp 21) 25 3 (.int .i64 0) 8 rfl Try.underlying25 info3 rfl (by decide) (by omega) (.slice Ao12 t104.length co12) t104 t108 _ _ _ (fun k_ => some k_ ≠ (.slice Ao17 t108.length co17 : Value).ownBlock ∧ some k_ ≠ (v114 : Value).ownBlock) (fun _ => False) rfl rfl ?aO ?aR (fun _ _ h => h) (fun _ h => h.elim) ?aF ?aB ?aS ?aL ?_; (case aR => repeat (first | exact (Kd.R_reads' HO111.out).2.2 | (with_reducible refine Kd.C_alloc ?_ _) | (with_reducible refine Kd.C_drewN ?_ _) | (with_reducible refine Kd.C_drew ?_))); (case aB => exact (by repeat (first | (with_reducible first | exact HB.out | apply below_alloc | apply pw_below_drewN | apply below_drew1 | refine below_set ?_ GE103.out) | exact HB.out))); (case aF => exact (fun k_ hk => ⟨Kd.fresh' (Kd.R_lt (by (with_reducible repeat (first | apply Kd.R_alloc | apply Kd.R_drewN | apply Kd.R_drew)); exact HO111.out)) k_ hk, Kd.fresh' (Kd.R_lt (by (with_reducible repeat (first | apply Kd.R_alloc | apply Kd.R_drewN | apply Kd.R_drew)); exact HO115.out)) k_ hk⟩)); (case aO => exact (by (with_reducible repeat (first | apply Kd.R_alloc | apply Kd.R_drewN | apply Kd.R_drew)); exact Kd.R_mono HO106.out (fun k_ hk => by first | exact ⟨hk.1.2, hk.2⟩ | (refine ⟨?_, ?_⟩ <;> first | exact hk.1 | exact hk.2 | exact hk.1.2 | exact hk.2.2 | exact hk.1.1 | exact hk.2.1)))); (case aS => exact (below_size (by repeat (first | (with_reducible first | exact HB.out | apply below_alloc | apply pw_below_drewN | apply below_drew1 | refine below_set ?_ GE103.out) | exact HB.out)))); (case aL => have := LMc6.out; omega); intro v117 w16 ho hb hg hat; rw [← Ny116.out] at ho; have n0_ := Aside0.mk (blk_grown (g := gb103) (o := .cells #[.bool a0_0, .int .i64 a0_1, .bool a0_2, .int .i64 a0_3, .slice A0_4 l0_4.length c0_4] 24 (0, 0)) (by (with_reducible repeat (first | refine blk_drewN ?_ _ | refine blk_drew ?_ | refine blk_alloc ?_ _)); exact BK103.out) hg (Kd.R_ne HO106.out BK103.out (by decide))); have n1_ := Aside0.mk (Kd.R_after (ok := (fun k_ => some k_ ≠ (v114 : Value).ownBlock)) (by (with_reducible repeat (first | apply Kd.R_alloc | apply Kd.R_drewN | apply Kd.R_drew)); exact Kd.R_mono HO111.out (fun _ hk => ⟨hk.2, hk.1.2⟩)) hg hat); have n2_ := Aside0.mk (Kd.R_after (ok := (fun k_ => some k_ ≠ (.slice Ao17 t108.length co17 : Value).ownBlock)) (by (with_reducible repeat (first | apply Kd.R_alloc | apply Kd.R_drewN | apply Kd.R_drew)); exact Kd.R_mono HO115.out (fun _ hk => ⟨hk.2, hk.1.2⟩)) hg hat); have n3_ := Aside0.mk (hb); have n4_ := Aside0.mk (ho); clear BK103; clear HO111; clear HO115; clear HB; clear HO106; have BK103 := n0_; have HO111 := n1_; have HO115 := n2_; have HB := n3_; have HO118 := n4_; clear n0_ n1_ n2_ n3_ n4_; clear ho hb hg hat; obtain ⟨Ao18, co18, eo18⟩ := Kd.R_slice HO118.out; subst eo18) | ((with_reducible refine gate_callee (f := 30) rfl ?_); refine goesL_ (some 23) rfl rfl Try.func30 (by kernel_rfl) rfl #[.slice Ao18 y116.length co18] rfl (by (try simp only [List.map_toArray, List.map_cons, List.map_nil]); first | done | rfl | (simp only [List.length_drop, List.length_take]; rfl)) ?_; (with_reducible refine (stuff_Stuff.calls _ _ y116 t119 _ ?side1 ?side2 A7.out).mono ?_); (case side1 => repeat (first | exact (Kd.R_reads' HO118.out).2.2 | (with_reducible refine Kd.C_alloc ?_ _) | (with_reducible refine Kd.C_drewN ?_ _) | (with_reducible refine Kd.C_drew ?_))); (case side2 => exact (Kd.R_reads' HO118.out).2.1); rintro e w19 ⟨v120, rfl, ho0, hb⟩; refine ⟨_, rfl, ?_⟩; have n0_ := Aside0.mk (Kd.R_elder' (by (with_reducible repeat (first | apply Kd.R_alloc | apply Kd.R_drewN | apply Kd.R_drew)); exact HO111.out) (Kd.R_base ho0) hb); have n1_ := Aside0.mk (Kd.R_elder' (by (with_reducible repeat (first | apply Kd.R_alloc | apply Kd.R_drewN | apply Kd.R_drew)); exact HO115.out) (Kd.R_base ho0) hb); have n2_ := Aside0.mk (Kd.R_elder' (by (with_reducible repeat (first | apply Kd.R_alloc | apply Kd.R_drewN | apply Kd.R_drew)); exact HO118.out) (Kd.R_base ho0) hb); have n3_ := Aside0.mk (Kd.R_lower (Kd.R_new' (Kd.R_new' (Kd.R_new' ho0 (Kd.R_lt (by (with_reducible repeat (first | apply Kd.R_alloc | apply Kd.R_drewN | apply Kd.R_drew)); exact HO111.out))) (Kd.R_lt (by (with_reducible repeat (first | apply Kd.R_alloc | apply Kd.R_drewN | apply Kd.R_drew)); exact HO115.out))) (Kd.R_lt (by (with_reducible repeat (first | apply Kd.R_alloc | apply Kd.R_drewN | apply Kd.R_drew)); exact HO118.out))) (below_size (by repeat (first | (with_reducible first | exact HB.out | apply below_alloc | apply pw_below_drewN | apply below_drew1 | refine below_set ?_ GE103.out) | exact HB.out)))); have n4_ := Aside0.mk (blk_below (g := gb103) (o := .cells #[.bool a0_0, .int .i64 a0_1, .bool a0_2, .int .i64 a0_3, .slice A0_4 l0_4.length c0_4] 24 (0, 0)) (by (with_reducible repeat (first | refine blk_drewN ?_ _ | refine blk_drew ?_ | refine blk_alloc ?_ _)); exact BK103.out) hb); have n5_ := Aside0.mk (below_step (by repeat (first | (with_reducible first | exact HB.out | apply below_alloc | apply pw_below_drewN | apply below_drew1 | refine below_set ?_ GE103.out) | exact HB.out)) hb); clear HO111; clear HO115; clear HO118; clear BK103; clear HB; have HO111 := n0_; have HO115 := n1_; have HO118 := n2_; have HO121 := n3_; have BK103 := n4_; have HB := n5_; clear n0_ n1_ n2_ n3_ n4_ n5_; (try clear hb); (try clear hb2); (try clear hk); (try clear hi); (try clear ho0); obtain ⟨Ao21, co21, eo21⟩ := Kd.R_slice HO115.out; subst eo21) | ((with_reducible refine gate_builtin (b := .append) (xs := #[.tmp 23, .tmp 24]) rfl ?_); at_builtin; refine Kd.R_append_rows (Kd.int .i64) (w0 := w) w.heap.size rfl (.tmp 23) (.tmp 24) 25 3 (.int .i64 0) 8 rfl Try.underlying25 info3 rfl (by decide) (by omega) v120 t119 t112 _ _ _ (fun k_ => some k_ ≠ (.slice Ao17 t108.length co17 : Value).ownBlock ∧ some k_ ≠ (.slice Ao21 t112.length co21 : Value).ownBlock ∧ some k_ ≠ (.slice Ao18 y116.length co18 : Value).ownBlock) (fun _ => False) rfl rfl ?aO ?aR (fun _ _ h => h) (fun _ h => h.elim) ?aF ?aB ?aS ?aL ?_; (case aR => repeat (first | exact (Kd.R_reads' HO115.out).2.2 | (with_reducible refine Kd.C_alloc ?_ _) | (with_reducible refine Kd.C_drewN ?_ _) | (with_reducible refine Kd.C_drew ?_))); (case aB => exact (by repeat (first | (with_reducible first | exact HB.out | apply below_alloc | apply pw_below_drewN | apply below_drew1 | refine below_set ?_ GE103.out) | exact HB.out))); (case aF => exact (fun k_ hk => ⟨Kd.fresh' (Kd.R_lt (by (with_reducible repeat (first | apply Kd.R_alloc | apply Kd.R_drewN | apply Kd.R_drew)); exact HO111.out)) k_ hk, Kd.fresh' (Kd.R_lt (by (with_reducible repeat (first | apply Kd.R_alloc | apply Kd.R_drewN | apply Kd.R_drew)); exact HO115.out)) k_ hk, Kd.fresh' (Kd.R_lt (by (with_reducible repeat (first | apply Kd.R_alloc | apply Kd.R_drewN | apply Kd.R_drew)); exact HO118.out)) k_ hk⟩)); (case aO => exact (by (with_reducible repeat (first | apply Kd.R_alloc | apply Kd.R_drewN | apply Kd.R_drew)); exact Kd.R_mono HO121.out (fun _ hk => ⟨hk.1.1.2, ⟨hk.1.2, hk.2⟩⟩))); (case aS => exact (below_size (by repeat (first | (with_reducible first | exact HB.out | apply below_alloc | apply pw_below_drewN | apply below_drew1 | refine below_set ?_ GE103.out) | exact HB.out)))); (case aL => have := LMc8.out; omega); intro v123 w20 ho hb hg hat; rw [← Ny122.out] at ho; have n0_ := Aside0.mk (blk_grown (g := gb103) (o := .cells #[.bool a0_0, .int .i64 a0_1, .bool a0_2, .int .i64 a0_3, .slice A0_4 l0_4.length c0_4] 24 (0, 0)) (by (with_reducible repeat (first | refine blk_drewN ?_ _ | refine blk_drew ?_ | refine blk_alloc ?_ _)); exact BK103.out) hg (Kd.R_ne HO121.out BK103.out (by decide))); have n1_ := Aside0.mk (Kd.R_after (ok := (fun k_ => some k_ ≠ (.slice Ao21 t112.length co21 : Value).ownBlock ∧ some k_ ≠ (.slice Ao18 y116.length co18 : Value).ownBlock)) (by (with_reducible repeat (first | apply Kd.R_alloc | apply Kd.R_drewN | apply Kd.R_drew)); exact HO111.out) hg hat); have n2_ := Aside0.mk (Kd.R_after (ok := (fun k_ => some k_ ≠ (.slice Ao17 t108.length co17 : Value).ownBlock ∧ some k_ ≠ (.slice Ao18 y116.length co18 : Value).ownBlock)) (by (with_reducible repeat (first | apply Kd.R_alloc | apply Kd.R_drewN | apply Kd.R_drew)); exact HO115.out) hg hat); have n3_ := Aside0.mk (Kd.R_after (ok := (fun k_ => some k_ ≠ (.slice Ao17 t108.length co17 : Value).ownBlock ∧ some k_ ≠ (.slice Ao21 t112.length co21 : Value).ownBlock)) (by (with_reducible repeat (first | apply Kd.R_alloc | apply Kd.R_drewN | apply Kd.R_drew)); exact HO118.out) hg hat); have n4_ := Aside0.mk (hb); have n5_ := Aside0.mk (ho); clear BK103; clear HO111; clear HO115; clear HO118; clear HB; clear HO121; have BK103 := n0_; have HO111 := n1_; have HO115 := n2_; have HO118 := n3_; have HB := n4_; have HO124 := n5_; clear n0_ n1_ n2_ n3_ n4_ n5_; clear ho hb hg hat))
   go_ret
   exact ⟨_, by first | rfl | (simp [errW_none, errW_some] <;> rfl) | (simp [*, errW_none, errW_some] <;> rfl), by (with_reducible repeat (first | apply Kd.R_alloc | apply Kd.R_drewN | apply Kd.R_drew)); exact Kd.R_mono HO124.out (fun _ hk => trivial), by repeat (first | (with_reducible first | exact HB.out | apply below_alloc | apply pw_below_drewN | apply below_drew1 | refine below_set ?_ GE103.out) | exact HB.out)⟩
  ·rw [if_neg c8] at H
   exact absurd H (by simp)
 ·rw [if_neg c6] at H
  exact absurd H (by simp)

/-! ### phaetonref01_Put: function 31 -/
mutual
def phaetonref01_Put.j0 : Nat → Int → Int → Bool → Option (List Int × Bool)
 | 0, _, _, _ => none
 | k + 1, x0, x1, x23 => if x23 = true then (some (([] : List Int), false)) else (phaetonref01_Put.l0 k x0 ([] : List Int) (wrap64 (x1 - 1)))
def phaetonref01_Put.l0 : Nat → Int → List Int → Int → Option (List Int × Bool)
 | 0, _, _, _ => none
 | k + 1, x0, x6, x7 => if x7 ≥ 0 then (if 0 ≤ x7 then (if x6.length < 17592186044416 then (phaetonref01_Put.l0 k x0 (x6 ++ [Go.bits .and .i64 (shr .i64 x0 x7) 1]) (wrap64 (x7 - 1))) else (none)) else (none)) else (some (x6, true))
end
def phaetonref01_Put.f (k : Nat) (a0 : Int) (a1 : Int) : Option (List Int × Bool) := if a1 < 0 then (phaetonref01_Put.j0 k a0 a1 true) else (if a1 > 32 then (phaetonref01_Put.j0 k a0 a1 true) else (if a0 < 0 then (phaetonref01_Put.j0 k a0 a1 true) else (if 0 ≤ a1 then (phaetonref01_Put.j0 k a0 a1 (decide (a0 ≥ (shl .i64 1 a1)))) else (none))))
theorem phaetonref01_Put.mono_l : ∀ k, (∀ y0 y1 y2, LeO (phaetonref01_Put.j0 k y0 y1 y2) (phaetonref01_Put.j0 (k + 1) y0 y1 y2)) ∧ (∀ y0 y1 y2, LeO (phaetonref01_Put.l0 k y0 y1 y2) (phaetonref01_Put.l0 (k + 1) y0 y1 y2))
 | 0 => ⟨fun _ _ _ r h => by simp [phaetonref01_Put.j0] at h, fun _ _ _ r h => by simp [phaetonref01_Put.l0] at h⟩
 | k + 1 => by
  obtain ⟨ih0, ih1⟩ := phaetonref01_Put.mono_l k
  refine ⟨?_, ?_⟩
  ·intro y0 y1 y2
   unfold phaetonref01_Put.j0
   repeat' first
   | (with_reducible exact ih0 _ _ _)
   | (with_reducible exact ih1 _ _ _)
   | (with_reducible exact LeO.refl _)
   | (with_reducible exact LeO.none _)
   | (with_reducible refine LeO.ite ?_ ?_)
   | (with_reducible refine LeO.bind ?_ (fun _ => ?_))
   | exact ih0 _ _ _
   | exact ih1 _ _ _
   | exact LeO.none _
   | refine LeO.ite ?_ ?_
   | refine LeO.bind ?_ (fun _ => ?_)
  ·intro y0 y1 y2
   unfold phaetonref01_Put.l0
   repeat' first
   | (with_reducible exact ih0 _ _ _)
   | (with_reducible exact ih1 _ _ _)
   | (with_reducible exact LeO.refl _)
   | (with_reducible exact LeO.none _)
   | (with_reducible refine LeO.ite ?_ ?_)
   | (with_reducible refine LeO.bind ?_ (fun _ => ?_))
   | exact ih0 _ _ _
   | exact ih1 _ _ _
   | exact LeO.none _
   | refine LeO.ite ?_ ?_
   | refine LeO.bind ?_ (fun _ => ?_)
theorem phaetonref01_Put.mono : ∀ a0 a1 k, LeO (phaetonref01_Put.f k a0 a1) (phaetonref01_Put.f (k + 1) a0 a1) := by
 intro a0 a1 k
 obtain ⟨ih0, ih1⟩ := phaetonref01_Put.mono_l k
 unfold phaetonref01_Put.f
 repeat' first
   | (with_reducible exact ih0 _ _ _)
   | (with_reducible exact ih1 _ _ _)
   | (with_reducible exact LeO.refl _)
   | (with_reducible exact LeO.none _)
   | (with_reducible refine LeO.ite ?_ ?_)
   | (with_reducible refine LeO.bind ?_ (fun _ => ?_))
   | exact ih0 _ _ _
   | exact ih1 _ _ _
   | exact LeO.none _
   | refine LeO.ite ?_ ?_
   | refine LeO.bind ?_ (fun _ => ?_)
set_option maxHeartbeats 8000000 in
set_option maxRecDepth 100000 in
theorem phaetonref01_Put.calls (k : Nat) (a0 : Int) (a1 : Int) (r1 : List Int) (r2 : Bool) (w : World) (h : phaetonref01_Put.f k a0 a1 = some (r1, r2)) :
  Calls Try.prog 31 #[.int .i64 a0, .int .i64 a1] w fun e w' => ∃ v0_ : Value, e = .returned (.tuple #[v0_, .bool r2]) ∧ Kd.R (Kd.int .i64) 3 w' w.heap.size (fun _ => True) v0_ r1 ∧ Below w.heap.size w w' := by
 have HB := Aside0.mk (Below.refl w.heap.size w)
 have H : (if a1 < 0 then (phaetonref01_Put.j0 k a0 a1 true) else (if a1 > 32 then (phaetonref01_Put.j0 k a0 a1 true) else (if a0 < 0 then (phaetonref01_Put.j0 k a0 a1 true) else (if 0 ≤ a1 then (phaetonref01_Put.j0 k a0 a1 (decide (a0 ≥ (shl .i64 1 a1)))) else (none))))) = some (r1, r2) := h
 clear h
 have HC3 := Aside0.mk H
 clear H
 go_enter Try.func31, Try.ntmps31
 go_upto_region 1 with (fail)
 go_cut [23] (fun v23 wc => ∃ (kq : Nat) (x23_2 : Bool), v23 = .bool x23_2 ∧ Aside0 (phaetonref01_Put.j0 kq a0 a1 x23_2 = some (r1, r2)) ∧ Aside0 (kq ≤ k) ∧ Aside0 (Below w.heap.size w wc))
 case first =>
  have H := HC3.out
  clear HC3
  by_cases c4 : a1 < 0
  ·rw [if_pos c4] at H
   have c4b0 : decide (a1 < 0) = true := decide_eq_true c4
   clear c4
   (first | rw [c4b0] | (simp only [i64_w, i32_w]; rw [c4b0]) | skip)
   have H' := Aside0.mk H
   clear H
   go_wp2
   go_meet
   case rel => exact ⟨_, (true), (by first | rfl | (simp; done) | (simp [*]; done)), H', ⟨by first | omega | exact Nat.le_refl _⟩, ⟨by repeat (first | (with_reducible first | exact HB.out | apply below_alloc | apply pw_below_drewN | apply below_drew1) | exact HB.out)⟩⟩
  ·rw [if_neg c4] at H
   have c4b0 : decide (a1 < 0) = false := decide_eq_false c4
   clear c4
   (first | rw [c4b0] | (simp only [i64_w, i32_w]; rw [c4b0]) | skip)
   by_cases c5 : a1 > 32
   ·rw [if_pos c5] at H
    have c5b0 : decide (32 < a1) = true := decide_eq_true c5
    clear c5
    have H' := Aside0.mk H
    clear H
    go_wp2
    go_meet
    case rel => exact ⟨_, (true), (by first | rfl | (simp; done) | (simp [*]; done)), H', ⟨by first | omega | exact Nat.le_refl _⟩, ⟨by repeat (first | (with_reducible first | exact HB.out | apply below_alloc | apply pw_below_drewN | apply below_drew1) | exact HB.out)⟩⟩
   ·rw [if_neg c5] at H
    have c5b0 : decide (32 < a1) = false := decide_eq_false c5
    clear c5
    by_cases c6 : a0 < 0
    ·rw [if_pos c6] at H
     have c6b0 : decide (a0 < 0) = true := decide_eq_true c6
     clear c6
     have H' := Aside0.mk H
     clear H
     go_wp2
     go_meet
     case rel => exact ⟨_, (true), (by first | rfl | (simp; done) | (simp [*]; done)), H', ⟨by first | omega | exact Nat.le_refl _⟩, ⟨by repeat (first | (with_reducible first | exact HB.out | apply below_alloc | apply pw_below_drewN | apply below_drew1) | exact HB.out)⟩⟩
    ·rw [if_neg c6] at H
     have c6b0 : decide (a0 < 0) = false := decide_eq_false c6
     clear c6
     by_cases c7 : 0 ≤ a1
     ·rw [if_pos c7] at H
      have c7b0 := eq_true c7
      have c7b1 : decide (0 ≤ a1) = true := decide_eq_true c7
      clear c7
      obtain ⟨ji8, hji8⟩ : ∃ j_ : Int, (shl .i64 1 a1) = j_ := ⟨_, rfl⟩
      replace H : (phaetonref01_Put.j0 k a0 a1 (decide (a0 ≥ (ji8)))) = some (r1, r2) := by first | (rw [hji8] at H; exact H) | (simp only [hji8] at H ⊢; exact H)
      have hji8_ : (IntKind.i64.wrap (1 * 2 ^ min a1.toNat 64)) = ji8 := hji8
      have hji8z : a1 ≤ 64 → (IntKind.i64.wrap (1 * 2 ^ a1.toNat)) = ji8 := shl_small hji8
      have hji8u : (IntKind.i64.wrap (2 ^ min a1.toNat 64)) = ji8 := by have h_ := hji8_; rw [Int.one_mul] at h_; exact h_
      have hji8v : a1 ≤ 64 → (IntKind.i64.wrap (2 ^ a1.toNat)) = ji8 := fun hle_ => by have h_ := hji8z hle_; rw [Int.one_mul] at h_; exact h_
      have hji8y : (wrap64 (1 * 2 ^ min a1.toNat 64)) = ji8 := (i64_w _).symm.trans hji8_
      have hji8x : a1 ≤ 64 → (wrap64 (1 * 2 ^ a1.toNat)) = ji8 := fun h_ => (i64_w _).symm.trans (hji8z h_)
      have H' := Aside0.mk H
      clear H
      go_wp2
      go_meet
      case rel => exact ⟨_, (decide (a0 ≥ (ji8))), (by first | rfl | (simp; done) | (simp only [← hji8] <;> (first | rfl | simp)) | (simp [*]; done)), H', ⟨by first | omega | exact Nat.le_refl _⟩, ⟨by repeat (first | (with_reducible first | exact HB.out | apply below_alloc | apply pw_below_drewN | apply below_drew1) | exact HB.out)⟩⟩
     ·rw [if_neg c7] at H
      exact absurd H (by simp)
 case rest =>
  clear HC3
  try clear p2
  try clear c3
  try clear c4
  try clear c4b0
  try clear c5
  try clear c5b0
  try clear c6
  try clear c6b0
  try clear p6
  try clear c7
  try clear c7b0
  try clear c7b1
  obtain ⟨kq, x23_2, rfl, HA, HJ2, HB⟩ := hcut
  cases kq with
  | zero => exact absurd HA.out (by simp [phaetonref01_Put.j0])
  | succ kj2 =>
   have H := HA.out
   clear HA
   simp only [phaetonref01_Put.j0] at H
   by_cases c9 : x23_2 = true
   ·subst c9
    have H1 : (some (([] : List Int), false)) = some (r1, r2) := by rw [if_pos rfl] at H; exact H
    clear H
    have H := H1
    clear H1
    simp only [Option.some.injEq, Prod.mk.injEq] at H
    obtain ⟨rfl, rfl⟩ := H
    go_wp2
    go_ret2
    exact ⟨_, by first | rfl | (simp [errW_none, errW_some] <;> rfl) | (simp [*, errW_none, errW_some] <;> rfl), by first | exact Kd.R_nil _ _ _ _ _ | exact Kd.N_nil _ _ _ _ _ | exact Kd.V_nil _ _ _ _ _ | exact Kd.Q_nil _ _ _ _ _ | exact Kd.S_nil _ _ _ _ _, by repeat (first | (with_reducible first | exact HB.out | apply below_alloc | apply pw_below_drewN | apply below_drew1) | exact HB.out)⟩
   ·replace c9 := Bool.eq_false_iff.mpr c9
    subst c9
    have H1 : (phaetonref01_Put.l0 kj2 a0 ([] : List Int) (wrap64 (a1 - 1))) = some (r1, r2) := by rw [if_neg (show ¬ (false = true) by decide)] at H; exact H
    clear H
    have H := H1
    clear H1
    have H' := Aside0.mk H
    clear H
    go_wp2
    go_loopg [6, 7] kj2 (fun kq v6 v7 w' => ∃ (x6_2 : List Int) (x7_2 : Int), v7 = .int .i64 x7_2 ∧ Aside0 (phaetonref01_Put.l0 kq a0 x6_2 x7_2 = some (r1, r2)) ∧ Aside0 (kq ≤ kj2) ∧ Aside0 (Kd.R (Kd.int .i64) 3 w' w.heap.size (fun _ => True) v6 x6_2) ∧ Aside0 (Below w.heap.size w w'))
    case atStart => exact ⟨(([] : List Int)), (wrap64 (a1 - 1)), (by first | rfl | (simp; done) | (simp [*]; done)), H', ⟨Nat.le_refl _⟩, ⟨by first | exact Kd.R_nil _ _ _ _ _ | exact Kd.N_nil _ _ _ _ _ | exact Kd.V_nil _ _ _ _ _ | exact Kd.Q_nil _ _ _ _ _ | exact Kd.S_nil _ _ _ _ _⟩, ⟨by repeat (first | (with_reducible first | exact HB.out | apply below_alloc | apply pw_below_drewN | apply below_drew1) | exact HB.out)⟩⟩
    case round =>
     clear H'
     try clear p2
     try clear c3
     try clear c4
     try clear c4b0
     try clear c5
     try clear c5b0
     try clear c6
     try clear c6b0
     try clear p6
     try clear c7
     try clear c7b0
     try clear c7b1
     try clear c9
     try clear p2
     try clear p6
     obtain ⟨x6_2, x7_2, rfl, HA, HK2, HO_6, HB⟩ := hrel
     cases gk with
     | zero => exact absurd HA.out (by simp [phaetonref01_Put.l0])
     | succ k2 =>
      have H := HA.out
      clear HA
      simp only [phaetonref01_Put.l0] at H
      by_cases c10 : x7_2 ≥ 0
      ·rw [if_pos c10] at H
       have c10b0 : decide (0 ≤ x7_2) = true := decide_eq_true c10
       clear c10
       by_cases c11 : 0 ≤ x7_2
       ·rw [if_pos c11] at H
        have c11b0 := eq_true c11
        have c11b1 : decide (0 ≤ x7_2) = true := decide_eq_true c11
        clear c11
        obtain ⟨ji12, hji12⟩ : ∃ j_ : Int, (shr .i64 a0 x7_2) = j_ := ⟨_, rfl⟩
        replace H : (if x6_2.length < 17592186044416 then (phaetonref01_Put.l0 k2 a0 (x6_2 ++ [Go.bits .and .i64 (ji12) 1]) (wrap64 (x7_2 - 1))) else (none)) = some (r1, r2) := by first | (rw [hji12] at H; exact H) | (simp only [hji12] at H ⊢; exact H)
        have hji12_ : (a0 / 2 ^ min x7_2.toNat 64) = ji12 := hji12
        have hji12z : x7_2 ≤ 64 → (a0 / 2 ^ x7_2.toNat) = ji12 := shr_small hji12
        by_cases c13 : x6_2.length < 17592186044416
        ·rw [if_pos c13] at H
         have LMc13 := Aside0.mk c13
         clear c13
         obtain ⟨y125, hy125⟩ : ∃ y_ : List Int, y_ = (x6_2 ++ [Go.bits .and .i64 (ji12) 1]) := ⟨_, rfl⟩
         replace H : (phaetonref01_Put.l0 k2 a0 y125 (wrap64 (x7_2 - 1))) = some (r1, r2) := by first | (rw [hy125]; with_reducible exact H) | (have H2_ := (Option.bind_some _ _).symm.trans H; rw [hy125]; with_reducible exact H2_) | (have H2_ := (Option.bind_some _ _).symm.trans H; with_reducible exact H2_) | with_reducible exact H | (rw [hy125]; exact H) | exact H
         have Ny125 := Aside0.mk hy125
         clear hy125
         have H' := Aside0.mk H
         clear H
         go_wp2_with (first | ((with_reducible refine gate_builtin (b := .append) (xs := #[.tmp 30, .tmp 35]) rfl ?_); at_builtin; refine Kd.R_append (Kd.int .i64) (w0 := w) w.heap.size rfl (.tmp 30) (.tmp 35) 25 3 (.int .i64 0) 8 rfl Try.underlying25 info3 rfl (by decide) (by omega) u6 x6_2 (Go.bits .and .i64 (ji12) 1) [.int .i64 (Go.bits .and .i64 (ji12) 1)] (fun _ => True) (fun _ => False) rfl rfl ?aP (fun _ hk => hk.elim) ?aF ?aO ?aB ?aS ?aL ?_; (case aP => exact rfl); (case aB => exact (by repeat (first | (with_reducible first | exact HB.out | apply below_alloc | apply pw_below_drewN | apply below_drew1) | exact HB.out))); (case aF => exact (fun _ _ => trivial)); (case aO => exact (by (with_reducible repeat (first | apply Kd.R_alloc | apply Kd.R_drewN | apply Kd.R_drew)); exact HO_6.out)); (case aS => exact (below_size (by repeat (first | (with_reducible first | exact HB.out | apply below_alloc | apply pw_below_drewN | apply below_drew1) | exact HB.out)))); (case aL => have := LMc13.out; omega); intro v126 w14 ho hb hg hat; rw [← Ny125.out] at ho; have n0_ := Aside0.mk (hb); have n1_ := Aside0.mk (ho); clear HB; clear HO_6; have HB := n0_; have HO127 := n1_; clear n0_ n1_; clear ho hb hg hat))
         go_roundg k2
         case measure => have := HJ2.out; have := HK2.out; omega
         case rel => exact ⟨(y125), (wrap64 (x7_2 - 1)), (by first | rfl | (simp; done) | (simp [*]; done)), H', ⟨by have := HJ2.out; have := HK2.out; omega⟩, ⟨by (with_reducible repeat (first | apply Kd.R_alloc | apply Kd.R_drewN | apply Kd.R_drew)); exact HO127.out⟩, ⟨by repeat (first | (with_reducible first | exact HB.out | apply below_alloc | apply pw_below_drewN | apply below_drew1) | exact HB.out)⟩⟩
        ·rw [if_neg c13] at H
         exact absurd H (by simp)
       ·rw [if_neg c11] at H
        exact absurd H (by simp)
      ·rw [if_neg c10] at H
       have c10b0 : decide (0 ≤ x7_2) = false := decide_eq_false c10
       clear c10
       simp only [Option.some.injEq, Prod.mk.injEq] at H
       obtain ⟨rfl, rfl⟩ := H
       go_wp2
       go_ret2
       exact ⟨_, by first | rfl | (simp [errW_none, errW_some] <;> rfl) | (simp [*, errW_none, errW_some] <;> rfl), by (with_reducible repeat (first | apply Kd.R_alloc | apply Kd.R_drewN | apply Kd.R_drew)); exact HO_6.out, by repeat (first | (with_reducible first | exact HB.out | apply below_alloc | apply pw_below_drewN | apply below_drew1) | exact HB.out)⟩

/-! ### phaetonref04_put: function 41 -/
def phaetonref04_put.f (k : Nat) (l0 : List Int) (a1 : Int) (a2 : Int) : Option (List Int) := (phaetonref01_Put.f k a1 a2).bind fun bt128 => ((some (([] : List Int) : List Int)).bind fun y132 => (if y132.length + l0.length < 17592186044416 then ((some (y132 ++ l0 : List Int)).bind fun y135 => (if y135.length + bt128.1.length < 17592186044416 then (some (y135 ++ bt128.1)) else (none))) else (none)))
theorem phaetonref04_put.mono : ∀ a0 a1 a2 k, LeO (phaetonref04_put.f k a0 a1 a2) (phaetonref04_put.f (k + 1) a0 a1 a2) := by
 intro a0 a1 a2 k
 unfold phaetonref04_put.f
 repeat' first
   | (with_reducible exact phaetonref01_Put.mono _ _ _)
   | (with_reducible exact LeO.refl _)
   | (with_reducible exact LeO.none _)
   | (with_reducible refine LeO.ite ?_ ?_)
   | (with_reducible refine LeO.bind ?_ (fun _ => ?_))
   | exact phaetonref01_Put.mono _ _ _
   | exact LeO.none _
   | refine LeO.ite ?_ ?_
   | refine LeO.bind ?_ (fun _ => ?_)
set_option maxHeartbeats 8000000 in
set_option maxRecDepth 100000 in
theorem phaetonref04_put.calls (k : Nat) (A0 : Option Addr) (c0 : Nat) (l0 : List Int) (a1 : Int) (a2 : Int) (r : List Int) (w : World) (hr0 : Kd.C (Kd.int .i64) w A0 l0.length l0) (hc0 : l0.length ≤ c0) (h : phaetonref04_put.f k l0 a1 a2 = some r) :
  Calls Try.prog 41 #[.slice A0 l0.length c0, .int .i64 a1, .int .i64 a2] w fun e w' => ∃ v0_ : Value, e = .returned (v0_) ∧ Kd.R (Kd.int .i64) 3 w' w.heap.size (fun _ => True) v0_ r ∧ Below w.heap.size w w' := by
 have HR0 := Aside0.mk hr0
 have HC0 := Aside0.mk hc0
 clear hr0 hc0
 have HB := Aside0.mk (Below.refl w.heap.size w)
 have H : ((phaetonref01_Put.f k a1 a2).bind fun bt128 => ((some (([] : List Int) : List Int)).bind fun y132 => (if y132.length + l0.length < 17592186044416 then ((some (y132 ++ l0 : List Int)).bind fun y135 => (if y135.length + bt128.1.length < 17592186044416 then (some (y135 ++ bt128.1)) else (none))) else (none)))) = some r := h
 clear h
 replace H := Option.bind_eq_some_iff.mp H
 obtain ⟨⟨t128, t129⟩, A40, H⟩ := H
 replace H : ((some (([] : List Int) : List Int)).bind fun y132 => (if y132.length + l0.length < 17592186044416 then ((some (y132 ++ l0 : List Int)).bind fun y135 => (if y135.length + t128.length < 17592186044416 then (some (y135 ++ t128)) else (none))) else (none))) = some r := H
 have A4 := Aside0.mk A40
 clear A40
 obtain ⟨y132, hy132⟩ : ∃ y_ : List Int, y_ = (([] : List Int)) := ⟨_, rfl⟩
 replace H : (if y132.length + l0.length < 17592186044416 then ((some (y132 ++ l0 : List Int)).bind fun y135 => (if y135.length + t128.length < 17592186044416 then (some (y135 ++ t128)) else (none))) else (none)) = some r := by first | (rw [hy132]; with_reducible exact H) | (have H2_ := (Option.bind_some _ _).symm.trans H; rw [hy132]; with_reducible exact H2_) | (have H2_ := (Option.bind_some _ _).symm.trans H; with_reducible exact H2_) | with_reducible exact H | (rw [hy132]; exact H) | exact H
 have Ny132 := Aside0.mk hy132
 clear hy132
 by_cases c5 : y132.length + l0.length < 17592186044416
 ·rw [if_pos c5] at H
  have LMc5 := Aside0.mk c5
  clear c5
  obtain ⟨y135, hy135⟩ : ∃ y_ : List Int, y_ = (y132 ++ l0) := ⟨_, rfl⟩
  replace H : (if y135.length + t128.length < 17592186044416 then (some (y135 ++ t128)) else (none)) = some r := by first | (rw [hy135]; with_reducible exact H) | (have H2_ := (Option.bind_some _ _).symm.trans H; rw [hy135]; with_reducible exact H2_) | (have H2_ := (Option.bind_some _ _).symm.trans H; with_reducible exact H2_) | with_reducible exact H | (rw [hy135]; exact H) | exact H
  have Ny135 := Aside0.mk hy135
  clear hy135
  by_cases c6 : y135.length + t128.length < 17592186044416
  ·rw [if_pos c6] at H
   have LMc6 := Aside0.mk c6
   clear c6
   obtain ⟨y138, hy138⟩ : ∃ y_ : List Int, y_ = (y135 ++ t128) := ⟨_, rfl⟩
   replace H : (some y138) = some r := by first | (rw [hy138]; with_reducible exact H) | (have H2_ := (Option.bind_some _ _).symm.trans H; rw [hy138]; with_reducible exact H2_) | (have H2_ := (Option.bind_some _ _).symm.trans H; with_reducible exact H2_) | with_reducible exact H | (rw [hy138]; exact H) | exact H
   have Ny138 := Aside0.mk hy138
   clear hy138
   obtain rfl := Option.some.inj H
   go_enter Try.func41, Try.ntmps41
   go_wp2_with (first | ((with_reducible refine gate_callee (f := 31) rfl ?_); refine goesL_ (some 12) rfl rfl Try.func31 (by kernel_rfl) rfl #[.int .i64 a1, .int .i64 a2] rfl (by (try simp only [List.map_toArray, List.map_cons, List.map_nil]); first | done | rfl | (simp only [List.length_drop, List.length_take]; rfl)) ?_; (with_reducible refine (phaetonref01_Put.calls k a1 a2 t128 t129 _ A4.out).mono ?_); rintro e w7 ⟨v130, rfl, ho0, hb⟩; refine ⟨_, rfl, ?_⟩; have n0_ := Aside0.mk (Kd.R_lower ho0 (below_size (by repeat (first | (with_reducible first | exact HB.out | apply below_alloc | apply pw_below_drewN | apply below_drew1) | exact HB.out)))); have n1_ := Aside0.mk (below_step (by repeat (first | (with_reducible first | exact HB.out | apply below_alloc | apply pw_below_drewN | apply below_drew1) | exact HB.out)) hb); clear HB; have HO131 := n0_; have HB := n1_; clear n0_ n1_; (try clear hb); (try clear hb2); (try clear hk); (try clear hi); (try clear ho0)) | ((with_reducible refine gate_dst (N := 15) rfl ?_); refine Kd.R_lit (Kd.int .i64) _ 3 ?hg (N := 15) ?hd (xs := ([] : List Int)) (inner := []) (ok := fun _ => True) (okp := fun _ => True) ?hr ?hp (fun _ hk => hk) trivial (Below.refl _ _) (Nat.le_refl _) (by simp) ?_; (case hd => rfl); (case hg => rfl); (case hr => first | (go_simp; done) | (go_simp; rfl)); (case hp => exact (Reps.none _ _)); intro v133 w8 ho9 hb hg_ hnew_; clear hg_ hnew_; (first | rw [← Ny132.out] at ho9 | (simp only [Int.reduceToNat] at ho9; rw [← Ny132.out] at ho9)); have n0_ := Aside0.mk (Kd.R_elder' (by (with_reducible repeat (first | apply Kd.R_alloc | apply Kd.R_drewN | apply Kd.R_drew)); exact HO131.out) (Kd.R_base ho9) hb); have n1_ := Aside0.mk (Kd.R_lower (Kd.R_new' ho9 (Kd.R_lt (by (with_reducible repeat (first | apply Kd.R_alloc | apply Kd.R_drewN | apply Kd.R_drew)); exact HO131.out))) (below_size (by repeat (first | (with_reducible first | exact HB.out | apply below_alloc | apply pw_below_drewN | apply below_drew1) | exact HB.out)))); have n2_ := Aside0.mk (below_step (by repeat (first | (with_reducible first | exact HB.out | apply below_alloc | apply pw_below_drewN | apply below_drew1) | exact HB.out)) hb); clear HO131; clear HB; have HO131 := n0_; have HO134 := n1_; have HB := n2_; clear n0_ n1_ n2_; clear hb ho9) | ((with_reducible refine gate_builtin (b := .append) (xs := #[.tmp 15, .tmp 16]) rfl ?_); at_builtin; refine Kd.R_append_rows (Kd.int .i64) (w0 := w) w.heap.size rfl (.tmp 15) (.tmp 16) 25 3 (.int .i64 0) 8 rfl Try.underlying25 info3 rfl (by decide) (by omega) v133 y132 l0 _ _ _ (fun k_ => some k_ ≠ (v130 : Value).ownBlock) (fun _ => False) rfl rfl ?aO ?aR (fun _ _ h => h) (fun _ h => h.elim) ?aF ?aB ?aS ?aL ?_; (case aR => repeat (first | exact (Kd.C_below HR0.out HB.out) | (with_reducible refine Kd.C_alloc ?_ _) | (with_reducible refine Kd.C_drewN ?_ _) | (with_reducible refine Kd.C_drew ?_))); (case aB => exact (by repeat (first | (with_reducible first | exact HB.out | apply below_alloc | apply pw_below_drewN | apply below_drew1) | exact HB.out))); (case aF => exact (fun k_ hk => Kd.fresh' (Kd.R_lt (by (with_reducible repeat (first | apply Kd.R_alloc | apply Kd.R_drewN | apply Kd.R_drew)); exact HO131.out)) k_ hk)); (case aO => exact (by (with_reducible repeat (first | apply Kd.R_alloc | apply Kd.R_drewN | apply Kd.R_drew)); exact Kd.R_mono HO134.out (fun _ hk => hk.2))); (case aS => exact (below_size (by repeat (first | (with_reducible first | exact HB.out | apply below_alloc | apply pw_below_drewN | apply below_drew1) | exact HB.out)))); (case aL => have := LMc5.out; omega); intro v136 w10 ho hb hg hat; rw [← Ny135.out] at ho; have n0_ := Aside0.mk (Kd.R_after (ok := (fun _ => True)) (by (with_reducible repeat (first | apply Kd.R_alloc | apply Kd.R_drewN | apply Kd.R_drew)); exact HO131.out) hg hat); have n1_ := Aside0.mk (hb); have n2_ := Aside0.mk (ho); clear HO131; clear HB; clear HO134; have HO131 := n0_; have HB := n1_; have HO137 := n2_; clear n0_ n1_ n2_; clear ho hb hg hat; obtain ⟨Ao12, co12, eo12⟩ := Kd.R_slice HO131.out; subst eo12) | ((with_reducible refine gate_builtin (b := .append) (xs := #[.tmp 17, .tmp 18]) rfl ?_); at_builtin; refine Kd.R_append_rows (Kd.int .i64) (w0 := w) w.heap.size rfl (.tmp 17) (.tmp 18) 25 3 (.int .i64 0) 8 rfl Try.underlying25 info3 rfl (by decide) (by omega) v136 y135 t128 _ _ _ (fun k_ => some k_ ≠ (.slice Ao12 t128.length co12 : Value).ownBlock) (fun _ => False) rfl rfl ?aO ?aR (fun _ _ h => h) (fun _ h => h.elim) ?aF ?aB ?aS ?aL ?_; (case aR => repeat (first | exact (Kd.R_reads' HO131.out).2.2 | (with_reducible refine Kd.C_alloc ?_ _) | (with_reducible refine Kd.C_drewN ?_ _) | (with_reducible refine Kd.C_drew ?_))); (case aB => exact (by repeat (first | (with_reducible first | exact HB.out | apply below_alloc | apply pw_below_drewN | apply below_drew1) | exact HB.out))); (case aF => exact (fun k_ hk => Kd.fresh' (Kd.R_lt (by (with_reducible repeat (first | apply Kd.R_alloc | apply Kd.R_drewN | apply Kd.R_drew)); exact HO131.out)) k_ hk)); (case aO => exact (by (with_reducible repeat (first | apply Kd.R_alloc | apply Kd.R_drewN | apply Kd.R_drew)); exact HO137.out)); (case aS => exact (below_size (by repeat (first | (with_reducible first | exact HB.out | apply below_alloc | apply pw_below_drewN | apply below_drew1) | exact HB.out)))); (case aL => have := LMc6.out; omega); intro v139 w11 ho hb hg hat; rw [← Ny138.out] at ho; have n0_ := Aside0.mk (Kd.R_after (ok := (fun _ => True)) (by (with_reducible repeat (first | apply Kd.R_alloc | apply Kd.R_drewN | apply Kd.R_drew)); exact HO131.out) hg hat); have n1_ := Aside0.mk (hb); have n2_ := Aside0.mk (ho); clear HO131; clear HB; clear HO137; have HO131 := n0_; have HB := n1_; have HO140 := n2_; clear n0_ n1_ n2_; clear ho hb hg hat))
   go_ret
   exact ⟨_, by first | rfl | (simp [errW_none, errW_some] <;> rfl) | (simp [*, errW_none, errW_some] <;> rfl), by (with_reducible repeat (first | apply Kd.R_alloc | apply Kd.R_drewN | apply Kd.R_drew)); exact Kd.R_mono HO140.out (fun _ hk => trivial), by repeat (first | (with_reducible first | exact HB.out | apply below_alloc | apply pw_below_drewN | apply below_drew1) | exact HB.out)⟩
  ·rw [if_neg c6] at H
   exact absurd H (by simp)
 ·rw [if_neg c5] at H
  exact absurd H (by simp)

/-! ### phaetonref04_remote: function 56 -/
def phaetonref04_remote.f (a0_0 : Bool) (a0_1 : Int) (a0_2 : Bool) (a0_3 : Int) (l0_4 : List Int) : Option (Int) := if a0_2 = true then (some 1) else (some 0)
set_option maxHeartbeats 8000000 in
set_option maxRecDepth 100000 in
theorem phaetonref04_remote.calls (a0_0 : Bool) (a0_1 : Int) (a0_2 : Bool) (a0_3 : Int) (A0_4 : Option Addr) (c0_4 : Nat) (l0_4 : List Int) (r : Int) (w : World) (hr0_4 : Kd.C (Kd.int .u8) w A0_4 l0_4.length l0_4) (hc0_4 : l0_4.length ≤ c0_4) (h : phaetonref04_remote.f a0_0 a0_1 a0_2 a0_3 l0_4 = some r) :
  Calls Try.prog 56 #[.agg #[.bool a0_0, .int .i64 a0_1, .bool a0_2, .int .i64 a0_3, .slice A0_4 l0_4.length c0_4]] w fun e w' => e = .returned (.int .i64 r) ∧ Below w.heap.size w w' := by
 have hu24 := Try.underlying24
 have HR0_4 := Aside0.mk hr0_4
 have HC0_4 := Aside0.mk hc0_4
 clear hr0_4 hc0_4
 have HB := Aside0.mk (Below.refl w.heap.size w)
 have H : (if a0_2 = true then (some 1) else (some 0)) = some r := h
 clear h
 by_cases c2 : a0_2 = true
 ·subst c2
  have H1 : (some 1) = some r := by rw [if_pos rfl] at H; exact H
  clear H
  have H := H1
  clear H1
  obtain rfl := Option.some.inj H
  go_enter Try.func56, Try.ntmps56
  go_wp2_with (first | ((with_reducible refine gate_store (t := 24) (p := 1) rfl ?_); refine HW.store_box5 rfl rfl 24 _ _ rfl rfl rfl BK141.out rfl (by kernel_rfl) rfl rfl rfl rfl rfl ?_; intro w1_ hw1_ hk1_; subst hw1_; have hcb141_0 := (blk_cell hk1_ 0).trans rfl; have hfb141_0 := blk_frozen hk1_ 0; have hcb141_1 := (blk_cell hk1_ 1).trans rfl; have hfb141_1 := blk_frozen hk1_ 1; have hcb141_2 := (blk_cell hk1_ 2).trans rfl; have hfb141_2 := blk_frozen hk1_ 2; have hcb141_3 := (blk_cell hk1_ 3).trans rfl; have hfb141_3 := blk_frozen hk1_ 3; have hcb141_4 := (blk_cell hk1_ 4).trans rfl; have hfb141_4 := blk_frozen hk1_ 4; clear hk1_) | ((with_reducible refine gate_store (t := 24) (p := 1) rfl ?_); refine HW.store_box5 rfl rfl 24 _ _ rfl rfl rfl BK141.out rfl (by kernel_rfl) rfl rfl rfl rfl rfl ?_; intro w1_ hw1_ hk1_; subst hw1_; have hcb141_0 := (blk_cell hk1_ 0).trans rfl; have hfb141_0 := blk_frozen hk1_ 0; have hcb141_1 := (blk_cell hk1_ 1).trans rfl; have hfb141_1 := blk_frozen hk1_ 1; have hcb141_2 := (blk_cell hk1_ 2).trans rfl; have hfb141_2 := blk_frozen hk1_ 2; have hcb141_3 := (blk_cell hk1_ 3).trans rfl; have hfb141_3 := blk_frozen hk1_ 3; have hcb141_4 := (blk_cell hk1_ 4).trans rfl; have hfb141_4 := blk_frozen hk1_ 4; clear hk1_) | ((with_reducible refine gate_dst (N := 1) rfl ?_); refine box_event ?hg (N := 1) ?hd (cs := #[.bool a0_0, .int .i64 a0_1, .bool true, .int .i64 a0_3, .slice A0_4 l0_4.length c0_4]) (t := 24) ?hr ?_; (case hd => rfl); (case hg => rfl); (case hr => first | (go_simp; done) | (go_simp; rfl)); intro gb141 hg w3 hbox hb; have n0_ := Aside0.mk (below_step (by repeat (first | (with_reducible first | exact HB.out | apply below_alloc | apply pw_below_drewN | apply below_drew1) | exact HB.out)) hb); have n1_ := Aside0.mk (hbox); have n2_ := Aside0.mk ((by rw [hg]; exact (below_size (by repeat (first | (with_reducible first | exact HB.out | apply below_alloc | apply pw_below_drewN | apply below_drew1) | exact HB.out))) : w.heap.size ≤ gb141)); have n3_ := Aside0.mk ((by rw [hg]; exact (below_size (by repeat (first | (with_reducible first | exact HB.out | apply below_alloc | apply pw_below_drewN | apply below_drew1) | exact HB.out))) : w.heap.size ≤ gb141)); clear HB; have HB := n0_; have BK141 := n1_; have GW141 := n2_; have GE141 := n3_; clear n0_ n1_ n2_ n3_; clear hb hbox hg; have hcz4_0 : w3.cell? ⟨gb141, 0, none⟩ = some (.bool a0_0) := (blk_cell BK141.out 0).trans rfl; have hcz4_1 : w3.cell? ⟨gb141, 1, none⟩ = some (.int .i64 a0_1) := (blk_cell BK141.out 1).trans rfl; have hcz4_2 : w3.cell? ⟨gb141, 2, none⟩ = some (.bool true) := (blk_cell BK141.out 2).trans rfl; have hcz4_3 : w3.cell? ⟨gb141, 3, none⟩ = some (.int .i64 a0_3) := (blk_cell BK141.out 3).trans rfl; have hcz4_4 : w3.cell? ⟨gb141, 4, none⟩ = some (.slice A0_4 l0_4.length c0_4) := (blk_cell BK141.out 4).trans rfl; have hfz4_0 := blk_frozen BK141.out 0; have hfz4_1 := blk_frozen BK141.out 1; have hfz4_2 := blk_frozen BK141.out 2; have hfz4_3 := blk_frozen BK141.out 3; have hfz4_4 := blk_frozen BK141.out 4))
  go_ret
  exact ⟨by first | rfl | (simp [errW_none, errW_some] <;> rfl) | (simp [*, errW_none, errW_some] <;> rfl), by repeat (first | (with_reducible first | exact HB.out | apply below_alloc | apply pw_below_drewN | apply below_drew1 | refine below_set ?_ GE141.out) | exact HB.out)⟩
 ·replace c2 := Bool.eq_false_iff.mpr c2
  subst c2
  have H1 : (some 0) = some r := by rw [if_neg (show ¬ (false = true) by decide)] at H; exact H
  clear H
  have H := H1
  clear H1
  obtain rfl := Option.some.inj H
  go_enter Try.func56, Try.ntmps56
  go_wp2_with (first | ((with_reducible refine gate_store (t := 24) (p := 1) rfl ?_); refine HW.store_box5 rfl rfl 24 _ _ rfl rfl rfl BK141.out rfl (by kernel_rfl) rfl rfl rfl rfl rfl ?_; intro w1_ hw1_ hk1_; subst hw1_; have hcb141_0 := (blk_cell hk1_ 0).trans rfl; have hfb141_0 := blk_frozen hk1_ 0; have hcb141_1 := (blk_cell hk1_ 1).trans rfl; have hfb141_1 := blk_frozen hk1_ 1; have hcb141_2 := (blk_cell hk1_ 2).trans rfl; have hfb141_2 := blk_frozen hk1_ 2; have hcb141_3 := (blk_cell hk1_ 3).trans rfl; have hfb141_3 := blk_frozen hk1_ 3; have hcb141_4 := (blk_cell hk1_ 4).trans rfl; have hfb141_4 := blk_frozen hk1_ 4; clear hk1_) | ((with_reducible refine gate_store (t := 24) (p := 1) rfl ?_); refine HW.store_box5 rfl rfl 24 _ _ rfl rfl rfl BK141.out rfl (by kernel_rfl) rfl rfl rfl rfl rfl ?_; intro w1_ hw1_ hk1_; subst hw1_; have hcb141_0 := (blk_cell hk1_ 0).trans rfl; have hfb141_0 := blk_frozen hk1_ 0; have hcb141_1 := (blk_cell hk1_ 1).trans rfl; have hfb141_1 := blk_frozen hk1_ 1; have hcb141_2 := (blk_cell hk1_ 2).trans rfl; have hfb141_2 := blk_frozen hk1_ 2; have hcb141_3 := (blk_cell hk1_ 3).trans rfl; have hfb141_3 := blk_frozen hk1_ 3; have hcb141_4 := (blk_cell hk1_ 4).trans rfl; have hfb141_4 := blk_frozen hk1_ 4; clear hk1_) | ((with_reducible refine gate_dst (N := 1) rfl ?_); refine box_event ?hg (N := 1) ?hd (cs := #[.bool a0_0, .int .i64 a0_1, .bool false, .int .i64 a0_3, .slice A0_4 l0_4.length c0_4]) (t := 24) ?hr ?_; (case hd => rfl); (case hg => rfl); (case hr => first | (go_simp; done) | (go_simp; rfl)); intro gb141 hg w5 hbox hb; have n0_ := Aside0.mk (below_step (by repeat (first | (with_reducible first | exact HB.out | apply below_alloc | apply pw_below_drewN | apply below_drew1) | exact HB.out)) hb); have n1_ := Aside0.mk (hbox); have n2_ := Aside0.mk ((by rw [hg]; exact (below_size (by repeat (first | (with_reducible first | exact HB.out | apply below_alloc | apply pw_below_drewN | apply below_drew1) | exact HB.out))) : w.heap.size ≤ gb141)); have n3_ := Aside0.mk ((by rw [hg]; exact (below_size (by repeat (first | (with_reducible first | exact HB.out | apply below_alloc | apply pw_below_drewN | apply below_drew1) | exact HB.out))) : w.heap.size ≤ gb141)); clear HB; have HB := n0_; have BK141 := n1_; have GW141 := n2_; have GE141 := n3_; clear n0_ n1_ n2_ n3_; clear hb hbox hg; have hcz6_0 : w5.cell? ⟨gb141, 0, none⟩ = some (.bool a0_0) := (blk_cell BK141.out 0).trans rfl; have hcz6_1 : w5.cell? ⟨gb141, 1, none⟩ = some (.int .i64 a0_1) := (blk_cell BK141.out 1).trans rfl; have hcz6_2 : w5.cell? ⟨gb141, 2, none⟩ = some (.bool false) := (blk_cell BK141.out 2).trans rfl; have hcz6_3 : w5.cell? ⟨gb141, 3, none⟩ = some (.int .i64 a0_3) := (blk_cell BK141.out 3).trans rfl; have hcz6_4 : w5.cell? ⟨gb141, 4, none⟩ = some (.slice A0_4 l0_4.length c0_4) := (blk_cell BK141.out 4).trans rfl; have hfz6_0 := blk_frozen BK141.out 0; have hfz6_1 := blk_frozen BK141.out 1; have hfz6_2 := blk_frozen BK141.out 2; have hfz6_3 := blk_frozen BK141.out 3; have hfz6_4 := blk_frozen BK141.out 4))
  go_ret
  exact ⟨by first | rfl | (simp [errW_none, errW_some] <;> rfl) | (simp [*, errW_none, errW_some] <;> rfl), by repeat (first | (with_reducible first | exact HB.out | apply below_alloc | apply pw_below_drewN | apply below_drew1 | refine below_set ?_ GE141.out) | exact HB.out)⟩

end Go.Proofs.Ythgeekcobmhbfaa.Px

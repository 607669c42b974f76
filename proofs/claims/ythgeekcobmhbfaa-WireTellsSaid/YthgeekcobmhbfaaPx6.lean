-- Written by myprint.py, a program of this session's, over the kit's print.py; not a text of print.sh's own.
import Derived.Test.YthgeekcobmhbfaaHandFive
import Derived.Test.YthgeekcobmhbfaaPx0
import Derived.Test.YthgeekcobmhbfaaPx5
namespace Go.Proofs.Ythgeekcobmhbfaa.Px
open Go.RowKit Go.Proofs.YthgeekcobmhbfaaW.PrintWords Go.Proofs.YthgeekcobmhbfaaW.PrintLast Go.Proofs.YthgeekcobmhbfaaW.PrintMore
attribute [local go_sem] max2_int min2_int max_two min_two max_three min_three max_four min_four   -- for this text's walks alone
set_option linter.unusedVariables false
set_option linter.unusedSimpArgs false

/-! ### bits_Get: function 52 -/
mutual
def bits_Get.j0 : Nat → List Int → Bool → Option (Int × Bool)
 | 0, _, _ => none
 | k + 1, x0, x14 => if x14 = true then (some (0, false)) else (bits_Get.l0 k 0 x0 (x0.length : Int) 0)
def bits_Get.l0 : Nat → Int → List Int → Int → Int → Option (Int × Bool)
 | 0, _, _, _, _ => none
 | k + 1, x4, x15, x16, x17 => if x17 < x16 then (if 0 ≤ x17 then (if x17 < (x15.length : Int) then (bits_Get.l0 k (Go.bits .or .i64 (wrap64 (x4 * 2)) (rd x15 x17)) x15 x16 (wrap64 (x17 + 1))) else (none)) else (none)) else (some (x4, true))
end
def bits_Get.f (k : Nat) (l0 : List Int) : Option (Int × Bool) := if (l0.length : Int) > 32 then (bits_Get.j0 k l0 true) else ((bits_Right.f k l0).bind fun t274 => (bits_Get.j0 k l0 (!t274)))
theorem bits_Get.mono_l : ∀ k, (∀ y0 y1, LeO (bits_Get.j0 k y0 y1) (bits_Get.j0 (k + 1) y0 y1)) ∧ (∀ y0 y1 y2 y3, LeO (bits_Get.l0 k y0 y1 y2 y3) (bits_Get.l0 (k + 1) y0 y1 y2 y3))
 | 0 => ⟨fun _ _ r h => by simp [bits_Get.j0] at h, fun _ _ _ _ r h => by simp [bits_Get.l0] at h⟩
 | k + 1 => by
  obtain ⟨ih0, ih1⟩ := bits_Get.mono_l k
  refine ⟨?_, ?_⟩
  ·intro y0 y1
   unfold bits_Get.j0
   repeat' first
   | (with_reducible exact ih0 _ _)
   | (with_reducible exact ih1 _ _ _ _)
   | (with_reducible exact bits_Right.mono _ _)
   | (with_reducible exact LeO.refl _)
   | (with_reducible exact LeO.none _)
   | (with_reducible refine LeO.ite ?_ ?_)
   | (with_reducible refine LeO.bind ?_ (fun _ => ?_))
   | exact ih0 _ _
   | exact ih1 _ _ _ _
   | exact bits_Right.mono _ _
   | exact LeO.none _
   | refine LeO.ite ?_ ?_
   | refine LeO.bind ?_ (fun _ => ?_)
  ·intro y0 y1 y2 y3
   unfold bits_Get.l0
   repeat' first
   | (with_reducible exact ih0 _ _)
   | (with_reducible exact ih1 _ _ _ _)
   | (with_reducible exact bits_Right.mono _ _)
   | (with_reducible exact LeO.refl _)
   | (with_reducible exact LeO.none _)
   | (with_reducible refine LeO.ite ?_ ?_)
   | (with_reducible refine LeO.bind ?_ (fun _ => ?_))
   | exact ih0 _ _
   | exact ih1 _ _ _ _
   | exact bits_Right.mono _ _
   | exact LeO.none _
   | refine LeO.ite ?_ ?_
   | refine LeO.bind ?_ (fun _ => ?_)
theorem bits_Get.mono : ∀ a0 k, LeO (bits_Get.f k a0) (bits_Get.f (k + 1) a0) := by
 intro a0 k
 obtain ⟨ih0, ih1⟩ := bits_Get.mono_l k
 unfold bits_Get.f
 repeat' first
   | (with_reducible exact ih0 _ _)
   | (with_reducible exact ih1 _ _ _ _)
   | (with_reducible exact bits_Right.mono _ _)
   | (with_reducible exact LeO.refl _)
   | (with_reducible exact LeO.none _)
   | (with_reducible refine LeO.ite ?_ ?_)
   | (with_reducible refine LeO.bind ?_ (fun _ => ?_))
   | exact ih0 _ _
   | exact ih1 _ _ _ _
   | exact bits_Right.mono _ _
   | exact LeO.none _
   | refine LeO.ite ?_ ?_
   | refine LeO.bind ?_ (fun _ => ?_)
set_option maxHeartbeats 8000000 in
set_option maxRecDepth 100000 in
theorem bits_Get.calls (k : Nat) (A0 : Option Addr) (c0 : Nat) (l0 : List Int) (r1 : Int) (r2 : Bool) (w : World) (hr0 : Kd.C (Kd.int .i64) w A0 l0.length l0) (hc0 : l0.length ≤ c0) (h : bits_Get.f k l0 = some (r1, r2)) :
  Calls Try.prog 52 #[.slice A0 l0.length c0] w fun e w' => e = .returned (.tuple #[.int .i64 r1, .bool r2]) ∧ Drawn0 w w' := by
 have HR0 := Aside0.mk hr0
 have HC0 := Aside0.mk hc0
 clear hr0 hc0
 have H : (if (l0.length : Int) > 32 then (bits_Get.j0 k l0 true) else ((bits_Right.f k l0).bind fun t274 => (bits_Get.j0 k l0 (!t274)))) = some (r1, r2) := h
 clear h
 have HC2 := Aside0.mk H
 clear H
 go_enter Try.func52, Try.ntmps52
 go_upto_region 1 with (fail)
 go_cut [14] (fun v14 wc => ∃ (kq : Nat) (x14_1 : Bool), v14 = .bool x14_1 ∧ Aside0 (bits_Get.j0 kq l0 x14_1 = some (r1, r2)) ∧ Aside0 (kq ≤ k) ∧ Drawn0 w wc)
 case first =>
  have H := HC2.out
  clear HC2
  by_cases c3 : (l0.length : Int) > 32
  ·rw [if_pos c3] at H
   have c3b0 : decide (32 < (l0.length : Int)) = true := decide_eq_true c3
   have c3b1 : decide (32 < l0.length) = true := decide_eq_true (by omega)
   clear c3
   (first | rw [c3b0] | (simp only [i64_w, i32_w]; rw [c3b0]) | skip)
   have H' := Aside0.mk H
   clear H
   go_wp2
   go_meet
   case rel => exact ⟨_, (true), (by first | rfl | (simp; done) | (simp [*]; done)), H', ⟨by first | omega | exact Nat.le_refl _⟩, by repeat (first | exact Drawn0.refl _ | apply Drawn0.step)⟩
  ·rw [if_neg c3] at H
   have c3b0 : decide (32 < (l0.length : Int)) = false := decide_eq_false c3
   have c3b1 : decide (32 < l0.length) = false := decide_eq_false (by omega)
   clear c3
   (first | rw [c3b0] | (simp only [i64_w, i32_w]; rw [c3b0]) | skip)
   replace H := Option.bind_eq_some_iff.mp H
   obtain ⟨t274, A40, H⟩ := H
   replace H : (bits_Get.j0 k l0 (!t274)) = some (r1, r2) := H
   have A4 := Aside0.mk A40
   clear A40
   have H' := Aside0.mk H
   clear H
   go_wp2_with (first | (go_at_call 62; (with_reducible refine (bits_Right.calls k _ _ l0 t274 _ ?side1 ?side2 A4.out).mono ?_); (case side1 => repeat (first | exact HR0.out | (with_reducible refine Kd.C_alloc ?_ _) | (with_reducible refine Kd.C_drewN ?_ _) | (with_reducible refine Kd.C_drew ?_))); (case side2 => exact HC0.out); rintro e w' ⟨rfl, ⟨nd, rfl⟩⟩))
   go_meet
   case rel => exact ⟨_, (!t274), (by first | rfl | (simp; done) | (simp [*]; done)), H', ⟨by first | omega | exact Nat.le_refl _⟩, by repeat (first | exact Drawn0.refl _ | apply Drawn0.step)⟩
 case rest =>
  clear HC2
  try clear p2
  try clear c3
  try clear c3b0
  try clear c3b1
  obtain ⟨kq, x14_1, rfl, HA, HJ1, ⟨mc1, rfl⟩⟩ := hcut
  cases kq with
  | zero => exact absurd HA.out (by simp [bits_Get.j0])
  | succ kj1 =>
   have H := HA.out
   clear HA
   simp only [bits_Get.j0] at H
   by_cases c5 : x14_1 = true
   ·subst c5
    have H1 : (some (0, false)) = some (r1, r2) := by rw [if_pos rfl] at H; exact H
    clear H
    have H := H1
    clear H1
    simp only [Option.some.injEq, Prod.mk.injEq] at H
    obtain ⟨rfl, rfl⟩ := H
    go_wp2
    go_ret2
    exact ⟨by first | rfl | (simp; done) | (simp [*]; done), by repeat (first | exact Drawn0.refl _ | apply Drawn0.step)⟩
   ·replace c5 := Bool.eq_false_iff.mpr c5
    subst c5
    have H1 : (bits_Get.l0 kj1 0 l0 (l0.length : Int) 0) = some (r1, r2) := by rw [if_neg (show ¬ (false = true) by decide)] at H; exact H
    clear H
    have H := H1
    clear H1
    have H' := Aside0.mk H
    clear H
    go_wp2
    go_loopg [4, 17] kj1 (fun kq v4 v17 w' => ∃ (x4_2 : Int) (x17_2 : Int), v4 = .int .i64 x4_2 ∧ v17 = .int .i64 x17_2 ∧ Aside0 (bits_Get.l0 kq x4_2 l0 (l0.length : Int) x17_2 = some (r1, r2)) ∧ Aside0 (kq ≤ kj1) ∧ Drawn0 w w')
    case atStart => exact ⟨(0), (0), (by first | rfl | (simp; done) | (simp [*]; done)), (by first | rfl | (simp; done) | (simp [*]; done)), H', ⟨Nat.le_refl _⟩, by repeat (first | exact Drawn0.refl _ | apply Drawn0.step)⟩
    case round =>
     clear H'
     try clear c1
     try clear p2
     try clear c3
     try clear c3b0
     try clear c3b1
     try clear c5
     try clear p2
     obtain ⟨x4_2, x17_2, rfl, rfl, HA, HK2, ⟨m2, rfl⟩⟩ := hrel
     cases gk with
     | zero => exact absurd HA.out (by simp [bits_Get.l0])
     | succ k2 =>
      have H := HA.out
      clear HA
      simp only [bits_Get.l0] at H
      by_cases c6 : x17_2 < (l0.length : Int)
      ·rw [if_pos c6] at H
       have c6b0 : decide (x17_2 < (l0.length : Int)) = true := decide_eq_true c6
       clear c6
       by_cases c7 : 0 ≤ x17_2
       ·rw [if_pos c7] at H
        have c7b0 : decide (0 ≤ x17_2) = true := decide_eq_true c7
        clear c7
        by_cases c8 : x17_2 < (l0.length : Int)
        ·rw [if_pos c8] at H
         have c8b0 : decide (x17_2 < (l0.length : Int)) = true := decide_eq_true c8
         clear c8
         have H' := Aside0.mk H
         clear H
         have p275 : 0 ≤ (x17_2 : Int) := of_decide_eq_true (by first | (with_reducible assumption) | assumption)
         have q275 : x17_2 < (l0.length : Int) := of_decide_eq_true (by first | (with_reducible assumption) | assumption)
         obtain ⟨ad275, e275, hx275_0⟩ := Kd.at_int HR0.out x17_2 p275 q275
         cases e275
         replace p275 := eq_true p275
         replace q275 := eq_true q275
         go_wp2
         go_roundg k2
         case measure => have := HJ1.out; have := HK2.out; omega
         case rel => exact ⟨(Go.bits .or .i64 (wrap64 (x4_2 * 2)) (rd l0 x17_2)), (wrap64 (x17_2 + 1)), (by first | rfl | (simp; done) | (simp [*]; done)), (by first | rfl | (simp; done) | (simp [*]; done)), H', ⟨by have := HJ1.out; have := HK2.out; omega⟩, by repeat (first | exact Drawn0.refl _ | apply Drawn0.step)⟩
        ·exfalso; (try simp only [decide_eq_true_eq, decide_eq_false_iff_not, beq_iff_eq, beq_eq_false_iff_ne, ne_eq] at c6b0); omega
       ·rw [if_neg c7] at H
        exact absurd H (by simp)
      ·rw [if_neg c6] at H
       have c6b0 : decide (x17_2 < (l0.length : Int)) = false := decide_eq_false c6
       clear c6
       simp only [Option.some.injEq, Prod.mk.injEq] at H
       obtain ⟨rfl, rfl⟩ := H
       go_wp2
       go_ret2
       exact ⟨by first | rfl | (simp; done) | (simp [*]; done), by repeat (first | exact Drawn0.refl _ | apply Drawn0.step)⟩

/-! ### frame_reader_take: helper -/
/-- A reader of bits: its variable's block. -/
def frame_RdAt (w : World) (g : Nat) (A : Option Addr) (n c at_ : Nat) : Prop := w.heap[g]? = some (.cells #[.slice A n c, .int .i64 (at_ : Int)] 89 (0, 0))
theorem frame_grown_drew (w : World) (row : Option Nat) : w.grownBy w.drew row := ⟨rfl, rfl, rfl, Nat.le_refl _, fun _ _ _ => rfl⟩
def frame_bitsAt (l : List Int) (at_ m : Nat) : List Int := (l.take (at_ + m)).drop at_
def frame_numAt (l : List Int) (at_ m : Nat) : Int := (H.getB (frame_bitsAt l at_ m)).1
theorem frame_bitsAt_len (l : List Int) (at_ m : Nat) (h : at_ + m ≤ l.length) : (frame_bitsAt l at_ m).length = m := by
 unfold frame_bitsAt; rw [List.length_drop, List.length_take]; omega
set_option maxHeartbeats 1600000 in
set_option maxRecDepth 100000 in
theorem frame_take_short (g : Nat) (A : Option Addr) (n c at_ m : Nat) (w : World) (h : frame_RdAt w g A n c at_) (ha : at_ ≤ n) (hn : n ≤ 1073741824) (hm : m ≤ 1000) (hs : n < at_ + m) :
  Calls Try.prog 68 #[.pointer (some ⟨g, 0, none⟩), .int .i64 (m : Int)] w fun e w' => e = .panicked [{ v := .iface 52 (.int .i64 40), recovered := false }] ∧ w.grownBy w' (some g) := by
 have c0 : w.cell? ⟨g, 0, none⟩ = some (.slice A n c) := (blk_cell h 0).trans rfl
 have c1 : w.cell? ⟨g, 1, none⟩ = some (.int .i64 (at_ : Int)) := (blk_cell h 1).trans rfl
 have q0 : wrap64 ((n : Int) - (at_ : Int)) < (m : Int) := by unfold wrap64; omega
 clear ha hn hm hs
 go_enter Try.func68, Try.ntmps68
 go_wp2_with fail
 go_region
 go_wp2_with fail
 exact ⟨rfl, rfl, frame_grown_drew w _⟩
set_option maxHeartbeats 1600000 in
set_option maxRecDepth 100000 in
theorem frame_take_ok (g : Nat) (A : Option Addr) (l : List Int) (c at_ m : Nat) (w0 w : World) (hg : w0.heap.size ≤ g) (hB : Below w0.heap.size w0 w) (hr : Kd.C (Kd.int .i64) w0 A l.length l) (hc : l.length ≤ c) (h : frame_RdAt w g A l.length c at_) (hn : l.length ≤ 1073741824) (hm : m ≤ 1000) (hs : at_ + m ≤ l.length) :
  Calls Try.prog 68 #[.pointer (some ⟨g, 0, none⟩), .int .i64 (m : Int)] w fun e w' => ∃ A' n' c', e = .returned (.slice A' n' c') ∧ n' = (frame_bitsAt l at_ m).length ∧ (frame_bitsAt l at_ m).length ≤ c' ∧ Kd.C (Kd.int .i64) w' A' (frame_bitsAt l at_ m).length (frame_bitsAt l at_ m) ∧ frame_RdAt w' g A l.length c (at_ + m) ∧ Below w0.heap.size w0 w' ∧ w.grownBy w' (some g) := by
 have c0 : w.cell? ⟨g, 0, none⟩ = some (.slice A l.length c) := (blk_cell h 0).trans rfl
 have c1 : w.cell? ⟨g, 1, none⟩ = some (.int .i64 (at_ : Int)) := (blk_cell h 1).trans rfl
 have f1 : w.frozen? ⟨g, 1, none⟩ = false := blk_frozen h 1
 have b1 := blk_set h 1 (.int .i64 (wrap64 ((at_ : Int) + (m : Int))))
 have d0 : (w.setCell ⟨g, 1, none⟩ (.int .i64 (wrap64 ((at_ : Int) + (m : Int))))).cell? ⟨g, 0, none⟩ = some (.slice A l.length c) := (blk_cell b1 0).trans rfl
 have d1 : (w.setCell ⟨g, 1, none⟩ (.int .i64 (wrap64 ((at_ : Int) + (m : Int))))).cell? ⟨g, 1, none⟩ = some (.int .i64 (wrap64 ((at_ : Int) + (m : Int)))) := (blk_cell b1 1).trans rfl
 have q0 : ¬ wrap64 ((l.length : Int) - (at_ : Int)) < (m : Int) := by unfold wrap64; omega
 have e1 : wrap64 ((at_ : Int) + (m : Int)) = ((at_ + m : Nat) : Int) := by unfold wrap64; omega
 have e2 : wrap64 (wrap64 ((at_ : Int) + (m : Int)) - (m : Int)) = (at_ : Int) := by unfold wrap64; omega
 obtain ⟨i0, hi, hz0, hz1, hz2⟩ := info_parts info3
 have hcut := cut_mid (P := Try.prog) 25 3 .i64 .i64 Try.underlying25 hi 1 hz1 A l.length c (wrap64 (wrap64 ((at_ : Int) + (m : Int)) - (m : Int))) (wrap64 ((at_ : Int) + (m : Int))) (by rw [e2]; omega) (by rw [e2, e1]; omega) (by rw [e1]; omega) hc
 generalize hAe : (if c = (wrap64 (wrap64 ((at_ : Int) + (m : Int)) - (m : Int))).toNat then A else A.map (·.add ((wrap64 (wrap64 ((at_ : Int) + (m : Int)) - (m : Int))).toNat * 1))) = A' at hcut
 have HAE := Aside0.mk hAe
 clear hAe
 have E1 := Aside0.mk e1
 have E2 := Aside0.mk e2
 have HB1 := Aside0.mk b1
 have HR := Aside0.mk hr
 have HC := Aside0.mk hc
 have HB := Aside0.mk hB
 have HG := Aside0.mk hg
 have HS := Aside0.mk hs
 clear hn hm hs e1 e2 b1 hr hc hB hg hi hz0 hz1 hz2 h
 go_enter Try.func68, Try.ntmps68
 go_wp2_with fail
 go_region
 go_wp2_with fail
 go_region
 go_wp2_with fail
 go_ret
 have hbl : Below w0.heap.size w0 (w.setCell ⟨g, 1, none⟩ (.int .i64 (wrap64 ((at_ : Int) + (m : Int))))) := HB.out.setCell (p := ⟨g, 1, none⟩) HG.out _
 have hC := Kd.C_mid (c := c) (Kd.C_below HR.out hbl) (lo := at_) (hi := at_ + m) (by omega) HS.out HC.out
 have hl := frame_bitsAt_len l at_ m HS.out
 have h1 := E1.out
 have h2 := E2.out
 have h3 := HC.out
 have h4 := HS.out
 have hb1 := HB1.out
 have hA := HAE.out
 rw [h2, Int.toNat_natCast, Nat.mul_one] at hA
 have hC' : Kd.C (Kd.int .i64) (w.setCell ⟨g, 1, none⟩ (.int .i64 (wrap64 ((at_ : Int) + (m : Int))))) A' (frame_bitsAt l at_ m).length (frame_bitsAt l at_ m) := by
  rw [← hA]
  have hs : (Kd.int .i64).sz = 1 := rfl
  rw [hs, Nat.mul_one] at hC
  exact hC
 refine ⟨_, _, _, rfl, ?_, ?_, ?_, ?_, ?_, ?_⟩
 ·rw [hl, h2, h1]; omega
 ·rw [hl, h2]; omega
 ·exact Kd.C_drew (Kd.C_drew hC')
 ·rw [h1] at hb1 ⊢; exact hb1
 ·exact below_drew1 (below_drew1 hbl)
 ·exact ⟨rfl, rfl, rfl, by simp [World.setCell, World.drew], fun k _ hk => Below.heap_setCell _ _ _ k (fun e => hk (by rw [e]))⟩

/-! ### frame_reader_number: helper -/
theorem fb_rd_nat (l : List Int) (i : Nat) : rd l (i : Int) = l.getD i 0 := by simp [rd]
theorem fb_rd_drop {l : List Int} {i : Nat} (h : i < l.length) : l.drop i = l.getD i 0 :: l.drop (i + 1) := by
 rw [List.drop_eq_getElem_cons h, List.getD_eq_getElem?_getD, List.getElem?_eq_getElem h]; rfl
theorem fb_rd_mem {l : List Int} {i : Nat} (h : i < l.length) : l.getD i 0 ∈ l := by
 rw [List.getD_eq_getElem?_getD, List.getElem?_eq_getElem h]; exact List.getElem_mem h
theorem fb_shl_bit {b : Int} (hb : b = 0 ∨ b = 1) (n : Nat) (hn : n ≤ 61) : shl .i64 b (n : Int) = b * 2 ^ n := by
 unfold shl
 rw [show min ((n : Int).toNat) IntKind.i64.bits = n by simp [IntKind.bits]; omega]
 rw [IntKind.wrap_i64]
 have hp : (2 : Nat) ^ n ≤ 2 ^ 61 := Nat.pow_le_pow_right (by decide) hn
 have hp' : ((2 : Int) ^ n) ≤ 2305843009213693952 := by
  have : ((2 ^ n : Nat) : Int) ≤ ((2 ^ 61 : Nat) : Int) := by exact_mod_cast hp
  simpa using this
 have := H.pow_pos2 n
 rcases hb with rfl | rfl <;> omega
theorem fb_right_l0 (l : List Int) (hl : l.length ≤ 4611686018427387904) (hw : ∀ x ∈ l, H.W64 x) : ∀ d i : Nat, i + d = l.length → Ev (fun k => bits_Right.l0 k l (l.length : Int) (i : Int)) (H.rightB (l.drop i)) := by
 intro d
 induction d with
 | zero =>
  intro i hi
  refine Ev.step (f := fun _ => some (H.rightB (l.drop i))) (fun k => ?_) (Ev.now _)
  simp only [bits_Right.l0]
  rw [if_neg (by omega), List.drop_eq_nil_of_le (by omega)]; rfl
 | succ d ih =>
  intro i hi
  have hlt : i < l.length := by omega
  have hx := hw _ (fb_rd_mem hlt)
  by_cases hb : H.isBit (l.getD i 0) = true
  ·refine Ev.step (f := fun k => bits_Right.l0 k l (l.length : Int) ((i + 1 : Nat) : Int)) (fun k => ?_) ?_
   ·simp only [bits_Right.l0]
    rw [if_pos (by omega), if_pos (by omega), if_pos (by omega), fb_rd_nat, if_pos ((H.andNot_one hx).mpr hb), H.wrap_succ hlt hl]
   ·have := ih (i + 1) (by omega)
    rw [fb_rd_drop hlt, show H.rightB (l.getD i 0 :: l.drop (i + 1)) = (H.isBit (l.getD i 0) && H.rightB (l.drop (i + 1))) from rfl, hb, Bool.true_and]
    exact this
  ·refine Ev.step (f := fun _ => some (H.rightB (l.drop i))) (fun k => ?_) (Ev.now _)
   simp only [bits_Right.l0]
   rw [if_pos (by omega), if_pos (by omega), if_pos (by omega), fb_rd_nat, if_neg (fun h => hb ((H.andNot_one hx).mp h))]
   rw [fb_rd_drop hlt, show H.rightB (l.getD i 0 :: l.drop (i + 1)) = (H.isBit (l.getD i 0) && H.rightB (l.drop (i + 1))) from rfl, Bool.eq_false_iff.mpr hb]; rfl
theorem fb_right_ev (l : List Int) (hl : l.length ≤ 4611686018427387904) (hw : ∀ x ∈ l, H.W64 x) : Ev (fun k => bits_Right.f k l) (H.rightB l) := by
 have := fb_right_l0 l hl hw l.length 0 (by omega)
 simpa [bits_Right.f] using this
theorem fb_right_k (l : List Int) (hl : l.length ≤ 4611686018427387904) (hw : ∀ x ∈ l, H.W64 x) : ∃ K, ∀ k, K ≤ k → bits_Right.f k l = some (H.rightB l) := fb_right_ev l hl hw
theorem fb_get_l0 (l : List Int) (hr : H.rightB l = true) (hl : l.length ≤ 32) : ∀ d i : Nat, i + d = l.length → Ev (fun k => bits_Get.l0 k (H.valB (l.take i)) l (l.length : Int) (i : Int)) (H.valB l, true) := by
 intro d
 induction d with
 | zero =>
  intro i hi
  refine Ev.step (f := fun _ => some (H.valB l, true)) (fun k => ?_) (Ev.now _)
  simp only [bits_Get.l0]
  rw [if_neg (by omega), List.take_of_length_le (by omega)]
 | succ d ih =>
  intro i hi
  have hlt : i < l.length := by omega
  have hrt : H.rightB (l.take i) = true := by
   have := hr; rw [← List.take_append_drop i l, H.rightB_append, Bool.and_eq_true] at this; exact this.1
  have hv := H.valB_range hrt
  have hp := H.pow32 (m := (l.take i).length) (by rw [List.length_take]; omega)
  have hbit := H.rightB_mem hr _ (fb_rd_mem hlt)
  refine Ev.step (f := fun k => bits_Get.l0 k (H.valB (l.take (i + 1))) l (l.length : Int) ((i + 1 : Nat) : Int)) (fun k => ?_) (ih (i + 1) (by omega))
  simp only [bits_Get.l0]
  rw [if_pos (by omega), if_pos (by omega), if_pos (by omega), fb_rd_nat, H.wrap_succ hlt (by omega), show wrap64 (H.valB (l.take i) * 2) = H.valB (l.take i) * 2 by unfold wrap64; omega, H.or_bit hv.1 (by omega) hbit, H.take_snoc 0 l i hlt, H.valB_snoc]
theorem fb_get_ev (l : List Int) (hl : l.length ≤ 4611686018427387904) (hw : ∀ x ∈ l, H.W64 x) : Ev (fun k => bits_Get.f k l) (H.getB l) := by
 unfold H.getB
 by_cases h1 : 32 < l.length
 ·rw [if_pos h1]
  refine Ev.step (f := fun _ => some ((0 : Int), false)) (fun k => ?_) (Ev.now _)
  simp only [bits_Get.f]
  rw [if_pos (by omega)]
  simp only [bits_Get.j0]; rw [if_pos trivial]
 ·rw [if_neg h1]
  obtain ⟨K, hK⟩ := fb_right_k l hl hw
  by_cases hr : H.rightB l = true
  ·rw [if_pos hr]
   obtain ⟨K2, hK2⟩ := fb_get_l0 l hr (by omega) l.length 0 (by omega)
   refine ⟨K + K2 + 1, fun k hk => ?_⟩
   obtain ⟨k, rfl⟩ : ∃ m, k = m + 1 := ⟨k - 1, by omega⟩
   simp only [bits_Get.f]
   rw [if_neg (by omega), hK _ (by omega), hr]
   simp only [Option.bind_some, Bool.not_true, bits_Get.j0]
   rw [if_neg (by decide)]
   exact hK2 _ (by omega)
  ·rw [if_neg hr]
   refine ⟨K + 1, fun k hk => ?_⟩
   obtain ⟨k, rfl⟩ : ∃ m, k = m + 1 := ⟨k - 1, by omega⟩
   simp only [bits_Get.f]
   rw [if_neg (by omega), hK _ (by omega), Bool.eq_false_iff.mpr hr]
   simp only [Option.bind_some, Bool.not_false, bits_Get.j0]; rw [if_pos trivial]
theorem fb_get_k (l : List Int) (hl : l.length ≤ 4611686018427387904) (hw : ∀ x ∈ l, H.W64 x) : ∃ K, ∀ k, K ≤ k → bits_Get.f k l = some (H.getB l) := fb_get_ev l hl hw
theorem frame_w64 (l : List Int) (hw : ∀ x ∈ l, H.W64 x) (at_ m : Nat) : ∀ x ∈ frame_bitsAt l at_ m, H.W64 x := fun x hx => hw x (List.mem_of_mem_take (List.mem_of_mem_drop hx))
theorem frame_grown_drawn {w w' : World} (h : Drawn0 w w') (row : Option Nat) : w.grownBy w' row := by obtain ⟨⟨n, rfl⟩⟩ := h; exact ⟨rfl, rfl, rfl, Nat.le_refl _, fun _ _ _ => rfl⟩
theorem frame_RdAt_drawn {w w' : World} {g : Nat} {A : Option Addr} {n c at_ : Nat} (h : Drawn0 w w') (k : frame_RdAt w g A n c at_) : frame_RdAt w' g A n c at_ := by obtain ⟨⟨n, rfl⟩⟩ := h; exact k
theorem frame_below_drawn {w0 w w' : World} (h : Drawn0 w w') (k : Below w0.heap.size w0 w) : Below w0.heap.size w0 w' := by obtain ⟨⟨n, rfl⟩⟩ := h; exact pw_below_drewN k n
set_option maxHeartbeats 1600000 in
set_option maxRecDepth 100000 in
theorem frame_number_short (g : Nat) (A : Option Addr) (n c at_ m : Nat) (w : World) (h : frame_RdAt w g A n c at_) (ha : at_ ≤ n) (hn : n ≤ 1073741824) (hm : m ≤ 1000) (hs : n < at_ + m) :
  Calls Try.prog 66 #[.pointer (some ⟨g, 0, none⟩), .int .i64 (m : Int)] w fun e w' => e = .panicked [{ v := .iface 52 (.int .i64 40), recovered := false }] ∧ w.grownBy w' (some g) := by
 have ht := frame_take_short g A n c at_ m w h ha hn hm hs
 have HT := Aside0.mk ht
 clear h ha hn hm hs ht
 go_enter Try.func66, Try.ntmps66
 go_wp2_with fail
 refine HT.out.mono ?_
 rintro e w1 ⟨rfl, hg⟩
 have HG := Aside0.mk hg
 clear hg
 go_wp2_with fail
 exact ⟨rfl, rfl, HG.out⟩
set_option maxHeartbeats 1600000 in
set_option maxRecDepth 100000 in
theorem frame_number_ok (g : Nat) (A : Option Addr) (l : List Int) (c at_ m : Nat) (w0 w : World) (hg : w0.heap.size ≤ g) (hB : Below w0.heap.size w0 w) (hr : Kd.C (Kd.int .i64) w0 A l.length l) (hc : l.length ≤ c) (h : frame_RdAt w g A l.length c at_) (hn : l.length ≤ 1073741824) (hw : ∀ x ∈ l, H.W64 x) (hm : m ≤ 1000) (hs : at_ + m ≤ l.length) :
  Calls Try.prog 66 #[.pointer (some ⟨g, 0, none⟩), .int .i64 (m : Int)] w fun e w' => e = .returned (.int .i64 (frame_numAt l at_ m)) ∧ frame_RdAt w' g A l.length c (at_ + m) ∧ Below w0.heap.size w0 w' ∧ w.grownBy w' (some g) := by
 have ht := frame_take_ok g A l c at_ m w0 w hg hB hr hc h hn hm hs
 have HT := Aside0.mk ht
 have hl := frame_bitsAt_len l at_ m hs
 obtain ⟨K, hK⟩ := fb_get_k (frame_bitsAt l at_ m) (by omega) (frame_w64 l hw at_ m)
 obtain ⟨⟨v, s⟩, hv⟩ : ∃ p, p = H.getB (frame_bitsAt l at_ m) := ⟨_, rfl⟩
 have hk := hK K (Nat.le_refl _)
 rw [← hv] at hk
 have hnv : frame_numAt l at_ m = v := by unfold frame_numAt; rw [← hv]
 rw [hnv]
 have HK := Aside0.mk hk
 clear hk hv hnv
 clear hK hl hg hB hr hc h hn hw hm hs ht
 go_enter Try.func66, Try.ntmps66
 go_wp2_with fail
 refine HT.out.mono ?_
 rintro e w1 ⟨A1, n1, c1, rfl, rfl, hc1, hC1, hR1, hB1, hG1⟩
 have HC1 := Aside0.mk hc1
 have HCC := Aside0.mk hC1
 have HR1 := Aside0.mk hR1
 have HB1 := Aside0.mk hB1
 have HG1 := Aside0.mk hG1
 clear hc1 hC1 hR1 hB1 hG1
 go_wp2_with fail
 refine (bits_Get.calls K A1 c1 (frame_bitsAt l at_ m) _ _ w1 HCC.out HC1.out HK.out).mono ?_
 rintro e w2 ⟨rfl, hd⟩
 have HD := Aside0.mk hd
 clear hd
 go_wp2_with fail
 go_ret
 exact ⟨rfl, frame_RdAt_drawn HD.out HR1.out, frame_below_drawn HD.out HB1.out, HG1.out.trans (frame_grown_drawn HD.out _)⟩

/-! ### frame_reader_must: helper -/
set_option maxHeartbeats 1600000 in
set_option maxRecDepth 100000 in
theorem frame_must_short (g : Nat) (A : Option Addr) (n c at_ : Nat) (b : Int) (w : World) (h : frame_RdAt w g A n c at_) (ha : at_ ≤ n) (hn : n ≤ 1073741824) (hs : n < at_ + 1) :
  Calls Try.prog 65 #[.pointer (some ⟨g, 0, none⟩), .int .i64 b] w fun e w' => e = .panicked [{ v := .iface 52 (.int .i64 40), recovered := false }] ∧ w.grownBy w' (some g) := by
 have ht : Calls Try.prog 66 #[.pointer (some ⟨g, 0, none⟩), .int .i64 1] w _ := frame_number_short g A n c at_ 1 w h ha hn (by omega) hs
 have HT := Aside0.mk ht
 clear h ha hn hs ht
 go_enter Try.func65, Try.ntmps65
 go_wp2_with fail
 refine HT.out.mono ?_
 rintro e w1 ⟨rfl, hg⟩
 have HG := Aside0.mk hg
 clear hg
 go_wp2_with fail
 exact ⟨rfl, rfl, HG.out⟩
set_option maxHeartbeats 1600000 in
set_option maxRecDepth 100000 in
theorem frame_must_wrong (g : Nat) (A : Option Addr) (l : List Int) (c at_ : Nat) (b : Int) (w0 w : World) (hg : w0.heap.size ≤ g) (hB : Below w0.heap.size w0 w) (hr : Kd.C (Kd.int .i64) w0 A l.length l) (hc : l.length ≤ c) (h : frame_RdAt w g A l.length c at_) (hn : l.length ≤ 1073741824) (hw : ∀ x ∈ l, H.W64 x) (hs : at_ + 1 ≤ l.length) (hb : ¬ frame_numAt l at_ 1 = b) :
  Calls Try.prog 65 #[.pointer (some ⟨g, 0, none⟩), .int .i64 b] w fun e w' => e = .panicked [{ v := .iface 52 (.int .i64 42), recovered := false }] ∧ w.grownBy w' (some g) := by
 have ht : Calls Try.prog 66 #[.pointer (some ⟨g, 0, none⟩), .int .i64 1] w _ := frame_number_ok g A l c at_ 1 w0 w hg hB hr hc h hn hw (by omega) hs
 have HT := Aside0.mk ht
 clear hg hB hr hc h hn hw hs ht
 go_enter Try.func65, Try.ntmps65
 go_wp2_with fail
 refine HT.out.mono ?_
 rintro e w1 ⟨rfl, hR, hB, hg⟩
 have HG := Aside0.mk hg
 clear hg hR hB
 go_wp2_with fail
 exact ⟨rfl, rfl, HG.out⟩
set_option maxHeartbeats 1600000 in
set_option maxRecDepth 100000 in
theorem frame_must_ok (g : Nat) (A : Option Addr) (l : List Int) (c at_ : Nat) (b : Int) (w0 w : World) (hg : w0.heap.size ≤ g) (hB : Below w0.heap.size w0 w) (hr : Kd.C (Kd.int .i64) w0 A l.length l) (hc : l.length ≤ c) (h : frame_RdAt w g A l.length c at_) (hn : l.length ≤ 1073741824) (hw : ∀ x ∈ l, H.W64 x) (hs : at_ + 1 ≤ l.length) (hb : frame_numAt l at_ 1 = b) :
  Calls Try.prog 65 #[.pointer (some ⟨g, 0, none⟩), .int .i64 b] w fun e w' => e = .returned (.tuple #[]) ∧ frame_RdAt w' g A l.length c (at_ + 1) ∧ Below w0.heap.size w0 w' ∧ w.grownBy w' (some g) := by
 have ht : Calls Try.prog 66 #[.pointer (some ⟨g, 0, none⟩), .int .i64 1] w _ := frame_number_ok g A l c at_ 1 w0 w hg hB hr hc h hn hw (by omega) hs
 rw [hb] at ht
 have HT := Aside0.mk ht
 clear hg hB hr hc h hn hw hs ht hb
 go_enter Try.func65, Try.ntmps65
 go_wp2_with fail
 refine HT.out.mono ?_
 rintro e w1 ⟨rfl, hR, hB, hg⟩
 have HG := Aside0.mk hg
 have HR := Aside0.mk hR
 have HB := Aside0.mk hB
 clear hg hR hB
 go_wp2_with fail
 first | go_end0 | refine bodyPost_ret (results_none rfl _ _ _) rfl ?_
 exact ⟨rfl, HR.out, HB.out, HG.out⟩

/-! ### bits_Join: function 67 -/
mutual
def bits_Join.j0 : Nat → List Int → Bool → Option (List Int × Bool)
 | 0, _, _ => none
 | k + 1, x0, x15 => if x15 = true then (some (([] : List Int), false)) else (if 0 ≤ (wrap64 ((x0.length : Int) / 8)) then (if (wrap64 ((x0.length : Int) / 8) : Int).toNat ≤ 281474976710656 then (bits_Join.l0 k (List.replicate (wrap64 ((x0.length : Int) / 8) : Int).toNat 0) x0 (x0.length : Int) 0) else (none)) else (none))
def bits_Join.l0 : Nat → List Int → List Int → Int → Int → Option (List Int × Bool)
 | 0, _, _, _, _ => none
 | k + 1, x4, x20, x21, x22 => if x22 < x21 then (if 0 ≤ x22 then (if x22 < (x20.length : Int) then (if 0 ≤ (wrap64 (Int.tdiv x22 8)) then (if (wrap64 (Int.tdiv x22 8)) < (x4.length : Int) then (if 0 ≤ (wrap64 (7 - (Int.tmod x22 8))) then (bits_Join.l0 k (x4.set ((wrap64 (Int.tdiv x22 8)) : Int).toNat (Go.bits .or .u8 (rd x4 (wrap64 (Int.tdiv x22 8))) ((shl .i64 (rd x20 x22) (wrap64 (7 - (Int.tmod x22 8)))) % 256))) x20 x21 (wrap64 (x22 + 1))) else (none)) else (none)) else (none)) else (none)) else (none)) else (some (x4, true))
end
def bits_Join.f (k : Nat) (l0 : List Int) : Option (List Int × Bool) := if ((l0.length : Int) % 8) = 0 then ((bits_Right.f k l0).bind fun t276 => (bits_Join.j0 k l0 (!t276))) else (bits_Join.j0 k l0 true)
theorem bits_Join.mono_l : ∀ k, (∀ y0 y1, LeO (bits_Join.j0 k y0 y1) (bits_Join.j0 (k + 1) y0 y1)) ∧ (∀ y0 y1 y2 y3, LeO (bits_Join.l0 k y0 y1 y2 y3) (bits_Join.l0 (k + 1) y0 y1 y2 y3))
 | 0 => ⟨fun _ _ r h => by simp [bits_Join.j0] at h, fun _ _ _ _ r h => by simp [bits_Join.l0] at h⟩
 | k + 1 => by
  obtain ⟨ih0, ih1⟩ := bits_Join.mono_l k
  refine ⟨?_, ?_⟩
  ·intro y0 y1
   unfold bits_Join.j0
   repeat' first
   | (with_reducible exact ih0 _ _)
   | (with_reducible exact ih1 _ _ _ _)
   | (with_reducible exact bits_Right.mono _ _)
   | (with_reducible exact LeO.refl _)
   | (with_reducible exact LeO.none _)
   | (with_reducible refine LeO.ite ?_ ?_)
   | (with_reducible refine LeO.bind ?_ (fun _ => ?_))
   | exact ih0 _ _
   | exact ih1 _ _ _ _
   | exact bits_Right.mono _ _
   | exact LeO.none _
   | refine LeO.ite ?_ ?_
   | refine LeO.bind ?_ (fun _ => ?_)
  ·intro y0 y1 y2 y3
   unfold bits_Join.l0
   repeat' first
   | (with_reducible exact ih0 _ _)
   | (with_reducible exact ih1 _ _ _ _)
   | (with_reducible exact bits_Right.mono _ _)
   | (with_reducible exact LeO.refl _)
   | (with_reducible exact LeO.none _)
   | (with_reducible refine LeO.ite ?_ ?_)
   | (with_reducible refine LeO.bind ?_ (fun _ => ?_))
   | exact ih0 _ _
   | exact ih1 _ _ _ _
   | exact bits_Right.mono _ _
   | exact LeO.none _
   | refine LeO.ite ?_ ?_
   | refine LeO.bind ?_ (fun _ => ?_)
theorem bits_Join.mono : ∀ a0 k, LeO (bits_Join.f k a0) (bits_Join.f (k + 1) a0) := by
 intro a0 k
 obtain ⟨ih0, ih1⟩ := bits_Join.mono_l k
 unfold bits_Join.f
 repeat' first
   | (with_reducible exact ih0 _ _)
   | (with_reducible exact ih1 _ _ _ _)
   | (with_reducible exact bits_Right.mono _ _)
   | (with_reducible exact LeO.refl _)
   | (with_reducible exact LeO.none _)
   | (with_reducible refine LeO.ite ?_ ?_)
   | (with_reducible refine LeO.bind ?_ (fun _ => ?_))
   | exact ih0 _ _
   | exact ih1 _ _ _ _
   | exact bits_Right.mono _ _
   | exact LeO.none _
   | refine LeO.ite ?_ ?_
   | refine LeO.bind ?_ (fun _ => ?_)
def bits_Join.T7 : Bool × List (List Nat × List Nat) := (true, [([], []), ([], []), ([1], [1]), ([0, 2], [0, 2]), ([3], [3]), ([], []), ([], []), ([6], [6]), ([7], [7]), ([5, 8], [5, 8]), ([9], [9]), ([4, 10], [4, 10]), ([0, 2, 0, 1, 2, 3, 4, 5, 6, 7, 8, 9, 10, 11], [0, 2]), ([12, 11, 0, 1, 2, 3, 4, 5, 6, 7, 8, 9, 10, 11], [11, 12])])
def bits_Join.B7 : List Nat := [0, 0, 2, 7, 15, 0, 0, 64, 192, 480, 992, 2047, 4095, 8191]
theorem bits_Join.tab7 : rtab .any (opsOf Try.f67 7) = bits_Join.T7 := by kernel_rfl
theorem bits_Join.bits7 : waitsOk bits_Join.T7.2 bits_Join.B7 = true := by kernel_rfl
set_option maxHeartbeats 8000000 in
set_option maxRecDepth 100000 in
theorem bits_Join.calls (k : Nat) (A0 : Option Addr) (c0 : Nat) (l0 : List Int) (r1 : List Int) (r2 : Bool) (w : World) (hr0 : Kd.C (Kd.int .i64) w A0 l0.length l0) (hc0 : l0.length ≤ c0) (h : bits_Join.f k l0 = some (r1, r2)) :
  Calls Try.prog 67 #[.slice A0 l0.length c0] w fun e w' => ∃ v0_ : Value, e = .returned (.tuple #[v0_, .bool r2]) ∧ Kd.R (Kd.int .u8) 5 w' w.heap.size (fun _ => True) v0_ r1 ∧ Below w.heap.size w w' := by
 have HR0 := Aside0.mk hr0
 have HC0 := Aside0.mk hc0
 clear hr0 hc0
 have HB := Aside0.mk (Below.refl w.heap.size w)
 have H : (if ((l0.length : Int) % 8) = 0 then ((bits_Right.f k l0).bind fun t276 => (bits_Join.j0 k l0 (!t276))) else (bits_Join.j0 k l0 true)) = some (r1, r2) := h
 clear h
 have HC2 := Aside0.mk H
 clear H
 go_enter Try.func67, Try.ntmps67
 go_upto_region 1 with (fail)
 go_cut [15] (fun v15 wc => ∃ (kq : Nat) (x15_1 : Bool), v15 = .bool x15_1 ∧ Aside0 (bits_Join.j0 kq l0 x15_1 = some (r1, r2)) ∧ Aside0 (kq ≤ k) ∧ Aside0 (Below w.heap.size w wc))
 case first =>
  have H := HC2.out
  clear HC2
  by_cases c3 : ((l0.length : Int) % 8) = 0
  ·rw [if_pos c3] at H
   have c3b0 : (((l0.length : Int) % 8) == 0) = true := beq_iff_eq.mpr c3
   have c3b1 : (((l0.length : Int) % 8) != 0) = false := bne_eq_false_iff_eq.mpr c3
   clear c3
   (first | rw [c3b0] | (simp only [i64_w, i32_w]; rw [c3b0]) | skip)
   replace H := Option.bind_eq_some_iff.mp H
   obtain ⟨t276, A40, H⟩ := H
   replace H : (bits_Join.j0 k l0 (!t276)) = some (r1, r2) := H
   have A4 := Aside0.mk A40
   clear A40
   have H' := Aside0.mk H
   clear H
   go_wp2_with (first | (go_at_call 62; (with_reducible refine (bits_Right.calls k _ _ l0 t276 _ ?side1 ?side2 A4.out).mono ?_); (case side1 => repeat (first | exact (Kd.C_below HR0.out HB.out) | (with_reducible refine Kd.C_alloc ?_ _) | (with_reducible refine Kd.C_drewN ?_ _) | (with_reducible refine Kd.C_drew ?_))); (case side2 => exact HC0.out); rintro e w' ⟨rfl, ⟨nd, rfl⟩⟩))
   go_meet
   case rel => exact ⟨_, (!t276), (by first | rfl | (simp; done) | (simp [*]; done)), H', ⟨by first | omega | exact Nat.le_refl _⟩, ⟨by repeat (first | (with_reducible first | exact HB.out | apply below_alloc | apply pw_below_drewN | apply below_drew1) | exact HB.out)⟩⟩
  ·rw [if_neg c3] at H
   have c3b0 : (((l0.length : Int) % 8) == 0) = false := beq_eq_false_iff_ne.mpr c3
   have c3b1 : (((l0.length : Int) % 8) != 0) = true := bne_iff_ne.mpr c3
   (first | rw [c3b0] | (simp only [i64_w, i32_w]; rw [c3b0]) | skip)
   have H' := Aside0.mk H
   clear H
   go_wp2
   go_meet
   case rel => exact ⟨_, (true), (by first | rfl | (simp; done) | (simp [*]; done)), H', ⟨by first | omega | exact Nat.le_refl _⟩, ⟨by repeat (first | (with_reducible first | exact HB.out | apply below_alloc | apply pw_below_drewN | apply below_drew1) | exact HB.out)⟩⟩
 case rest =>
  clear HC2
  try clear p2
  try clear c3
  try clear c3b0
  try clear c3b1
  obtain ⟨kq, x15_1, rfl, HA, HJ1, HB⟩ := hcut
  cases kq with
  | zero => exact absurd HA.out (by simp [bits_Join.j0])
  | succ kj1 =>
   have H := HA.out
   clear HA
   simp only [bits_Join.j0] at H
   by_cases c5 : x15_1 = true
   ·subst c5
    have H1 : (some (([] : List Int), false)) = some (r1, r2) := by rw [if_pos rfl] at H; exact H
    clear H
    have H := H1
    clear H1
    simp only [Option.some.injEq, Prod.mk.injEq] at H
    obtain ⟨rfl, rfl⟩ := H
    go_wp2
    go_ret2
    exact ⟨_, by first | rfl | (simp [errW_none, errW_some] <;> rfl) | (simp [*, errW_none, errW_some] <;> rfl), by first | exact Kd.R_nil _ _ _ _ _ | exact Kd.N_nil _ _ _ _ _ | exact Kd.V_nil _ _ _ _ _ | exact Kd.Q_nil _ _ _ _ _ | exact Kd.S_nil _ _ _ _ _, by repeat (first | (with_reducible first | exact HB.out | apply below_alloc | apply pw_below_drewN | apply below_drew1) | exact HB.out)⟩
   ·replace c5 := Bool.eq_false_iff.mpr c5
    subst c5
    have H1 : (if 0 ≤ (wrap64 ((l0.length : Int) / 8)) then (if (wrap64 ((l0.length : Int) / 8) : Int).toNat ≤ 281474976710656 then (bits_Join.l0 kj1 (List.replicate (wrap64 ((l0.length : Int) / 8) : Int).toNat 0) l0 (l0.length : Int) 0) else (none)) else (none)) = some (r1, r2) := by rw [if_neg (show ¬ (false = true) by decide)] at H; exact H
    clear H
    have H := H1
    clear H1
    obtain ⟨ji6, hji6⟩ : ∃ j_ : Int, (wrap64 ((l0.length : Int) / 8)) = j_ := ⟨_, rfl⟩
    replace H : (if 0 ≤ (ji6) then (if (ji6 : Int).toNat ≤ 281474976710656 then (bits_Join.l0 kj1 (List.replicate (ji6 : Int).toNat 0) l0 (l0.length : Int) 0) else (none)) else (none)) = some (r1, r2) := by first | (rw [hji6] at H; exact H) | (simp only [hji6] at H ⊢; exact H)
    have hji6w : (IntKind.i64.wrap ((l0.length : Int) / 8)) = ji6 := (i64_w _).trans hji6
    by_cases c7 : 0 ≤ (ji6)
    ·rw [if_pos c7] at H
     have c7b0 := eq_true c7
     have c7b1 : decide (0 ≤ (ji6)) = true := decide_eq_true c7
     have c7m : max (ji6) 0 = (ji6) := by omega
     clear c7
     by_cases c8 : (ji6 : Int).toNat ≤ 281474976710656
     ·rw [if_pos c8] at H
      have c8b0 := eq_true c8
      have c8b1 : decide ((ji6 : Int).toNat ≤ 281474976710656) = true := decide_eq_true c8
      clear c8
      obtain ⟨y277, hy277⟩ : ∃ y_ : List Int, y_ = (List.replicate (ji6 : Int).toNat 0) := ⟨_, rfl⟩
      replace H : (bits_Join.l0 kj1 y277 l0 (l0.length : Int) 0) = some (r1, r2) := by first | (rw [hy277]; with_reducible exact H) | (have H2_ := (Option.bind_some _ _).symm.trans H; rw [hy277]; with_reducible exact H2_) | (have H2_ := (Option.bind_some _ _).symm.trans H; with_reducible exact H2_) | with_reducible exact H | (rw [hy277]; exact H) | exact H
      have Ny277 := Aside0.mk hy277
      clear hy277
      have H' := Aside0.mk H
      clear H
      go_wp2_with (first | ((with_reducible refine gate_dst (N := 19) rfl ?_); refine Kd.R_make (Kd.int .u8) _ 5 rfl (N := 19) rfl 22 _ _ rfl ji6 rfl rfl Try.underlying22 (.int .u8 0) 1 info5 rfl (by decide) (by omega) 0 (ok := fun _ => True) (okp := fun _ => True) rfl (fun _ hk => hk) trivial (of_decide_eq_true (by first | (with_reducible assumption) | assumption)) (Nat.le_trans (Nat.mul_le_mul_right _ (of_decide_eq_true (by first | (with_reducible assumption) | assumption) : ji6.toNat ≤ 281474976710656)) (by omega)) (Below.refl _ _) (Nat.le_refl _) ?_; intro v278 w9 ho10 hb hg_ hnew_; clear hg_ hnew_; (first | rw [← Ny277.out] at ho10 | (simp only [Int.reduceToNat] at ho10; rw [← Ny277.out] at ho10)); have n0_ := Aside0.mk (Kd.R_lower ho10 (below_size (by repeat (first | (with_reducible first | exact HB.out | apply below_alloc | apply pw_below_drewN | apply below_drew1) | exact HB.out)))); have n1_ := Aside0.mk (below_step (by repeat (first | (with_reducible first | exact HB.out | apply below_alloc | apply pw_below_drewN | apply below_drew1) | exact HB.out)) hb); clear HB; have HO279 := n0_; have HB := n1_; clear n0_ n1_; clear hb ho10))
      go_loopg [22] kj1 (fun kq v22 w' => ∃ (x4_2 : List Int) (x22_2 : Int), v22 = .int .i64 x22_2 ∧ Aside0 (bits_Join.l0 kq x4_2 l0 (l0.length : Int) x22_2 = some (r1, r2)) ∧ Aside0 (kq ≤ kj1) ∧ Aside0 (Kd.R (Kd.int .u8) 5 w' w.heap.size (fun _ => True) v278 x4_2) ∧ Aside0 (Below w.heap.size w w'))
      case atStart => exact ⟨(y277), (0), (by first | rfl | (simp; done) | (simp [*]; done)), H', ⟨Nat.le_refl _⟩, ⟨by (with_reducible repeat (first | apply Kd.R_alloc | apply Kd.R_drewN | apply Kd.R_drew)); exact HO279.out⟩, ⟨by repeat (first | (with_reducible first | exact HB.out | apply below_alloc | apply pw_below_drewN | apply below_drew1) | exact HB.out)⟩⟩
      case round =>
       clear H'
       try clear p2
       try clear c3
       try clear c3b0
       try clear c3b1
       try clear c5
       try clear c6
       try clear p6
       try clear c7
       try clear c7b0
       try clear c7b1
       try clear c8
       try clear c8b0
       try clear c8b1
       try clear p2
       obtain ⟨x4_2, x22_2, rfl, HA, HK2, HO_4, HB⟩ := hrel
       cases gk with
       | zero => exact absurd HA.out (by simp [bits_Join.l0])
       | succ k2 =>
        have H := HA.out
        clear HA
        simp only [bits_Join.l0] at H
        by_cases c11 : x22_2 < (l0.length : Int)
        ·rw [if_pos c11] at H
         have c11b0 : decide (x22_2 < (l0.length : Int)) = true := decide_eq_true c11
         clear c11
         by_cases c12 : 0 ≤ x22_2
         ·rw [if_pos c12] at H
          have c12b0 : decide (0 ≤ x22_2) = true := decide_eq_true c12
          clear c12
          by_cases c13 : x22_2 < (l0.length : Int)
          ·rw [if_pos c13] at H
           have c13b0 : decide (x22_2 < (l0.length : Int)) = true := decide_eq_true c13
           clear c13
           obtain ⟨ji14, hji14⟩ : ∃ j_ : Int, (wrap64 (Int.tdiv x22_2 8)) = j_ := ⟨_, rfl⟩
           replace H : (if 0 ≤ (ji14) then (if (ji14) < (x4_2.length : Int) then (if 0 ≤ (wrap64 (7 - (Int.tmod x22_2 8))) then (bits_Join.l0 k2 (x4_2.set ((ji14) : Int).toNat (Go.bits .or .u8 (rd x4_2 (ji14)) ((shl .i64 (rd l0 x22_2) (wrap64 (7 - (Int.tmod x22_2 8)))) % 256))) l0 (l0.length : Int) (wrap64 (x22_2 + 1))) else (none)) else (none)) else (none)) = some (r1, r2) := by first | (rw [hji14] at H; exact H) | (simp only [hji14] at H ⊢; exact H)
           have hji14w : (IntKind.i64.wrap (Int.tdiv x22_2 8)) = ji14 := (i64_w _).trans hji14
           by_cases c15 : 0 ≤ (ji14)
           ·rw [if_pos c15] at H
            have c15b0 : decide (0 ≤ (ji14)) = true := decide_eq_true c15
            clear c15
            by_cases c16 : (ji14) < (x4_2.length : Int)
            ·rw [if_pos c16] at H
             have c16b0 : decide ((ji14) < (x4_2.length : Int)) = true := decide_eq_true c16
             clear c16
             obtain ⟨ji17, hji17⟩ : ∃ j_ : Int, (wrap64 (7 - (Int.tmod x22_2 8))) = j_ := ⟨_, rfl⟩
             replace H : (if 0 ≤ (ji17) then (bits_Join.l0 k2 (x4_2.set ((ji14) : Int).toNat (Go.bits .or .u8 (rd x4_2 (ji14)) ((shl .i64 (rd l0 x22_2) (ji17)) % 256))) l0 (l0.length : Int) (wrap64 (x22_2 + 1))) else (none)) = some (r1, r2) := by first | (rw [hji17] at H; exact H) | (simp only [hji17] at H ⊢; exact H)
             have hji17w : (IntKind.i64.wrap (7 - (Int.tmod x22_2 8))) = ji17 := (i64_w _).trans hji17
             by_cases c18 : 0 ≤ (ji17)
             ·rw [if_pos c18] at H
              have c18b0 := eq_true c18
              have c18b1 : decide (0 ≤ (ji17)) = true := decide_eq_true c18
              have c18m : max (ji17) 0 = (ji17) := by omega
              clear c18
              obtain ⟨ji19, hji19⟩ : ∃ j_ : Int, (shl .i64 (rd l0 x22_2) (ji17)) = j_ := ⟨_, rfl⟩
              replace H : (bits_Join.l0 k2 (x4_2.set ((ji14) : Int).toNat (Go.bits .or .u8 (rd x4_2 (ji14)) ((ji19) % 256))) l0 (l0.length : Int) (wrap64 (x22_2 + 1))) = some (r1, r2) := by first | (rw [hji19] at H; exact H) | (simp only [hji19] at H ⊢; exact H)
              have hji19_ : (IntKind.i64.wrap ((rd l0 x22_2) * 2 ^ min (ji17).toNat 64)) = ji19 := hji19
              have hji19z : (ji17) ≤ 64 → (IntKind.i64.wrap ((rd l0 x22_2) * 2 ^ (ji17).toNat)) = ji19 := shl_small hji19
              have hji19y : (wrap64 ((rd l0 x22_2) * 2 ^ min (ji17).toNat 64)) = ji19 := (i64_w _).symm.trans hji19_
              have hji19x : (ji17) ≤ 64 → (wrap64 ((rd l0 x22_2) * 2 ^ (ji17).toNat)) = ji19 := fun h_ => (i64_w _).symm.trans (hji19z h_)
              obtain ⟨y282, hy282⟩ : ∃ y_ : List Int, y_ = (x4_2.set ((ji14) : Int).toNat (Go.bits .or .u8 (rd x4_2 (ji14)) ((ji19) % 256))) := ⟨_, rfl⟩
              replace H : (bits_Join.l0 k2 y282 l0 (l0.length : Int) (wrap64 (x22_2 + 1))) = some (r1, r2) := by first | (rw [hy282]; with_reducible exact H) | (have H2_ := (Option.bind_some _ _).symm.trans H; rw [hy282]; with_reducible exact H2_) | (have H2_ := (Option.bind_some _ _).symm.trans H; with_reducible exact H2_) | with_reducible exact H | (rw [hy282]; exact H) | exact H
              have Ny282 := Aside0.mk hy282
              clear hy282
              have H' := Aside0.mk H
              clear H
              have p280 : 0 ≤ (x22_2 : Int) := of_decide_eq_true (by first | (with_reducible assumption) | assumption)
              have q280 : x22_2 < (l0.length : Int) := of_decide_eq_true (by first | (with_reducible assumption) | assumption)
              obtain ⟨ad280, e280, hx280_0⟩ := Kd.at_int HR0.out x22_2 p280 q280
              cases e280
              replace hx280_0 := (HB.out.cell (World.block_lt_of_cell? w _ hx280_0)).trans hx280_0
              replace p280 := eq_true p280
              replace q280 := eq_true q280
              try go_wp2
              have n0_ := Aside0.mk (Kd.R_drew HO_4.out)
              have n1_ := Aside0.mk (below_drew1 HB.out)
              clear HO_4
              clear HB
              have HO_4 := n0_
              have HB := n1_
              clear n0_ n1_
              obtain ⟨Ao22, co22, eo22⟩ := Kd.R_slice HO_4.out
              (first | subst eo22 | (injection eo22 with f1_ f2_ f3_; have f4_ := f1_.symm; have f5_ := f3_.symm; clear f1_ f2_ f3_; subst f4_; subst f5_))
              have p281 : 0 ≤ ((ji14) : Int) := of_decide_eq_true (by first | (with_reducible assumption) | assumption)
              have q281 : (ji14) < (x4_2.length : Int) := of_decide_eq_true (by first | (with_reducible assumption) | assumption)
              obtain ⟨ad281, e281, hx281_0⟩ := Kd.at_int (Kd.R_reads' HO_4.out).2.2 (ji14) p281 q281
              cases e281
              replace p281 := eq_true p281
              replace q281 := eq_true q281
              have p20 : 0 ≤ ((ji14) : Int) := of_decide_eq_true (by first | (with_reducible assumption) | assumption)
              have q20 : ((ji14) : Int) < ((x4_2.length : Int) : Int) := of_decide_eq_true (by first | (with_reducible assumption) | assumption)
              obtain ⟨go20, co20, eo20, gb20, gl20, cl20, HG20⟩ := Kd.R_form HO_4.out (by omega)
              (first | cases eo20 | (injection eo20 with ea_ en_ ec_; (first | subst ea_ | (injection ea_ with ea_; subst ea_)); subst ec_; clear en_))
              have GB20 := Aside0.mk gb20
              have GG20 := Aside0.mk HG20
              clear gb20 gl20 HG20
              (first | simp only [add_plain] at hx281_0 | skip)
              obtain ⟨hx20_0, hf20_0⟩ := Kd.R_celln 0 HO_4.out ((ji14) : Int) p20 q20
              replace p20 := eq_true p20
              replace q20 := eq_true q20
              have HP23 := Kd.R_putn HO_4.out ((ji14) : Int) (Go.bits .or .u8 (rd x4_2 (ji14)) ((ji19) % 256))
              rw [← Ny282.out] at HP23
              have HQ23 := Aside0.mk HP23
              clear HP23
              refine start_ (n := 14) (S := fun w' => w'.cell? ⟨go20, ((ji14)).toNat, none⟩ = some (.int .u8 (rd x4_2 (ji14)))) (ds := [13]) #[false, false, false, false, false, false, false, false, false, false, false, false, false, false] (by kernel_rfl) rfl rfl (hx281_0) (fun hHeld => ?_); refine with_tabW bits_Join.tab7 bits_Join.bits7 (fun HT_ HW_ => ?_)
              generalize wr.drew = w21 at HO_4 HB GG20 HQ23 hf20_0 hx20_0 hx281_0 hHeld ⊢
              refine pure_ (i := 0) (N := some 27) (v := ?_) (a' := ?_) #[true, false, false, false, false, false, false, false, false, false, false, false, false, false] rfl rfl (any_of HT_.out (by kernel_rfl)) (fun _ _ _ h => h) (Or.inl ⟨by rfl, ?_⟩) ?_ ?_
              rotate_left
              ·intro w'
               go_simp
               with_reducible rfl
              rotate_left
              ·simp only [Act.put, HW.LA, HW.LZ, HW.LS, i64_w, i32_w]
               rfl
              refine pure_ (i := 1) (N := some 28) (v := ?_) (a' := ?_) #[true, true, false, false, false, false, false, false, false, false, false, false, false, false] rfl rfl (any_of HT_.out (by kernel_rfl)) (fun _ _ _ h => h) (Or.inl ⟨by rfl, ?_⟩) ?_ ?_
              rotate_left
              ·intro w'
               go_simp
               with_reducible rfl
              rotate_left
              ·simp only [Act.put, HW.LA, HW.LZ, HW.LS, i64_w, i32_w]
               rfl
              refine pure_ (i := 2) (N := some 29) (v := ?_) (a' := ?_) #[true, true, true, false, false, false, false, false, false, false, false, false, false, false] rfl rfl (any_of HT_.out (by kernel_rfl)) (fun _ _ _ h => h) (Or.inl ⟨by rfl, ?_⟩) ?_ ?_
              rotate_left
              ·intro w'
               go_simp
               with_reducible rfl
              rotate_left
              ·simp only [Act.put, HW.LA, HW.LZ, HW.LS, i64_w, i32_w]
               rfl
              refine pure_ (i := 3) (N := some 30) (v := ?_) (a' := ?_) #[true, true, true, true, false, false, false, false, false, false, false, false, false, false] rfl rfl (any_of HT_.out (by kernel_rfl)) (fun _ _ _ h => h) (Or.inl ⟨by rfl, ?_⟩) ?_ ?_
              rotate_left
              ·intro w'
               go_simp
               with_reducible rfl
              rotate_left
              ·simp only [Act.put, HW.LA, HW.LZ, HW.LS, i64_w, i32_w]
               rfl
              refine pure_ (i := 5) (N := some 32) (v := ?_) (a' := ?_) #[true, true, true, true, false, true, false, false, false, false, false, false, false, false] rfl rfl (any_of HT_.out (by kernel_rfl)) (fun _ _ _ h => h) (Or.inl ⟨by rfl, ?_⟩) ?_ ?_
              rotate_left
              ·intro w'
               go_simp
               with_reducible rfl
              rotate_left
              ·simp only [Act.put, HW.LA, HW.LZ, HW.LS, i64_w, i32_w]
               rfl
              refine pure_ (i := 6) (N := some 33) (v := ?_) (a' := ?_) #[true, true, true, true, false, true, true, false, false, false, false, false, false, false] rfl rfl (any_of HT_.out (by kernel_rfl)) (fun _ _ _ h => h) (Or.inl ⟨by rfl, ?_⟩) ?_ ?_
              rotate_left
              ·intro w'
               go_simp
               with_reducible rfl
              rotate_left
              ·simp only [Act.put, HW.LA, HW.LZ, HW.LS, i64_w, i32_w]
               rfl
              refine pure_ (i := 7) (N := some 34) (v := ?_) (a' := ?_) #[true, true, true, true, false, true, true, true, false, false, false, false, false, false] rfl rfl (any_of HT_.out (by kernel_rfl)) (fun _ _ _ h => h) (Or.inl ⟨by rfl, ?_⟩) ?_ ?_
              rotate_left
              ·intro w'
               go_simp
               with_reducible rfl
              rotate_left
              ·simp only [Act.put, HW.LA, HW.LZ, HW.LS, i64_w, i32_w]
               rfl
              refine pure_ (i := 8) (N := some 35) (v := ?_) (a' := ?_) #[true, true, true, true, false, true, true, true, true, false, false, false, false, false] rfl rfl (any_of HT_.out (by kernel_rfl)) (fun _ _ _ h => h) (Or.inl ⟨by rfl, ?_⟩) ?_ ?_
              rotate_left
              ·intro w'
               go_simp
               with_reducible rfl
              rotate_left
              ·simp only [Act.put, HW.LA, HW.LZ, HW.LS, i64_w, i32_w]
               rfl
              refine pure_ (i := 9) (N := some 36) (v := ?_) (a' := ?_) #[true, true, true, true, false, true, true, true, true, true, false, false, false, false] rfl rfl (any_of HT_.out (by kernel_rfl)) (fun _ _ _ h => h) (Or.inl ⟨by rfl, ?_⟩) ?_ ?_
              rotate_left
              ·intro w'
               go_simp
               with_reducible rfl
              rotate_left
              ·simp only [Act.put, HW.LA, HW.LZ, HW.LS, i64_w, i32_w]
               rfl
              refine pure_ (i := 10) (N := some 37) (v := ?_) (a' := ?_) #[true, true, true, true, false, true, true, true, true, true, true, false, false, false] rfl rfl (any_of HT_.out (by kernel_rfl)) (fun _ _ _ h => h) (Or.inl ⟨by rfl, ?_⟩) ?_ ?_
              rotate_left
              ·intro w'
               go_simp
               with_reducible rfl
              rotate_left
              ·simp only [Act.put, HW.LA, HW.LZ, HW.LS, i64_w, i32_w]
               rfl
              refine take_ (i := 4) (N := some 31) (v := ?_) (a' := ?_) #[true, true, true, true, true, true, true, true, true, true, true, false, false, false] rfl rfl (take_ofW HT_.out HW_.out (by kernel_rfl)) (fun _ _ _ h => h) (Or.inl ⟨by rfl, ?_⟩) hHeld ?_ ?_
              rotate_left
              ·intro w' s0
               go_simp
               with_reducible rfl
              rotate_left
              ·simp only [Act.put, HW.LA, HW.LZ, HW.LS, i64_w, i32_w]
               rfl
              refine pure_ (i := 11) (N := some 38) (v := ?_) (a' := ?_) #[true, true, true, true, true, true, true, true, true, true, true, true, false, false] rfl rfl (any_of HT_.out (by kernel_rfl)) (fun _ _ _ h => h) (Or.inl ⟨by rfl, ?_⟩) ?_ ?_
              rotate_left
              ·intro w'
               go_simp
               with_reducible rfl
              rotate_left
              ·simp only [Act.put, HW.LA, HW.LZ, HW.LS, i64_w, i32_w]
               rfl
              refine pure_ (i := 12) (N := some 39) (v := ?_) (a' := ?_) #[true, true, true, true, true, true, true, true, true, true, true, true, true, false] rfl rfl (any_of HT_.out (by kernel_rfl)) (fun _ _ _ h => h) (Or.inl ⟨by rfl, ?_⟩) ?_ ?_
              rotate_left
              ·intro w'
               go_simp
               with_reducible rfl
              rotate_left
              ·simp only [Act.put, HW.LA, HW.LZ, HW.LS, i64_w, i32_w]
               rfl
              refine last_ (i := 13) (N := none) #[true, true, true, true, true, true, true, true, true, true, true, true, true, true] rfl rfl (one_of HT_.out (by kernel_rfl)) (by decide) (fun K hK => ?_)
              refine skip_ (w1 := ?_) (by rfl) rfl ?_ ?_
              rotate_left
              ·go_simp
               rfl
              refine hK.out _ _ ?_
              clear hK K
              refine done_ (done_of HT_.out (by kernel_rfl)) ?_
              try go_wp2
              go_roundg k2
              case measure => have := HJ1.out; have := HK2.out; omega
              case rel => exact ⟨(y282), (wrap64 (x22_2 + 1)), (by first | rfl | (simp; done) | (simp [*]; done)), H', ⟨by have := HJ1.out; have := HK2.out; omega⟩, ⟨by (with_reducible repeat (first | apply Kd.R_alloc | apply Kd.R_drewN | apply Kd.R_drew)); exact HQ23.out⟩, ⟨by repeat (first | (with_reducible first | exact HB.out | apply below_alloc | apply pw_below_drewN | apply below_drew1 | refine below_set ?_ GB20.out) | exact HB.out)⟩⟩
             ·rw [if_neg c18] at H
              exact absurd H (by simp)
            ·rw [if_neg c16] at H
             exact absurd H (by simp)
           ·rw [if_neg c15] at H
            exact absurd H (by simp)
          ·exfalso; (try simp only [decide_eq_true_eq, decide_eq_false_iff_not, beq_iff_eq, beq_eq_false_iff_ne, ne_eq] at c11b0); omega
         ·rw [if_neg c12] at H
          exact absurd H (by simp)
        ·rw [if_neg c11] at H
         have c11b0 : decide (x22_2 < (l0.length : Int)) = false := decide_eq_false c11
         clear c11
         simp only [Option.some.injEq, Prod.mk.injEq] at H
         obtain ⟨rfl, rfl⟩ := H
         go_wp2
         go_ret2
         exact ⟨_, by first | rfl | (simp [errW_none, errW_some] <;> rfl) | (simp only [← hji6]; first | rfl | (simp [errW_none, errW_some] <;> rfl)) | (simp [*, errW_none, errW_some] <;> rfl), by (with_reducible repeat (first | apply Kd.R_alloc | apply Kd.R_drewN | apply Kd.R_drew)); exact HO_4.out, by repeat (first | (with_reducible first | exact HB.out | apply below_alloc | apply pw_below_drewN | apply below_drew1) | exact HB.out)⟩
     ·rw [if_neg c8] at H
      exact absurd H (by simp)
    ·rw [if_neg c7] at H
     exact absurd H (by simp)

end Go.Proofs.Ythgeekcobmhbfaa.Px

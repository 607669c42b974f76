/- Rows of bits that differ only within 15 places one behind the other have unlike sums. -/
import Derived.Test.YtonffeckadmlcaaPx4
import Derived.Test.YtonffeckadmlcaaPureHead02
import Derived.Test.YtonffeckadmlcaaPureCrcXor
set_option linter.unusedVariables false
namespace Go.Proofs.Ytonffeckadmlcaa.Pure
open Go.RowKit Go.Proofs.Ytonffeckadmlcaa.PB Go.Proofs.Ytonffeckadmlcaa.Px Go.Proofs.YtonffeckadmlcaaW.PrintWords Go.Proofs.YtonffeckadmlcaaW.PrintLast Go.Proofs.YtonffeckadmlcaaW.PrintMore
/-- The bit that is put to place j of the burst. -/
def burst (x : Int) (j : Nat) (b : Int) : Int := Go.bits .xor .i64 b (Go.bits .and .i64 (shr .i64 (wrap64 x) (j : Int)) 1)
theorem burst_bit (w : Nat) (hw : w < 65536) {j : Nat} (hj : j ≤ 62) {b : Int} (hb : b = 0 ∨ b = 1) : burst (w : Int) j b = if (H.isOne b ^^ w.testBit j) then 1 else 0 := by
  have e : shr .i64 (wrap64 (w : Int)) (j : Int) = (w : Int) / 2 ^ j := by
    unfold shr
    rw [show min ((j : Int).toNat) IntKind.i64.bits = j by simp [IntKind.bits]; omega, show wrap64 (w : Int) = (w : Int) by unfold wrap64; omega]
  unfold burst
  rw [e, H.and_one]
  have hb2 := isOne_bit w j
  have e2 : ((w : Int) / 2 ^ j % 2) = ((w / 2 ^ j % 2 : Nat) : Int) := by push_cast; rfl
  rw [← hb2, e2]
  rcases Nat.mod_two_eq_zero_or_one (w / 2 ^ j) with h | h <;> rw [h] <;> rcases hb with rfl | rfl <;> rfl
theorem burst_range {w : Nat} (hw : w < 65536) {j : Nat} (hj : j ≤ 62) {b : Int} (hb : b = 0 ∨ b = 1) : burst (w : Int) j b = 0 ∨ burst (w : Int) j b = 1 := by
  rw [burst_bit w hw hj hb]; split <;> simp
theorem burst_isOne {w : Nat} (hw : w < 65536) {j : Nat} (hj : j ≤ 62) {b : Int} (hb : b = 0 ∨ b = 1) : H.isOne (burst (w : Int) j b) = (H.isOne b ^^ w.testBit j) := by
  rw [burst_bit w hw hj hb]
  cases H.isOne b ^^ w.testBit j <;> rfl
theorem bit_getD {l : List Int} (hr : H.rightB l = true) (j : Nat) : l.getD j 0 = 0 ∨ l.getD j 0 = 1 := by
  by_cases h : j < l.length
  · exact H.rightB_mem hr _ (rd_mem h)
  · left; rw [List.getD_eq_getElem?_getD, List.getElem?_eq_none (by omega)]; rfl
theorem atTop_cancel (n : Nat) (a b : Bool) : H.atTop n (a ^^ b) ^^^ H.atTop n a = H.atTop n b := by
  rw [← atTop_xor]; cases a <;> cases b <;> rfl
theorem burst_ne {l : List Int} (hr : H.rightB l = true) {k w : Nat} (hk : k + 15 ≤ l.length) (hw : w < 65536) (h0 : w % 32768 ≠ 0) : H.crcB (pat (burst (w : Int)) k 15 l) ≠ H.crcB l := by
  have hr1 : H.rightB (l.take k) = true := H.rightB_of fun x hx => H.rightB_mem hr x (List.mem_of_mem_take hx)
  have hr2 : H.rightB (l.drop (k + 15)) = true := H.rightB_of fun x hx => H.rightB_mem hr x (List.mem_of_mem_drop hx)
  have hr3 : H.rightB ((List.range 15).map fun j => burst (w : Int) j (l.getD (k + j) 0)) = true := H.rightB_of fun x hx => by
    obtain ⟨j, hj, rfl⟩ := List.mem_map.mp hx
    rw [List.mem_range] at hj
    exact burst_range hw (by omega) (bit_getD hr _)
  have hrp : H.rightB (pat (burst (w : Int)) k 15 l) = true := by
    unfold pat; rw [H.rightB_append, H.rightB_append, hr1, hr2, hr3]; rfl
  have hl := pat_id (k := k) (l := l) 15 (by omega)
  rw [H.crcB_fold hrp]
  conv => rhs; rw [H.crcB_fold hr, ← hl]
  unfold pat
  rw [tops_append, tops_append, tops_append, tops_append]
  refine H.fold_mid_ne H.lin15 H.one15 _ _ _ _ _ (by rw [tops_length, tops_length, List.length_map, List.length_map]) ?_
  have hz : List.zipWith (· ^^^ ·) (H.tops 15 ((List.range 15).map fun j => burst (w : Int) j (l.getD (k + j) 0))) (H.tops 15 ((List.range 15).map fun j => l.getD (k + j) 0)) = ((List.range 15).map fun j => w.testBit j).map (H.atTop 15) := by
    unfold H.tops
    rw [List.map_map, List.map_map, List.map_map, List.map_map, zip_map, List.map_map]
    refine List.map_congr_left fun j hj => ?_
    rw [List.mem_range] at hj
    show H.atTop 15 (H.isOne (burst (w : Int) j (l.getD (k + j) 0))) ^^^ H.atTop 15 (H.isOne (l.getD (k + j) 0)) = H.atTop 15 (w.testBit j)
    rw [burst_isOne hw (by omega) (bit_getD hr _), atTop_cancel]
  rw [hz, H.fold_top H.P15 _ _ (by rw [List.length_map, List.length_range]; exact Nat.le_refl _), BitVec.zero_xor]
  intro he
  have ht := H.iter_one H.one15 _ _ he
  have hall := H.top_zero (by decide) _ (by rw [List.length_map, List.length_range]; exact Nat.le_refl _) ht
  apply h0
  apply Nat.eq_of_testBit_eq
  intro j
  rw [show (32768 : Nat) = 2 ^ 15 from rfl, Nat.testBit_mod_two_pow, Nat.zero_testBit]
  by_cases hj : j < 15
  · rw [hall (w.testBit j) (List.mem_map.mpr ⟨j, List.mem_range.mpr hj, rfl⟩)]; simp
  · simp [hj]
theorem burst_l0 (l : List Int) (hr : H.rightB l = true) (w k0 : Nat) (hw : w < 65536) (h0 : w % 32768 ≠ 0) (hk : k0 + 15 ≤ l.length) (hl : l.length ≤ 2000) : ∀ d i : Nat, i + d = 15 → Ev (fun k => phaetonlaw02_CrcBurst.l0 k l (w : Int) true (pat (burst (w : Int)) k0 i l) (k0 : Int) (i : Int)) true := by
  intro d
  induction d with
  | zero =>
    intro i hi
    obtain rfl : i = 15 := by omega
    refine Ev.step (f := fun _ => some true) (fun k => ?_) (Ev.now _)
    rw [phaetonlaw02_CrcBurst.l0.eq_2, if_neg (by omega), if_pos rfl, crcBits_eq, Option.bind_some, crcBits_eq, Option.bind_some, if_neg (fun h => burst_ne hr hk hw h0 (toNat_inj h))]
  | succ d ih =>
    intro i hi
    have hp := pat_length (burst (w : Int)) (k := k0) (c := i) (l := l) (by omega)
    have e1 : wrap64 ((k0 : Int) + (i : Int)) = ((k0 + i : Nat) : Int) := by unfold wrap64; omega
    refine Ev.step (f := fun k => phaetonlaw02_CrcBurst.l0 k l (w : Int) true (pat (burst (w : Int)) k0 (i + 1) l) (k0 : Int) ((i + 1 : Nat) : Int)) (fun k => ?_) (ih (i + 1) (by omega))
    rw [phaetonlaw02_CrcBurst.l0.eq_2, e1, if_pos (by omega), if_pos (by omega), if_pos (by omega), if_pos (by omega), Int.toNat_natCast, rd_nat, pat_at _ (by omega), H.wrap_succ (n := 15) (by omega) (by omega)]
    exact congrArg (fun m => phaetonlaw02_CrcBurst.l0 k l (w : Int) true m (k0 : Int) ((i + 1 : Nat) : Int)) (pat_succ (burst (w : Int)) (by omega))
theorem CrcBurst : phaetonlaw02_CrcBurst.Pure := by
  intro l a1 a2 _ hl hwl h1 h2
  obtain ⟨u0, u1⟩ := H.of_wfu16 h1
  obtain ⟨v0, v1⟩ := H.of_wfu16 h2
  obtain ⟨n, rfl⟩ := Int.eq_ofNat_of_zero_le u0
  obtain ⟨w, rfl⟩ := Int.eq_ofNat_of_zero_le v0
  obtain ⟨K0, hh⟩ := head02_k
  have out : ∀ k, phaetonlaw02_CrcBurst.j0 (k + 1) l (n : Int) (w : Int) true true = some true := fun k => by rw [phaetonlaw02_CrcBurst.j0.eq_2, if_pos rfl, if_pos rfl]
  by_cases c1 : (l.length : Int) > 2000
  · refine ⟨K0 + 1, ?_⟩; unfold phaetonlaw02_CrcBurst.f; rw [hh _ (by omega), Option.bind_some, if_pos c1, out]
  by_cases c2 : (l.length : Int) < 15
  · refine ⟨K0 + 1, ?_⟩; unfold phaetonlaw02_CrcBurst.f; rw [hh _ (by omega), Option.bind_some, if_neg c1, if_pos c2, out]
  obtain ⟨K1, k1⟩ := rright_k l (by omega)
  cases hr : H.rightB l with
  | false =>
    rw [hr] at k1
    refine ⟨K0 + K1 + 1, ?_⟩
    unfold phaetonlaw02_CrcBurst.f
    rw [hh _ (by omega), Option.bind_some, if_neg c1, if_neg c2, k1 _ (by omega), Option.bind_some, if_neg (by decide), out]
  | true =>
    rw [hr] at k1
    by_cases c3 : w % 32768 = 0
    · have hb : (Int.tmod (w : Int) 32768 == 0) = true := by rw [Int.tmod_eq_emod_of_nonneg (by omega), beq_iff_eq]; omega
      refine ⟨K0 + K1 + 1, ?_⟩
      unfold phaetonlaw02_CrcBurst.f
      rw [hh _ (by omega), Option.bind_some, if_neg c1, if_neg c2, k1 _ (by omega), Option.bind_some, if_pos rfl, hb, out]
    · have hb : (Int.tmod (w : Int) 32768 == 0) = false := by rw [Int.tmod_eq_emod_of_nonneg (by omega), beq_eq_false_iff_ne]; omega
      have e1 : wrap64 ((l.length : Int) - 14) = ((l.length - 14 : Nat) : Int) := by unfold wrap64; omega
      have e2 : Int.tmod (wrap64 (n : Int)) ((l.length - 14 : Nat) : Int) = ((n % (l.length - 14) : Nat) : Int) := by
        rw [show wrap64 (n : Int) = (n : Int) by unfold wrap64; omega, Int.tmod_eq_emod_of_nonneg (by omega)]; rfl
      have hlt : n % (l.length - 14) < l.length - 14 := Nat.mod_lt _ (by omega)
      obtain ⟨K2, k2⟩ := burst_l0 l hr w (n % (l.length - 14)) (by omega) c3 (by omega) (by omega) 15 0 (by omega)
      rw [show ((0 : Nat) : Int) = 0 from rfl] at k2
      refine ⟨K0 + K1 + K2 + 1, ?_⟩
      unfold phaetonlaw02_CrcBurst.f
      rw [hh _ (by omega), Option.bind_some, if_neg c1, if_neg c2, k1 _ (by omega), Option.bind_some, if_pos rfl, hb, phaetonlaw02_CrcBurst.j0.eq_2, if_neg (by decide), Option.bind_some, List.length_nil, if_pos (by omega), List.nil_append, e1, if_neg (by omega), e2]
      have := k2 (K0 + K1 + K2) (by omega)
      rw [pat_zero] at this
      exact this
end Go.Proofs.Ytonffeckadmlcaa.Pure

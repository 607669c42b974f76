/- Bytes of which one differs have unlike sums of 8 bits; of which four, one behind the other, do, unlike ones of 32. -/
import Derived.Test.YtonffeckadmlcaaPx5
import Derived.Test.YtonffeckadmlcaaPureHead02
import Derived.Test.YtonffeckadmlcaaPureCrcXor
set_option linter.unusedVariables false
namespace Go.Proofs.Ytonffeckadmlcaa.Pure
open Go.RowKit Go.Proofs.Ytonffeckadmlcaa.PB Go.Proofs.Ytonffeckadmlcaa.Px Go.Proofs.YtonffeckadmlcaaW.PrintWords Go.Proofs.YtonffeckadmlcaaW.PrintLast Go.Proofs.YtonffeckadmlcaaW.PrintMore
/-- The byte that is put to place j of the four. -/
def four (w : Int) (j : Nat) (b : Int) : Int := Go.bits .xor .u8 b (shr .u32 w (wrap64 (8 * (j : Int))) % 256)
theorem four_eq (w : Nat) {j : Nat} (hj : j < 4) (b : Int) : four (w : Int) j b = Go.bits .xor .u8 b ((w / 2 ^ (8 * j) % 256 : Nat) : Int) := by
  unfold four shr
  rw [show wrap64 (8 * (j : Int)) = ((8 * j : Nat) : Int) by unfold wrap64; omega, show min (((8 * j : Nat) : Int).toNat) IntKind.u32.bits = 8 * j by simp [IntKind.bits]; omega]
  have e1 : ((w / 2 ^ (8 * j) : Nat) : Int) = (w : Int) / 2 ^ (8 * j) := by push_cast; rfl
  rw [← e1]
  rfl
theorem nat_U8 (m : Nat) : H.U8 ((m % 256 : Nat) : Int) := by unfold H.U8; omega
theorem byte_getD {l : List Int} (hr : ∀ x ∈ l, H.U8 x) (j : Nat) : H.U8 (l.getD j 0) := by
  by_cases h : j < l.length
  · exact hr _ (rd_mem h)
  · rw [List.getD_eq_getElem?_getD, List.getElem?_eq_none (by omega)]; unfold H.U8; simp
theorem ofNat_zero {m : Nat} (hm : m < 4294967296) (h : BitVec.ofNat 32 m = 0#32) : m = 0 := by
  have := congrArg BitVec.toNat h
  rw [BitVec.toNat_ofNat] at this
  simp at this; omega
theorem four_ne {l : List Int} (hr : ∀ x ∈ l, H.U8 x) {k w : Nat} (hk : k + 4 ≤ l.length) (hw : w < 4294967296) (h0 : w ≠ 0) : H.moreW 0 (pat (four (w : Int)) k 4 l) ≠ H.moreW 0 l := by
  have hl := pat_id (k := k) (l := l) 4 (by omega)
  rw [moreW_eq]
  conv => rhs; rw [moreW_eq, ← hl]
  intro he
  revert he
  intro he
  have he2 := not_inj he
  revert he2
  unfold pat H.bytes32
  rw [List.map_append, List.map_append, List.map_append, List.map_append]
  refine H.fold_mid_ne H.linW H.oneW8 _ _ _ _ _ (by rw [List.length_map, List.length_map, List.length_map, List.length_map]) ?_
  have hz : List.zipWith (· ^^^ ·) (((List.range 4).map fun j => four (w : Int) j (l.getD (k + j) 0)).map (BitVec.ofInt 32)) (((List.range 4).map fun j => l.getD (k + j) 0).map (BitVec.ofInt 32)) = (List.range 4).map fun j => BitVec.ofInt 32 ((w / 2 ^ (8 * j) % 256 : Nat) : Int) := by
    rw [List.map_map, List.map_map, zip_map]
    refine List.map_congr_left fun j hj => ?_
    rw [List.mem_range] at hj
    show BitVec.ofInt 32 (four (w : Int) j (l.getD (k + j) 0)) ^^^ BitVec.ofInt 32 (l.getD (k + j) 0) = _
    rw [four_eq w hj, ofInt_xor (byte_getD hr _) (nat_U8 _), BitVec.xor_comm (BitVec.ofInt 32 (l.getD (k + j) 0)), BitVec.xor_assoc, BitVec.xor_self, BitVec.xor_zero]
  rw [hz]
  intro hf
  have h4 : (List.range 4).map (fun j => BitVec.ofInt 32 ((w / 2 ^ (8 * j) % 256 : Nat) : Int)) = [BitVec.ofInt 32 ((w / 2 ^ (8 * 0) % 256 : Nat) : Int), BitVec.ofInt 32 ((w / 2 ^ (8 * 1) % 256 : Nat) : Int), BitVec.ofInt 32 ((w / 2 ^ (8 * 2) % 256 : Nat) : Int), BitVec.ofInt 32 ((w / 2 ^ (8 * 3) % 256 : Nat) : Int)] := rfl
  rw [h4] at hf
  obtain ⟨z0, z1, z2, z3⟩ := H.four_zero (H.low_byte (nat_U8 _)) (H.low_byte (nat_U8 _)) (H.low_byte (nat_U8 _)) (H.low_byte (nat_U8 _)) hf
  rw [H.ofInt_nat] at z0 z1 z2 z3
  have y0 := ofNat_zero (by omega) z0
  have y1 := ofNat_zero (by omega) z1
  have y2 := ofNat_zero (by omega) z2
  have y3 := ofNat_zero (by omega) z3
  apply h0
  clear hf h4 hz he z0 z1 z2 z3 hl
  omega
/-- The byte that is put to the one place. -/
def lone (w : Nat) (_ : Nat) (b : Int) : Int := Go.bits .xor .u8 b (((w % 255 + 1) % 256 : Nat) : Int)
theorem lone_ne {l : List Int} (hr : ∀ x ∈ l, H.U8 x) {k w : Nat} (hk : k + 1 ≤ l.length) : H.crcX (pat (lone w) k 1 l) ≠ H.crcX l := by
  have hl := pat_id (k := k) (l := l) 1 (by omega)
  have hrp : ∀ x ∈ pat (lone w) k 1 l, H.U8 x := fun x hx => by
    unfold pat at hx
    rcases List.mem_append.mp hx with hx | hx
    · exact hr x (List.mem_of_mem_take hx)
    rcases List.mem_append.mp hx with hx | hx
    · obtain ⟨j, _, rfl⟩ := List.mem_map.mp hx
      exact xor_U8 (byte_getD hr _) (nat_U8 _)
    · exact hr x (List.mem_of_mem_drop hx)
  rw [crcX_eq hrp]
  conv => rhs; rw [crcX_eq hr, ← hl]
  unfold pat H.bytes8
  rw [List.map_append, List.map_append, List.map_append, List.map_append]
  refine H.fold_mid_ne H.linE8 H.oneE8 _ _ _ _ _ (by rw [List.length_map, List.length_map, List.length_map, List.length_map]) ?_
  show H.E8 (0#8 ^^^ (BitVec.ofInt 8 (lone w 0 (l.getD (k + 0) 0)) ^^^ BitVec.ofInt 8 (l.getD (k + 0) 0))) ≠ 0#8
  unfold lone
  rw [ofInt_xor (byte_getD hr _) (nat_U8 _), BitVec.xor_comm (BitVec.ofInt 8 (l.getD (k + 0) 0)), BitVec.xor_assoc, BitVec.xor_self, BitVec.xor_zero, BitVec.zero_xor]
  intro he
  have h1 := H.oneE8 _ he
  rw [H.ofInt_nat] at h1
  have h2 := congrArg BitVec.toNat h1
  rw [BitVec.toNat_ofNat] at h2
  simp at h2
  omega
theorem bytes_end (l : List Int) (hr : ∀ x ∈ l, H.U8 x) (w k0 : Nat) (hw : w < 4294967296) (h0 : w ≠ 0) (hk : k0 + 4 ≤ l.length) (hl : l.length ≤ 1000) (k : Nat) : phaetonlaw02_CrcBytes.l0 (k + 1) l (w : Int) true (k0 : Int) (pat (four (w : Int)) k0 4 l) (4 : Nat) = some true := by
  have e1 : (Int.tmod (w : Int) 255 + 1) % 4294967296 % 256 = (((w % 255 + 1) % 256 : Nat) : Int) := by rw [Int.tmod_eq_emod_of_nonneg (by omega)]; omega
  have e2 : l.set k0 (Go.bits .xor .u8 (l.getD k0 0) (((w % 255 + 1) % 256 : Nat) : Int)) = pat (lone w) k0 1 l := by
    have := pat_succ (lone w) (k := k0) (c := 0) (l := l) (by omega)
    rw [pat_zero] at this
    exact this
  rw [phaetonlaw02_CrcBytes.l0.eq_2, if_neg (by omega), Option.bind_some, List.length_nil, if_pos (by omega), List.nil_append, Option.bind_some, if_pos (by omega), if_pos (by omega), if_pos rfl, crcWord_eq, Option.bind_some, crcWord_eq, Option.bind_some, if_neg (fun h => four_ne hr hk hw h0 (toNat_inj h)), e1, rd_nat, Int.toNat_natCast, e2, crcByte_eq, Option.bind_some, crcByte_eq, Option.bind_some, if_neg (fun h => lone_ne hr (by omega) (xor_inj (toNat_inj h)))]
theorem bytes_l0 (l : List Int) (hr : ∀ x ∈ l, H.U8 x) (w k0 : Nat) (hw : w < 4294967296) (h0 : w ≠ 0) (hk : k0 + 4 ≤ l.length) (hl : l.length ≤ 1000) : ∀ d i : Nat, i + d = 4 → Ev (fun k => phaetonlaw02_CrcBytes.l0 k l (w : Int) true (k0 : Int) (pat (four (w : Int)) k0 i l) (i : Int)) true := by
  intro d
  induction d with
  | zero =>
    intro i hi
    obtain rfl : i = 4 := by omega
    exact Ev.step (f := fun _ => some true) (fun k => bytes_end l hr w k0 hw h0 hk hl k) (Ev.now _)
  | succ d ih =>
    intro i hi
    have hp := pat_length (four (w : Int)) (k := k0) (c := i) (l := l) (by omega)
    have e1 : wrap64 ((k0 : Int) + (i : Int)) = ((k0 + i : Nat) : Int) := by unfold wrap64; omega
    have e2 : 0 ≤ wrap64 (8 * (i : Int)) := by unfold wrap64; omega
    refine Ev.step (f := fun k => phaetonlaw02_CrcBytes.l0 k l (w : Int) true (k0 : Int) (pat (four (w : Int)) k0 (i + 1) l) ((i + 1 : Nat) : Int)) (fun k => ?_) (ih (i + 1) (by omega))
    rw [phaetonlaw02_CrcBytes.l0.eq_2, e1, if_pos (by omega), if_pos (by omega), if_pos (by omega), if_pos e2, Int.toNat_natCast, rd_nat, pat_at _ (by omega), H.wrap_succ (n := 4) (by omega) (by omega)]
    exact congrArg (fun m => phaetonlaw02_CrcBytes.l0 k l (w : Int) true (k0 : Int) m ((i + 1 : Nat) : Int)) (pat_succ (four (w : Int)) (by omega))
theorem CrcBytes : phaetonlaw02_CrcBytes.Pure := by
  intro l a1 a2 _ hl hwl h1 h2
  obtain ⟨u0, u1⟩ := H.of_wfu16 h1
  obtain ⟨v0, v1⟩ := H.of_wfu32 h2
  obtain ⟨n, rfl⟩ := Int.eq_ofNat_of_zero_le u0
  obtain ⟨w, rfl⟩ := Int.eq_ofNat_of_zero_le v0
  obtain ⟨K0, hh⟩ := head02_k
  have out : ∀ k, phaetonlaw02_CrcBytes.j0 (k + 1) l (n : Int) (w : Int) true true = some true := fun k => by rw [phaetonlaw02_CrcBytes.j0.eq_2, if_pos rfl, if_pos rfl]
  by_cases c1 : (l.length : Int) > 1000
  · refine ⟨K0 + 1, ?_⟩; unfold phaetonlaw02_CrcBytes.f; rw [hh _ (by omega), Option.bind_some, if_pos c1, out]
  by_cases c2 : (l.length : Int) < 4
  · refine ⟨K0 + 1, ?_⟩; unfold phaetonlaw02_CrcBytes.f; rw [hh _ (by omega), Option.bind_some, if_neg c1, if_pos c2, out]
  by_cases c3 : w = 0
  · have hb : ((w : Int) == 0) = true := by rw [beq_iff_eq]; omega
    refine ⟨K0 + 1, ?_⟩; unfold phaetonlaw02_CrcBytes.f; rw [hh _ (by omega), Option.bind_some, if_neg c1, if_neg c2, hb, out]
  have hb : ((w : Int) == 0) = false := by rw [beq_eq_false_iff_ne]; omega
  have e1 : wrap64 ((l.length : Int) - 3) = ((l.length - 3 : Nat) : Int) := by unfold wrap64; omega
  have e2 : Int.tmod (wrap64 (n : Int)) ((l.length - 3 : Nat) : Int) = ((n % (l.length - 3) : Nat) : Int) := by
    rw [show wrap64 (n : Int) = (n : Int) by unfold wrap64; omega, Int.tmod_eq_emod_of_nonneg (by omega)]; rfl
  have hlt : n % (l.length - 3) < l.length - 3 := Nat.mod_lt _ (by omega)
  obtain ⟨K2, k2⟩ := bytes_l0 l (fun x hx => H.of_wf8 (hwl x hx)) w (n % (l.length - 3)) (by omega) c3 (by omega) (by omega) 4 0 (by omega)
  refine ⟨K0 + K2 + 1, ?_⟩
  unfold phaetonlaw02_CrcBytes.f
  rw [hh _ (by omega), Option.bind_some, if_neg c1, if_neg c2, hb, phaetonlaw02_CrcBytes.j0.eq_2, if_neg (by decide), e1, if_neg (by omega), Option.bind_some, List.length_nil, if_pos (by omega), List.nil_append, e2]
  have := k2 (K0 + K2) (by omega)
  rw [pat_zero] at this
  exact this
end Go.Proofs.Ytonffeckadmlcaa.Pure

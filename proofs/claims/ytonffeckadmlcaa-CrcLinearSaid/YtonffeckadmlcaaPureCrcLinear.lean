/- Of three rows of as many bits, or bytes, the sum of all put together, exclusively, is that of their sums. -/
import Derived.Test.YtonffeckadmlcaaPx6
import Derived.Test.YtonffeckadmlcaaPureHead02
import Derived.Test.YtonffeckadmlcaaPureCrcXor
set_option linter.unusedVariables false
namespace Go.Proofs.Ytonffeckadmlcaa.Pure
open Go.RowKit Go.Proofs.Ytonffeckadmlcaa.PB Go.Proofs.Ytonffeckadmlcaa.Px Go.Proofs.YtonffeckadmlcaaW.PrintWords Go.Proofs.YtonffeckadmlcaaW.PrintLast Go.Proofs.YtonffeckadmlcaaW.PrintMore
theorem zx_length (a b : List Int) (h : a.length = b.length) : (zx a b).length = a.length := by rw [zx, List.length_zipWith]; omega
theorem xor_three8 (a b c : BitVec 8) : a ^^^ b ^^^ c ^^^ 0xFF#8 = (a ^^^ 0xFF#8) ^^^ (b ^^^ 0xFF#8) ^^^ (c ^^^ 0xFF#8) := by
  rw [H.xor4 a _ b _, BitVec.xor_self, BitVec.xor_zero, BitVec.xor_assoc (a ^^^ b)]
theorem not_three (a b c : BitVec 32) : ~~~ (a ^^^ b ^^^ c) = ~~~ a ^^^ ~~~ b ^^^ ~~~ c := by
  apply BitVec.eq_of_getLsbD_eq
  intro i hi
  simp only [BitVec.getLsbD_not, BitVec.getLsbD_xor, decide_eq_true hi, Bool.true_and]
  cases a.getLsbD i <;> cases b.getLsbD i <;> cases c.getLsbD i <;> rfl
theorem lin_X {a b c : List Int} (ha : ∀ x ∈ a, H.U8 x) (hb : ∀ x ∈ b, H.U8 x) (hc : ∀ x ∈ c, H.U8 x) (h1 : a.length = b.length) (h2 : a.length = c.length) : H.crcX (zx (zx a b) c) = H.crcX a ^^^ H.crcX b ^^^ H.crcX c := by
  have hab := zx_U8 a b ha hb
  have hl := zx_length a b h1
  rw [crcX_eq (zx_U8 _ c hab hc), crcX_eq ha, crcX_eq hb, crcX_eq hc]
  unfold H.bytes8
  rw [zx_map _ _ hab hc, zx_map _ _ ha hb, show (0xFF#8 : BitVec 8) = (0xFF#8 ^^^ 0xFF#8) ^^^ 0xFF#8 from rfl]
  have hm : (a.map (BitVec.ofInt 8)).length = (b.map (BitVec.ofInt 8)).length := by rw [List.length_map, List.length_map, h1]
  rw [H.fold_zip H.linE8 _ _ _ _ (by rw [List.length_zipWith, List.length_map, List.length_map, List.length_map]; omega), H.fold_zip H.linE8 _ _ _ _ hm]
  rfl
theorem lin_W {a b c : List Int} (ha : ∀ x ∈ a, H.U8 x) (hb : ∀ x ∈ b, H.U8 x) (hc : ∀ x ∈ c, H.U8 x) (h1 : a.length = b.length) (h2 : a.length = c.length) : H.moreW 0 (zx (zx a b) c) = H.moreW 0 a ^^^ H.moreW 0 b ^^^ H.moreW 0 c := by
  have hab := zx_U8 a b ha hb
  have hl := zx_length a b h1
  rw [moreW_eq, moreW_eq, moreW_eq, moreW_eq, ← not_three]
  congr 1
  unfold H.bytes32
  have hs : (~~~ BitVec.ofInt 32 0 : BitVec 32) = (~~~ BitVec.ofInt 32 0 ^^^ ~~~ BitVec.ofInt 32 0) ^^^ ~~~ BitVec.ofInt 32 0 := by decide
  have hm : (a.map (BitVec.ofInt 32)).length = (b.map (BitVec.ofInt 32)).length := by rw [List.length_map, List.length_map, h1]
  rw [zx_map _ _ hab hc, zx_map _ _ ha hb]
  conv => lhs; rw [hs]
  rw [H.fold_zip H.linW _ _ _ _ (by rw [List.length_zipWith, List.length_map, List.length_map, List.length_map]; omega), H.fold_zip H.linW _ _ _ _ hm]
theorem lin_B {a b c : List Int} (ha : ∀ x ∈ a, H.U8 x) (hb : ∀ x ∈ b, H.U8 x) (hc : ∀ x ∈ c, H.U8 x) (h1 : a.length = b.length) (h2 : a.length = c.length) : H.crcB (H.spreadB (zx (zx a b) c)) = H.crcB (H.spreadB a) ^^^ H.crcB (H.spreadB b) ^^^ H.crcB (H.spreadB c) := by
  have hab := zx_U8 a b ha hb
  have hl := zx_length a b h1
  rw [H.crcB_fold (H.spread_right _), H.crcB_fold (H.spread_right _), H.crcB_fold (H.spread_right _), H.crcB_fold (H.spread_right _), tops_spread _ _ _ hab hc (by omega), tops_spread _ _ _ ha hb h1]
  have hm : (H.tops 15 (H.spreadB a)).length = (H.tops 15 (H.spreadB b)).length := by rw [tops_length, tops_length, H.spread_len, H.spread_len, h1]
  have hs : (0#15 : BitVec 15) = (0#15 ^^^ 0#15) ^^^ 0#15 := by decide
  conv => lhs; rw [hs]
  rw [H.fold_zip H.lin15 _ _ _ _ (by rw [List.length_zipWith, tops_length, tops_length, tops_length, H.spread_len, H.spread_len, H.spread_len]; omega), H.fold_zip H.lin15 _ _ _ _ hm]
theorem zx_get {a b : List Int} (h : a.length = b.length) {i : Nat} (hi : i < a.length) : (zx a b).getD i 0 = Go.bits .xor .u8 (a.getD i 0) (b.getD i 0) := by
  have hb : i < b.length := by omega
  rw [zx, List.getD_eq_getElem?_getD, List.getD_eq_getElem?_getD, List.getD_eq_getElem?_getD, List.getElem?_zipWith, List.getElem?_eq_getElem hi, List.getElem?_eq_getElem hb]; rfl
theorem linear_end (a b c : List Int) (ha : ∀ x ∈ a, H.U8 x) (hb : ∀ x ∈ b, H.U8 x) (hc : ∀ x ∈ c, H.U8 x) (h1 : a.length = b.length) (h2 : a.length = c.length) (hn : a.length ≤ 300) : ∃ K, ∀ k, K ≤ k → phaetonlaw02_CrcLinear.l0 k true (a.length : Int) a b c (zx (zx a b) c) (a.length : Int) = some true := by
  have hab := zx_U8 a b ha hb
  have hl := zx_length a b h1
  have hl2 := zx_length (zx a b) c (by omega)
  obtain ⟨K1, k1⟩ := rspread_k (zx (zx a b) c) (zx_U8 _ _ hab hc) (by omega)
  obtain ⟨K2, k2⟩ := rspread_k a ha (by omega)
  obtain ⟨K3, k3⟩ := rspread_k b hb (by omega)
  obtain ⟨K4, k4⟩ := rspread_k c hc (by omega)
  refine ⟨K1 + K2 + K3 + K4 + 1, fun k hk => ?_⟩
  obtain ⟨k, rfl⟩ : ∃ m, k = m + 1 := ⟨k - 1, by omega⟩
  rw [phaetonlaw02_CrcLinear.l0.eq_2, if_neg (by omega), if_pos rfl, crcByte_eq, Option.bind_some, crcByte_eq, Option.bind_some, crcByte_eq, Option.bind_some, crcByte_eq, Option.bind_some, bits_bv (by decide), bits_bv (by decide), if_pos (by rw [lin_X ha hb hc h1 h2, xor_three8]),
    crcWord_eq, Option.bind_some, crcWord_eq, Option.bind_some, crcWord_eq, Option.bind_some, crcWord_eq, Option.bind_some, bits_bv (by decide), bits_bv (by decide), if_pos (by rw [lin_W ha hb hc h1 h2]),
    k1 _ (by omega), Option.bind_some, crcBits_eq, Option.bind_some, k2 _ (by omega), Option.bind_some, crcBits_eq, Option.bind_some, k3 _ (by omega), Option.bind_some, crcBits_eq, Option.bind_some, k4 _ (by omega), Option.bind_some, crcBits_eq, Option.bind_some, bits_bv (by decide), bits_bv (by decide), if_pos (by rw [lin_B ha hb hc h1 h2])]
theorem linear_l0 (a b c : List Int) (ha : ∀ x ∈ a, H.U8 x) (hb : ∀ x ∈ b, H.U8 x) (hc : ∀ x ∈ c, H.U8 x) (h1 : a.length = b.length) (h2 : a.length = c.length) (hn : a.length ≤ 300) : ∀ d i : Nat, i + d = a.length → Ev (fun k => phaetonlaw02_CrcLinear.l0 k true (a.length : Int) a b c ((zx (zx a b) c).take i) (i : Int)) true := by
  have hl := zx_length a b h1
  have hl2 := zx_length (zx a b) c (by omega)
  intro d
  induction d with
  | zero =>
    intro i hi
    rw [List.take_of_length_le (by omega), show i = a.length by omega]
    exact linear_end a b c ha hb hc h1 h2 hn
  | succ d ih =>
    intro i hi
    refine Ev.step (f := fun k => phaetonlaw02_CrcLinear.l0 k true (a.length : Int) a b c ((zx (zx a b) c).take (i + 1)) ((i + 1 : Nat) : Int)) (fun k => ?_) (ih (i + 1) (by omega))
    rw [phaetonlaw02_CrcLinear.l0.eq_2, if_pos (by omega), if_pos (by omega), if_pos (by omega), if_pos (by omega), if_pos (by omega), if_pos (by rw [List.length_take]; omega), rd_nat, rd_nat, rd_nat, H.wrap_succ (n := a.length) (by omega) (by omega), H.take_snoc 0 _ i (by omega), zx_get (by omega) (by omega), zx_get h1 (by omega)]
theorem CrcLinear : phaetonlaw02_CrcLinear.Pure := by
  intro a b c _ ha hwa _ hb hwb _ hc hwc
  obtain ⟨K0, hh⟩ := head02_k
  obtain ⟨m, hm⟩ : ∃ m : Nat, mn (mn (mn (a.length : Int) (b.length : Int)) (c.length : Int)) 300 = (m : Int) := by
    refine Int.eq_ofNat_of_zero_le ?_
    unfold mn; split <;> split <;> (try split) <;> omega
  have h4 : m ≤ a.length ∧ m ≤ b.length ∧ m ≤ c.length ∧ m ≤ 300 := by
    unfold mn at hm
    split at hm <;> split at hm <;> (try split at hm) <;> omega
  obtain ⟨g1, g2, g3, g4⟩ := h4
  have la : (a.take m).length = m := by rw [List.length_take]; omega
  have lb : (b.take m).length = m := by rw [List.length_take]; omega
  have lc : (c.take m).length = m := by rw [List.length_take]; omega
  have ua : ∀ x ∈ a.take m, H.U8 x := fun x hx => H.of_wf8 (hwa x (List.mem_of_mem_take hx))
  have ub : ∀ x ∈ b.take m, H.U8 x := fun x hx => H.of_wf8 (hwb x (List.mem_of_mem_take hx))
  have uc : ∀ x ∈ c.take m, H.U8 x := fun x hx => H.of_wf8 (hwc x (List.mem_of_mem_take hx))
  obtain ⟨K1, k1⟩ := linear_l0 (a.take m) (b.take m) (c.take m) ua ub uc (by omega) (by omega) (by omega) m 0 (by omega)
  refine ⟨K0 + K1, ?_⟩
  unfold phaetonlaw02_CrcLinear.f
  rw [hh _ (by omega), Option.bind_some, hm, if_pos (by omega), if_pos (by omega), if_pos (by omega), if_pos (by omega), Int.toNat_natCast]
  have := k1 (K0 + K1) (by omega)
  rw [la] at this
  exact this
end Go.Proofs.Ytonffeckadmlcaa.Pure

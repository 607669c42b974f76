/- Rows one behind the other are right just if both are; their number's upper and lower bits are theirs: at all rows of at most 16 bits, 200 bytes. -/
import Derived.Test.YtcakokhhpihmlaaPx6
import Derived.Test.YtcakokhhpihmlaaPureHead01
import Derived.Test.YtcakokhhpihmlaaPureBits
import Derived.Test.YtcakokhhpihmlaaPureRef01
set_option linter.unusedVariables false
namespace Go.Proofs.Ytcakokhhpihmlaa.Pure
open Go.RowKit Go.Proofs.Ytcakokhhpihmlaa.PB Go.Proofs.Ytcakokhhpihmlaa.Px Go.Proofs.YtcakokhhpihmlaaW.PrintWords Go.Proofs.YtcakokhhpihmlaaW.PrintLast Go.Proofs.YtcakokhhpihmlaaW.PrintMore
theorem parts_num {va vb : Int} {m : Nat} (hm : m ≤ 16) (ha : 0 ≤ va) (hb : 0 ≤ vb) (hb2 : vb < 2 ^ m) : shr .i64 (va * 2 ^ m + vb) (m : Int) = va ∧ shl .i64 1 (m : Int) = 2 ^ m ∧ Int.tmod (va * 2 ^ m + vb) (2 ^ m) = vb := by
  have hp := H.pow_pos2 m
  have hmul : 0 ≤ va * 2 ^ m := Int.mul_nonneg ha (by omega)
  refine ⟨?_, ?_, ?_⟩
  · unfold shr
    rw [show min ((m : Int).toNat) IntKind.i64.bits = m by simp [IntKind.bits]; omega, Int.add_comm, Int.add_mul_ediv_right _ _ (by omega), Int.ediv_eq_zero_of_lt hb hb2, Int.zero_add]
  · rw [shl_bit (.inr rfl) m (by omega), Int.one_mul]
  · rw [Int.tmod_eq_emod_of_nonneg (by omega), Int.add_comm, Int.add_mul_emod_self_right, Int.emod_eq_of_lt hb hb2]
theorem bitsParts_j1 (a b : List Int) (ha : a.length ≤ 16) (hb : b.length ≤ 16) (hwa : ∀ x ∈ a, H.W64 x) (hwb : ∀ x ∈ b, H.W64 x) : ∃ K, ∀ k, K ≤ k → phaetonlaw01_BitsParts.j1 k a b true (a ++ b) false = some true := by
  have hw : ∀ x ∈ a ++ b, H.W64 x := fun x hx => (List.mem_append.mp hx).elim (hwa x) (hwb x)
  obtain ⟨K1, k1⟩ := get_k (a ++ b) (by rw [List.length_append]; omega) hw
  obtain ⟨K2, k2⟩ := get_k a (by omega) hwa
  obtain ⟨K3, k3⟩ := get_k b (by omega) hwb
  refine ⟨K1 + K2 + K3 + 1, fun k hk => ?_⟩
  obtain ⟨k, rfl⟩ : ∃ m, k = m + 1 := ⟨k - 1, by omega⟩
  rw [phaetonlaw01_BitsParts.j1.eq_2, if_neg (by decide), k1 _ (by omega), Option.bind_some, k2 _ (by omega), Option.bind_some, k3 _ (by omega), Option.bind_some, if_pos rfl]
  have hl : (a ++ b).length ≤ 32 := by rw [List.length_append]; omega
  have hra := H.rightB_append a b
  by_cases ca : H.rightB a = true
  · rw [H.getB_right ca (by omega), if_pos rfl]
    by_cases cb : H.rightB b = true
    · rw [ca, cb] at hra
      obtain ⟨a1, a2⟩ := H.valB_range ca
      obtain ⟨b1, b2⟩ := H.valB_range cb
      obtain ⟨p1, p2, p3⟩ := parts_num hb a1 b1 b2
      have hp := H.pow_pos2 b.length
      rw [H.getB_right cb (by omega), H.getB_right hra hl, H.valB_append, if_pos (by rfl), if_pos (by rfl), if_pos p1, if_neg (by rw [p2]; omega), if_pos (by rw [p2]; exact p3)]
    · rw [ca, Bool.eq_false_iff.mpr cb] at hra
      have e1 : H.getB (a ++ b) = (0, false) := by unfold H.getB; rw [if_neg (by omega), hra]; rfl
      have e2 : H.getB b = (0, false) := by unfold H.getB; rw [if_neg (by omega), if_neg cb]
      rw [e1, e2, if_pos (by rfl), if_neg (by decide)]
  · rw [Bool.eq_false_iff.mpr ca, Bool.false_and] at hra
    have e1 : H.getB (a ++ b) = (0, false) := by unfold H.getB; rw [if_neg (by omega), hra]; rfl
    have e2 : H.getB a = (0, false) := by unfold H.getB; rw [if_neg (by omega), if_neg ca]
    rw [e1, e2, if_neg (by decide), if_pos (by rfl), if_neg (by decide)]
theorem bitsParts_j0 (a b c d : List Int) (ha : a.length ≤ 16) (hb : b.length ≤ 16) (hc : c.length ≤ 200) (hd : d.length ≤ 200) (hwa : ∀ x ∈ a, H.W64 x) (hwb : ∀ x ∈ b, H.W64 x) (hwc : ∀ x ∈ c, H.U8 x) (hwd : ∀ x ∈ d, H.U8 x) : ∃ K, ∀ k, K ≤ k → phaetonlaw01_BitsParts.j0 k a b c d true false = some true := by
  have hw : ∀ x ∈ a ++ b, H.W64 x := fun x hx => (List.mem_append.mp hx).elim (hwa x) (hwb x)
  have hab : (a ++ b).length ≤ 32 := by rw [List.length_append]; omega
  have hlc := spread_length c
  have hld := spread_length d
  obtain ⟨K1, k1⟩ := right_k (a ++ b) (by omega) hw
  obtain ⟨K2, k2⟩ := right_k a (by omega) hwa
  obtain ⟨K3, k3⟩ := right_k b (by omega) hwb
  obtain ⟨K4, k4⟩ := same_k (H.spreadB c ++ H.spreadB d) (by rw [List.length_append]; omega)
  obtain ⟨K5, k5⟩ := bitsParts_j1 a b ha hb hwa hwb
  have s1 : bits_Spread.f (c ++ d) = some (H.spreadB c ++ H.spreadB d) := by rw [← H.spread_append]; exact if_pos (by rw [List.length_append]; omega)
  have s2 : bits_Spread.f c = some (H.spreadB c) := if_pos (by omega)
  have s3 : bits_Spread.f d = some (H.spreadB d) := if_pos (by omega)
  refine ⟨K1 + K2 + K3 + K4 + K5 + 1, fun k hk => ?_⟩
  obtain ⟨k, rfl⟩ : ∃ m, k = m + 1 := ⟨k - 1, by omega⟩
  have hra := H.rightB_append a b
  rw [phaetonlaw01_BitsParts.j0.eq_2, if_neg (by decide), Option.bind_some, List.nil_append, List.length_nil, if_pos (by omega), Option.bind_some, if_pos (by omega), Option.bind_some, Option.bind_some, List.nil_append, List.length_nil, if_pos (by omega), Option.bind_some, if_pos (by omega), Option.bind_some, k1 _ (by omega), Option.bind_some, k2 _ (by omega), Option.bind_some]
  by_cases ca : H.rightB a = true
  · rw [if_pos ca, k3 _ (by omega), Option.bind_some, hra, ca, Bool.true_and, if_neg (by simp), s1, Option.bind_some, Option.bind_some, s2, Option.bind_some, List.length_nil, if_pos (by omega), Option.bind_some, s3, Option.bind_some, List.nil_append, if_pos (by omega), k4 _ (by omega), Option.bind_some, Bool.not_true]
    exact k5 _ (by omega)
  · rw [if_neg ca, hra, Bool.eq_false_iff.mpr ca, Bool.false_and, if_neg (by decide), s1, Option.bind_some, Option.bind_some, s2, Option.bind_some, List.length_nil, if_pos (by omega), Option.bind_some, s3, Option.bind_some, List.nil_append, if_pos (by omega), k4 _ (by omega), Option.bind_some, Bool.not_true]
    exact k5 _ (by omega)
theorem BitsParts : phaetonlaw01_BitsParts.Pure := by
  intro a b c d _ _ hwa _ _ hwb _ _ hwc _ _ hwd
  obtain ⟨K0, hh⟩ := head01_k
  have out : ∀ k, phaetonlaw01_BitsParts.j0 (k + 1) a b c d true true = some true := fun k => by rw [phaetonlaw01_BitsParts.j0.eq_2, if_pos rfl, if_pos rfl]
  by_cases c1 : (a.length : Int) > 16
  · refine ⟨K0 + 1, ?_⟩; unfold phaetonlaw01_BitsParts.f; rw [hh _ (by omega), Option.bind_some, if_pos c1, out]
  by_cases c2 : (b.length : Int) > 16
  · refine ⟨K0 + 1, ?_⟩; unfold phaetonlaw01_BitsParts.f; rw [hh _ (by omega), Option.bind_some, if_neg c1, if_pos c2, out]
  by_cases c3 : (c.length : Int) > 200
  · refine ⟨K0 + 1, ?_⟩; unfold phaetonlaw01_BitsParts.f; rw [hh _ (by omega), Option.bind_some, if_neg c1, if_neg c2, if_pos c3, out]
  by_cases c4 : (d.length : Int) > 200
  · refine ⟨K0 + 1, ?_⟩; unfold phaetonlaw01_BitsParts.f; rw [hh _ (by omega), Option.bind_some, if_neg c1, if_neg c2, if_neg c3, decide_eq_true c4, out]
  obtain ⟨K1, k1⟩ := bitsParts_j0 a b c d (by omega) (by omega) (by omega) (by omega) (fun x hx => H.of_wf64 (hwa x hx)) (fun x hx => H.of_wf64 (hwb x hx)) (fun x hx => H.of_wf8 (hwc x hx)) (fun x hx => H.of_wf8 (hwd x hx))
  refine ⟨K0 + K1, ?_⟩
  unfold phaetonlaw01_BitsParts.f
  rw [hh _ (by omega), Option.bind_some, if_neg c1, if_neg c2, if_neg c3, decide_eq_false c4]
  exact k1 _ (by omega)
end Go.Proofs.Ytcakokhhpihmlaa.Pure

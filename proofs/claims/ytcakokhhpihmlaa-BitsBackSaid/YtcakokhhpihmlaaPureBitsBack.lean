/- A number is got from its bits, of which there are as many as were asked for: at all numbers. -/
import Derived.Test.YtcakokhhpihmlaaPx4
import Derived.Test.YtcakokhhpihmlaaPureHead01
import Derived.Test.YtcakokhhpihmlaaPureRef01
set_option linter.unusedVariables false
namespace Go.Proofs.Ytcakokhhpihmlaa.Pure
open Go.RowKit Go.Proofs.Ytcakokhhpihmlaa.PB Go.Proofs.Ytcakokhhpihmlaa.Px Go.Proofs.YtcakokhhpihmlaaW.PrintWords Go.Proofs.YtcakokhhpihmlaaW.PrintLast Go.Proofs.YtcakokhhpihmlaaW.PrintMore
theorem BitsBack : phaetonlaw01_BitsBack.Pure := by
  intro n a1 h1 h2
  obtain ⟨K0, hh⟩ := head01_k
  by_cases c : 0 ≤ a1 ∧ a1 ≤ 32 ∧ n / 2 ^ a1.toNat = 0
  · obtain ⟨c1, c2, c3⟩ := c
    obtain ⟨m, rfl⟩ := Int.eq_ofNat_of_zero_le c1
    rw [Int.toNat_natCast] at c3
    obtain ⟨n0, n1⟩ := (H.small_iff n m).mp c3
    have hm : m ≤ 32 := by omega
    have hp : bits_Put.f n (m : Int) = some (H.bitsOf n m, true) := by rw [show bits_Put.f n (m : Int) = some (H.putB n m) from rfl, H.putB_yes hm n0 n1]
    have hr := H.bitsOf_right n m
    have hwb : ∀ x ∈ H.bitsOf n m, H.W64 x := fun x hx => by rcases H.rightB_mem hr x hx with rfl | rfl <;> (unfold H.W64; omega)
    have hlen := H.bitsOf_length n m
    obtain ⟨K1, k1⟩ := get_k (H.bitsOf n m) (by omega) hwb
    obtain ⟨K2, k2⟩ := right_k (H.bitsOf n m) (by omega) hwb
    rw [H.getB_right hr (by omega), H.valB_bitsOf m n n0 n1] at k1
    rw [hr] at k2
    refine ⟨K0 + K1 + K2, ?_⟩
    unfold phaetonlaw01_BitsBack.f
    rw [hh _ (by omega), Option.bind_some, hp, Option.bind_some, if_pos rfl, k1 _ (by omega), Option.bind_some, if_pos rfl, if_pos rfl, if_pos rfl, if_pos (by show ((H.bitsOf n m).length : Int) = m; rw [hlen]), k2 _ (by omega), Option.bind_some, if_pos rfl, if_pos (by omega), if_pos (by omega)]
  · have hp : bits_Put.f n a1 = some ([], false) := by
      rw [show bits_Put.f n a1 = some (H.putB n a1) from rfl]
      unfold H.putB
      by_cases d1 : a1 < 0
      · rw [if_pos d1]
      rw [if_neg d1]
      by_cases d2 : 32 < a1
      · rw [if_pos d2]
      rw [if_neg d2, if_neg (fun h => c ⟨by omega, by omega, h⟩)]
    refine ⟨K0, ?_⟩
    unfold phaetonlaw01_BitsBack.f
    rw [hh _ (by omega), Option.bind_some, hp, Option.bind_some, if_neg (by decide), if_pos rfl, if_pos (show ((([] : List Int), false).1.length : Int) = 0 from rfl)]
    by_cases d1 : a1 < 0
    · rw [if_pos d1]
    rw [if_neg d1]
    by_cases d2 : a1 > 32
    · rw [if_pos d2]
    rw [if_neg d2]
    by_cases d3 : n < 0
    · rw [if_pos d3]
    obtain ⟨m, rfl⟩ := Int.eq_ofNat_of_zero_le (show 0 ≤ a1 by omega)
    have hsh : shl .i64 1 (m : Int) = 2 ^ m := by rw [shl_bit (.inr rfl) m (by omega)]; omega
    rw [if_neg d3, if_pos (by omega), hsh, if_pos]
    have : ¬ n < 2 ^ m := fun h => c ⟨by omega, by omega, by rw [Int.toNat_natCast]; exact (H.small_iff n m).mpr ⟨by omega, h⟩⟩
    omega
end Go.Proofs.Ytcakokhhpihmlaa.Pure

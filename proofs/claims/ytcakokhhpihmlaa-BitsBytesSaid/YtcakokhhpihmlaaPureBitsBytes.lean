/- Bytes are joined from their bits, of which there are eight each; a row that is joined is that of its bytes: at most 500 bytes, 2000 bits. -/
import Derived.Test.YtcakokhhpihmlaaPx5
import Derived.Test.YtcakokhhpihmlaaPureHead01
import Derived.Test.YtcakokhhpihmlaaPureRef01
set_option linter.unusedVariables false
namespace Go.Proofs.Ytcakokhhpihmlaa.Pure
open Go.RowKit Go.Proofs.Ytcakokhhpihmlaa.PB Go.Proofs.Ytcakokhhpihmlaa.Px Go.Proofs.YtcakokhhpihmlaaW.PrintWords Go.Proofs.YtcakokhhpihmlaaW.PrintLast Go.Proofs.YtcakokhhpihmlaaW.PrintMore
theorem BitsBytes : phaetonlaw01_BitsBytes.Pure := by
  intro b l _ h1 hwb _ h8 hwl
  obtain ⟨K0, hh⟩ := head01_k
  by_cases c1 : (b.length : Int) > 500
  · refine ⟨K0 + 1, ?_⟩
    unfold phaetonlaw01_BitsBytes.f
    rw [hh _ (by omega), Option.bind_some, if_pos c1, phaetonlaw01_BitsBytes.j0.eq_2, if_pos rfl, if_pos rfl]
  by_cases c2 : (l.length : Int) > 2000
  · refine ⟨K0 + 1, ?_⟩
    unfold phaetonlaw01_BitsBytes.f
    rw [hh _ (by omega), Option.bind_some, if_neg c1, decide_eq_true c2, phaetonlaw01_BitsBytes.j0.eq_2, if_pos rfl, if_pos rfl]
  have hb : ∀ x ∈ b, H.U8 x := fun x hx => H.of_wf8 (hwb x hx)
  have hl : ∀ x ∈ l, H.W64 x := fun x hx => H.of_wf64 (hwl x hx)
  have hsl := H.spread_len b
  have hsw : ∀ x ∈ H.spreadB b, H.W64 x := fun x hx => by rcases H.rightB_mem (H.spread_right b) x hx with rfl | rfl <;> (unfold H.W64; omega)
  obtain ⟨K1, k1⟩ := join_k (H.spreadB b) (by omega) hsw
  obtain ⟨K2, k2⟩ := right_k (H.spreadB b) (by omega) hsw
  rw [H.join_spread b hb] at k1
  rw [H.spread_right b] at k2
  obtain ⟨K3, k3⟩ := join_k l (by omega) hl
  obtain ⟨K4, k4⟩ := right_k l (by omega) hl
  obtain ⟨K5, k5⟩ := same_k l (by omega)
  have hlen : ((H.spreadB b).length : Int) = wrap64 (8 * (b.length : Int)) := by rw [hsl]; unfold wrap64; omega
  have hj : ∀ k, K3 + K4 + K5 ≤ k → phaetonlaw01_BitsBytes.j1 (k + 1) l true false = some true := by
    intro k hk
    rw [phaetonlaw01_BitsBytes.j1.eq_2, if_neg (by decide), k3 _ (by omega), Option.bind_some]
    unfold H.joinB
    by_cases m8 : l.length % 8 = 0
    · rw [if_pos m8]
      by_cases hr : H.rightB l = true
      · obtain ⟨s1, s2⟩ := H.spread_bytes (l.length / 8) l (by omega) hr
        have hp : bits_Spread.f (H.bytesB l) = some l := by
          unfold bits_Spread.f
          rw [if_pos (by rw [H.bytesB_length]; omega), s1]
        rw [if_pos hr, if_pos rfl, if_pos rfl, hp, Option.bind_some, k5 _ (by omega), Option.bind_some, if_pos rfl]
      · rw [if_neg hr, if_neg (by decide), if_pos rfl, if_pos (show ((([] : List Int), false).1.length : Int) = 0 from rfl), if_pos (by omega), k4 _ (by omega), Option.bind_some, if_neg hr]
    · rw [if_neg m8, if_neg (by decide), if_pos rfl, if_pos (show ((([] : List Int), false).1.length : Int) = 0 from rfl), if_neg (by omega)]
  refine ⟨K0 + K1 + K2 + K3 + K4 + K5 + 2, ?_⟩
  unfold phaetonlaw01_BitsBytes.f
  rw [hh _ (by omega), Option.bind_some, if_neg c1, decide_eq_false c2, phaetonlaw01_BitsBytes.j0.eq_2, if_neg (by decide), show bits_Spread.f b = some (H.spreadB b) from if_pos (by omega), Option.bind_some, k1 _ (by omega), Option.bind_some, if_pos rfl, sameBytes, Option.bind_some, if_pos rfl, if_pos hlen, k2 _ (by omega), Option.bind_some, Bool.not_true]
  exact hj _ (by omega)
end Go.Proofs.Ytcakokhhpihmlaa.Pure

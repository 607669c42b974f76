/- Whether any row is right, its number and bytes, and any numbers and bytes as bits, are the document's: rows of at most 2000 bits, 500 bytes. -/
import Derived.Test.YtcakokhhpihmlaaPx4
import Derived.Test.YtcakokhhpihmlaaPureHead01
import Derived.Test.YtcakokhhpihmlaaPureBits
import Derived.Test.YtcakokhhpihmlaaPureRef01
set_option linter.unusedVariables false
namespace Go.Proofs.Ytcakokhhpihmlaa.Pure
open Go.RowKit Go.Proofs.Ytcakokhhpihmlaa.PB Go.Proofs.Ytcakokhhpihmlaa.Px Go.Proofs.YtcakokhhpihmlaaW.PrintWords Go.Proofs.YtcakokhhpihmlaaW.PrintLast Go.Proofs.YtcakokhhpihmlaaW.PrintMore
theorem putB_len (n m : Int) : (H.putB n m).1.length ≤ 32 := by
  unfold H.putB
  split
  · simp
  split
  · simp
  split
  · rw [H.bitsOf_length]; omega
  · simp
theorem BitsTells : phaetonlaw01_BitsTells.Pure := by
  intro l0 a1 a2 l3 _ h8 hw h1 h2 _ h3 hw3
  obtain ⟨K0, hh⟩ := head01_k
  by_cases c1 : (l0.length : Int) > 2000
  · refine ⟨K0 + 1, ?_⟩
    unfold phaetonlaw01_BitsTells.f
    rw [hh _ (by omega), Option.bind_some, if_pos c1, phaetonlaw01_BitsTells.j0.eq_2, if_pos rfl, if_pos rfl]
  by_cases c2 : (l3.length : Int) > 500
  · refine ⟨K0 + 1, ?_⟩
    unfold phaetonlaw01_BitsTells.f
    rw [hh _ (by omega), Option.bind_some, if_neg c1, decide_eq_true c2, phaetonlaw01_BitsTells.j0.eq_2, if_pos rfl, if_pos rfl]
  have hw' : ∀ x ∈ l0, H.W64 x := fun x hx => H.of_wf64 (hw x hx)
  have hw3' : ∀ x ∈ l3, H.U8 x := fun x hx => H.of_wf8 (hw3 x hx)
  obtain ⟨K1, k1⟩ := rput_k a1 a2 (H.of_wf64 h1)
  obtain ⟨K2, k2⟩ := get_k l0 (by omega) hw'
  obtain ⟨K3, k3⟩ := rget_k l0 (by omega)
  obtain ⟨K4, k4⟩ := join_k l0 (by omega) hw'
  obtain ⟨K5, k5⟩ := rjoin_k l0 (by omega)
  obtain ⟨K6, k6⟩ := right_k l0 (by omega) hw'
  obtain ⟨K7, k7⟩ := rright_k l0 (by omega)
  obtain ⟨K8, k8⟩ := rspread_k l3 hw3' (by omega)
  obtain ⟨K9, k9⟩ := same_k (H.putB a1 a2).1 (by have := putB_len a1 a2; omega)
  obtain ⟨K10, k10⟩ := same_k (H.spreadB l3) (by rw [spread_length]; omega)
  refine ⟨K0 + K1 + K2 + K3 + K4 + K5 + K6 + K7 + K8 + K9 + K10 + 1, ?_⟩
  unfold phaetonlaw01_BitsTells.f
  rw [hh _ (by omega), Option.bind_some, if_neg c1, decide_eq_false c2, phaetonlaw01_BitsTells.j0.eq_2, if_neg (by decide), show bits_Put.f a1 a2 = some (H.putB a1 a2) from rfl, Option.bind_some, k1 _ (by omega), Option.bind_some, k2 _ (by omega), Option.bind_some, k3 _ (by omega), Option.bind_some,
    k4 _ (by omega), Option.bind_some, k5 _ (by omega), Option.bind_some, if_pos rfl, k6 _ (by omega), Option.bind_some, k7 _ (by omega), Option.bind_some, if_pos (beq_self_eq_true _), k9 _ (by omega), Option.bind_some, if_pos rfl, if_pos (beq_self_eq_true _), if_pos rfl, if_pos (beq_self_eq_true _),
    sameBytes, Option.bind_some, if_pos rfl, if_pos (beq_self_eq_true _), show bits_Spread.f l3 = some (H.spreadB l3) from if_pos (by omega), Option.bind_some, k8 _ (by omega), Option.bind_some, k10 _ (by omega), Option.bind_some, if_pos rfl]
end Go.Proofs.Ytcakokhhpihmlaa.Pure

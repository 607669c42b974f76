/- A right row of at most 32 bits is that of its number; others have none: rows of at most 2000 bits. -/
import Derived.Test.YtcakokhhpihmlaaPx5
import Derived.Test.YtcakokhhpihmlaaPureHead01
import Derived.Test.YtcakokhhpihmlaaPureRef01
set_option linter.unusedVariables false
namespace Go.Proofs.Ytcakokhhpihmlaa.Pure
open Go.RowKit Go.Proofs.Ytcakokhhpihmlaa.PB Go.Proofs.Ytcakokhhpihmlaa.Px Go.Proofs.YtcakokhhpihmlaaW.PrintWords Go.Proofs.YtcakokhhpihmlaaW.PrintLast Go.Proofs.YtcakokhhpihmlaaW.PrintMore
theorem BitsRow : phaetonlaw01_BitsRow.Pure := by
  intro l _ h8 hw
  obtain ⟨K0, hh⟩ := head01_k
  by_cases c1 : (l.length : Int) > 2000
  · refine ⟨K0, ?_⟩
    unfold phaetonlaw01_BitsRow.f
    rw [hh _ (by omega), Option.bind_some, if_pos c1, if_pos rfl]
  have hw' : ∀ x ∈ l, H.W64 x := fun x hx => H.of_wf64 (hw x hx)
  obtain ⟨K1, k1⟩ := get_k l (by omega) hw'
  obtain ⟨K2, k2⟩ := right_k l (by omega) hw'
  obtain ⟨K3, k3⟩ := same_k l (by omega)
  by_cases hr : H.rightB l = true
  · by_cases hl : l.length ≤ 32
    · rw [H.getB_right hr hl] at k1
      rw [hr] at k2
      have hv := H.valB_range hr
      have hp : bits_Put.f (H.valB l) (l.length : Int) = some (l, true) := by
        rw [show bits_Put.f (H.valB l) (l.length : Int) = some (H.putB (H.valB l) l.length) from rfl, H.putB_yes hl hv.1 hv.2, H.bitsOf_valB hr]
      refine ⟨K0 + K1 + K2 + K3, ?_⟩
      unfold phaetonlaw01_BitsRow.f
      rw [hh _ (by omega), Option.bind_some, if_neg c1, k1 _ (by omega), Option.bind_some, if_pos rfl, hp, Option.bind_some, if_pos rfl, if_pos rfl, k3 _ (by omega), Option.bind_some, if_pos rfl, k2 _ (by omega), Option.bind_some, if_pos rfl]
    · have hg : H.getB l = (0, false) := by unfold H.getB; rw [if_pos (by omega)]
      rw [hg] at k1
      refine ⟨K0 + K1 + K2 + K3, ?_⟩
      unfold phaetonlaw01_BitsRow.f
      rw [hh _ (by omega), Option.bind_some, if_neg c1, k1 _ (by omega), Option.bind_some, if_neg (by decide), if_pos rfl, if_pos rfl, if_pos (by omega)]
  · have hg : H.getB l = (0, false) := by unfold H.getB; rw [if_neg hr]; split <;> rfl
    rw [hg] at k1
    rw [Bool.eq_false_iff.mpr hr] at k2
    refine ⟨K0 + K1 + K2 + K3, ?_⟩
    unfold phaetonlaw01_BitsRow.f
    rw [hh _ (by omega), Option.bind_some, if_neg c1, k1 _ (by omega), Option.bind_some, if_neg (by decide), if_pos rfl, if_pos rfl]
    by_cases c2 : (l.length : Int) > 32
    · rw [if_pos c2]
    · rw [if_neg c2, k2 _ (by omega), Option.bind_some, if_neg (by decide)]
end Go.Proofs.Ytcakokhhpihmlaa.Pure

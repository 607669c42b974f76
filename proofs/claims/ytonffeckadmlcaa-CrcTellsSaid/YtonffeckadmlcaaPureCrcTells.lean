/- The three sums of any bits and bytes, and any sum that goes on, are the document's. -/
import Derived.Test.YtonffeckadmlcaaPx3
import Derived.Test.YtonffeckadmlcaaPureHead02
import Derived.Test.YtonffeckadmlcaaPureRef02
set_option linter.unusedVariables false
namespace Go.Proofs.Ytonffeckadmlcaa.Pure
open Go.RowKit Go.Proofs.Ytonffeckadmlcaa.PB Go.Proofs.Ytonffeckadmlcaa.Px Go.Proofs.YtonffeckadmlcaaW.PrintWords Go.Proofs.YtonffeckadmlcaaW.PrintLast Go.Proofs.YtonffeckadmlcaaW.PrintMore
theorem CrcTells : phaetonlaw02_CrcTells.Pure := by
  intro l b s _ hl hwl _ hb hwb hs
  have hwb' : ∀ x ∈ b, H.U8 x := fun x hx => H.of_wf8 (hwb x hx)
  obtain ⟨K0, hh⟩ := head02_k
  have out : ∀ k, phaetonlaw02_CrcTells.j0 (k + 1) l b s true true = some true := fun k => by rw [phaetonlaw02_CrcTells.j0.eq_2, if_pos rfl, if_pos rfl]
  by_cases c1 : (l.length : Int) > 2000
  · refine ⟨K0 + 1, ?_⟩; unfold phaetonlaw02_CrcTells.f; rw [hh _ (by omega), Option.bind_some, if_pos c1, out]
  by_cases c2 : (b.length : Int) > 1000
  · refine ⟨K0 + 1, ?_⟩; unfold phaetonlaw02_CrcTells.f; rw [hh _ (by omega), Option.bind_some, if_neg c1, decide_eq_true c2, out]
  obtain ⟨K1, k1⟩ := rright_k l (by omega)
  obtain ⟨K2, k2⟩ := refByte_k b (by omega) hwb'
  obtain ⟨K3, k3⟩ := refMore_k 0 b (by omega) hwb'
  obtain ⟨K4, k4⟩ := refMore_k s b (by omega) hwb'
  have kw : ∀ k, K3 ≤ k → phaetonref02_Word.f k b = some ((H.moreW 0 b).toNat : Int) := fun k hk => by
    unfold phaetonref02_Word.f; rw [k3 _ hk, Option.bind_some]
  cases hr : H.rightB l with
  | false =>
    rw [hr] at k1
    refine ⟨K0 + K1 + K2 + K3 + K4 + 1, ?_⟩
    unfold phaetonlaw02_CrcTells.f
    rw [hh _ (by omega), Option.bind_some, if_neg c1, decide_eq_false c2, phaetonlaw02_CrcTells.j0.eq_2, if_neg (by decide), if_pos rfl, k1 _ (by omega), Option.bind_some, if_neg (by decide), crcByte_eq, Option.bind_some, k2 _ (by omega), Option.bind_some, if_pos rfl, crcWord_eq, Option.bind_some, kw _ (by omega), Option.bind_some, if_pos rfl, crcMore_eq, Option.bind_some, k4 _ (by omega), Option.bind_some, if_pos rfl]
  | true =>
    rw [hr] at k1
    obtain ⟨K5, k5⟩ := refBits_k l (by omega) hr
    refine ⟨K0 + K1 + K2 + K3 + K4 + K5 + 1, ?_⟩
    unfold phaetonlaw02_CrcTells.f
    rw [hh _ (by omega), Option.bind_some, if_neg c1, decide_eq_false c2, phaetonlaw02_CrcTells.j0.eq_2, if_neg (by decide), if_pos rfl, k1 _ (by omega), Option.bind_some, if_pos rfl, crcBits_eq, Option.bind_some, k5 _ (by omega), Option.bind_some, if_pos rfl, crcByte_eq, Option.bind_some, k2 _ (by omega), Option.bind_some, if_pos rfl, crcWord_eq, Option.bind_some, kw _ (by omega), Option.bind_some, if_pos rfl, crcMore_eq, Option.bind_some, k4 _ (by omega), Option.bind_some, if_pos rfl]
end Go.Proofs.Ytonffeckadmlcaa.Pure

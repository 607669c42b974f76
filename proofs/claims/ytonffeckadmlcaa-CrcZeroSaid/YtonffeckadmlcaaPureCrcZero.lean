/- Bits with their own sum's bits behind have the sum 0; each sum has its bits, and no more: at most 2000 bits, 500 bytes. -/
import Derived.Test.YtonffeckadmlcaaPx6
import Derived.Test.YtonffeckadmlcaaPureHead02
set_option linter.unusedVariables false
namespace Go.Proofs.Ytonffeckadmlcaa.Pure
open Go.RowKit Go.Proofs.Ytonffeckadmlcaa.PB Go.Proofs.Ytonffeckadmlcaa.Px Go.Proofs.YtonffeckadmlcaaW.PrintWords Go.Proofs.YtonffeckadmlcaaW.PrintLast Go.Proofs.YtonffeckadmlcaaW.PrintMore
theorem CrcZero : phaetonlaw02_CrcZero.Pure := by
  intro l b _ hl hwl _ hb hwb
  obtain ⟨K0, hh⟩ := head02_k
  by_cases c1 : (l.length : Int) > 2000
  · refine ⟨K0 + 1, ?_⟩
    unfold phaetonlaw02_CrcZero.f
    rw [hh _ (by omega), Option.bind_some, if_pos c1, phaetonlaw02_CrcZero.j0.eq_2, if_pos rfl, if_pos rfl]
  by_cases c2 : (b.length : Int) > 500
  · refine ⟨K0 + 1, ?_⟩
    unfold phaetonlaw02_CrcZero.f
    rw [hh _ (by omega), Option.bind_some, if_neg c1, if_pos c2, phaetonlaw02_CrcZero.j0.eq_2, if_pos rfl, if_pos rfl]
  obtain ⟨K1, k1⟩ := rright_k l (by omega)
  cases hr : H.rightB l with
  | false =>
    rw [hr] at k1
    refine ⟨K0 + K1 + 1, ?_⟩
    unfold phaetonlaw02_CrcZero.f
    rw [hh _ (by omega), Option.bind_some, if_neg c1, if_neg c2, k1 _ (by omega), Option.bind_some, Bool.not_false, phaetonlaw02_CrcZero.j0.eq_2, if_pos rfl, if_pos rfl]
  | true =>
    rw [hr] at k1
    have hs := (H.crcB l).isLt
    obtain ⟨K2, k2⟩ := rput_k ((H.crcB l).toNat : Int) 15 (by unfold H.W64; omega)
    have hp := H.putB_yes (n := ((H.crcB l).toNat : Int)) (m := 15) (by omega) (by omega) (by omega)
    rw [show H.putB ((H.crcB l).toNat : Int) 15 = (H.bitsOf ((H.crcB l).toNat : Int) 15, true) from hp] at k2
    have q1 : ([] : List Int).length + l.length < 17592186044416 := by rw [List.length_nil]; omega
    have q2 : ([] ++ l : List Int).length + (H.bitsOf ((H.crcB l).toNat : Int) 15).length < 17592186044416 := by rw [List.nil_append, H.bitsOf_length]; omega
    have q3 : ((H.crcB (l ++ H.bitsOf ((H.crcB l).toNat : Int) 15)).toNat : Int) = 0 := by rw [H.crcB_own hr]; rfl
    have w1 := (H.crcX b ^^^ 0xFF#8).isLt
    have w2 := (H.moreW 0 b).isLt
    refine ⟨K0 + K1 + K2 + 1, ?_⟩
    unfold phaetonlaw02_CrcZero.f
    rw [hh _ (by omega), Option.bind_some, if_neg c1, if_neg c2, k1 _ (by omega), Option.bind_some, Bool.not_true, phaetonlaw02_CrcZero.j0.eq_2, if_neg (by decide), crcBits_eq, Option.bind_some, k2 _ (by omega), Option.bind_some, crcByte_eq, Option.bind_some, crcWord_eq, Option.bind_some, if_pos rfl, if_pos rfl, Option.bind_some, if_pos q1, Option.bind_some, if_pos q2, List.nil_append, crcBits_eq, Option.bind_some, if_pos q3, if_pos (by omega), if_pos (by omega), if_pos (by omega), if_pos (by omega)]
end Go.Proofs.Ytonffeckadmlcaa.Pure

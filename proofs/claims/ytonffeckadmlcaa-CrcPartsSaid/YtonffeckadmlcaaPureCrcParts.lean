/- A sum of 32 bits goes on from part to part: parts of at most 500 bytes each, any sum to begin with. -/
import Derived.Test.YtonffeckadmlcaaPx4
import Derived.Test.YtonffeckadmlcaaPureHead02
set_option linter.unusedVariables false
namespace Go.Proofs.Ytonffeckadmlcaa.Pure
open Go.RowKit Go.Proofs.Ytonffeckadmlcaa.PB Go.Proofs.Ytonffeckadmlcaa.Px Go.Proofs.YtonffeckadmlcaaW.PrintWords Go.Proofs.YtonffeckadmlcaaW.PrintLast Go.Proofs.YtonffeckadmlcaaW.PrintMore
theorem more_nil (s : Int) (hs : H.W64 s) : (((H.moreW s []).toNat : Nat) : Int) = Go.bits .and .i64 s 4294967295 := by
  have h1 : H.moreW s [] = BitVec.ofInt 32 s := by unfold H.moreW H.crcW; rw [List.foldl_nil, BitVec.not_not]
  rw [h1]
  have h2 : (BitVec.ofInt 64 s &&& BitVec.ofInt 64 4294967295).toNat = (BitVec.ofInt 64 s).toNat % 4294967296 := by
    rw [BitVec.toNat_and]; exact Nat.and_two_pow_sub_one_eq_mod _ 32
  have h3 : ((BitVec.ofInt 64 s).toNat : Int) = s % 18446744073709551616 := by rw [BitVec.toNat_ofInt]; omega
  have h4 : ((BitVec.ofInt 32 s).toNat : Int) = s % 4294967296 := by rw [BitVec.toNat_ofInt]; omega
  have e : Go.bits .and .i64 s 4294967295 = IntKind.i64.wrap (((BitVec.ofInt 64 s &&& BitVec.ofInt 64 4294967295).toNat : Nat) : Int) := rfl
  rw [e, h2, IntKind.wrap_i64, h4]
  omega
theorem CrcParts : phaetonlaw02_CrcParts.Pure := by
  intro a b s _ ha hwa _ hb hwb hs
  obtain ⟨K0, hh⟩ := head02_k
  by_cases c1 : (a.length : Int) > 500
  · refine ⟨K0 + 1, ?_⟩
    unfold phaetonlaw02_CrcParts.f
    rw [hh _ (by omega), Option.bind_some, if_pos c1, phaetonlaw02_CrcParts.j0.eq_2, if_pos rfl, if_pos rfl]
  by_cases c2 : (b.length : Int) > 500
  · refine ⟨K0 + 1, ?_⟩
    unfold phaetonlaw02_CrcParts.f
    rw [hh _ (by omega), Option.bind_some, if_neg c1, decide_eq_true c2, phaetonlaw02_CrcParts.j0.eq_2, if_pos rfl, if_pos rfl]
  have q1 : ([] : List Int).length + a.length < 140737488355328 := by rw [List.length_nil]; omega
  have q2 : ([] ++ a : List Int).length + b.length < 140737488355328 := by rw [List.nil_append]; omega
  refine ⟨K0 + 1, ?_⟩
  unfold phaetonlaw02_CrcParts.f
  rw [hh _ (by omega), Option.bind_some, if_neg c1, decide_eq_false c2, phaetonlaw02_CrcParts.j0.eq_2, if_neg (by decide), Option.bind_some, if_pos q1, Option.bind_some, if_pos q2, Option.bind_some, if_pos rfl, List.nil_append,
    crcWord_eq, Option.bind_some, crcMore_eq, Option.bind_some, crcWord_eq, Option.bind_some, if_pos (by rw [more_more]), crcMore_eq, Option.bind_some, crcMore_eq, Option.bind_some, crcMore_eq, Option.bind_some, if_pos (by rw [more_more]),
    crcMore_eq, Option.bind_some, Option.bind_some, if_pos rfl, crcMore_eq, Option.bind_some, if_pos (more_nil s (H.of_wf64 hs))]
end Go.Proofs.Ytonffeckadmlcaa.Pure

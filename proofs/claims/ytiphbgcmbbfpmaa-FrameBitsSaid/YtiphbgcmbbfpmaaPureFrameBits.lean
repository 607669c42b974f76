/- Bits of which a frame is read begin with its head, and the frame is right: at most 500 bits. -/
import Derived.Test.YtiphbgcmbbfpmaaPx14
import Derived.Test.YtiphbgcmbbfpmaaPureHead04
set_option linter.unusedVariables false
set_option linter.unusedSimpArgs false
namespace Go.Proofs.Ytiphbgcmbbfpmaa.Pure
open Go.RowKit Go.Proofs.Ytiphbgcmbbfpmaa.PB Go.Proofs.Ytiphbgcmbbfpmaa.Px Go.Proofs.YtiphbgcmbbfpmaaW.PrintWords Go.Proofs.YtiphbgcmbbfpmaaW.PrintLast Go.Proofs.YtiphbgcmbbfpmaaW.PrintMore
open Go.Proofs.Ytiphbgcmbbfpmaa.H (RankL lessB whereB leastB Parts IdOk rankF bitI bitsOf spreadB)
theorem FrameBits : phaetonlaw04_FrameBits.Pure := by
  intro l _ hl8 hwl
  obtain ⟨K0, hh⟩ := head04_k
  by_cases hm : (l.length : Int) > 500
  · refine ⟨K0 + 1, ?_⟩
    unfold phaetonlaw04_FrameBits.f
    rw [hh _ (by omega), Option.bind_some, if_pos hm, phaetonlaw04_FrameBits.j0.eq_2, if_pos rfl, if_pos rfl]
  obtain ⟨K1, k1⟩ := rright_k l (by omega)
  cases hr : H.rightB l with
  | false =>
    rw [hr] at k1
    refine ⟨K0 + K1 + 1, ?_⟩
    unfold phaetonlaw04_FrameBits.f
    rw [hh _ (by omega), Option.bind_some, if_neg hm, k1 _ (by omega), Option.bind_some, Bool.not_false, phaetonlaw04_FrameBits.j0.eq_2, if_pos rfl, if_pos rfl]
  | true =>
    rw [hr] at k1
    have hf := fread_eq l (by omega) (right_W64 hr)
    by_cases hz : (frame_readB l).1 = 0
    · obtain ⟨e, id, rm, ln, d, hrd, hF, hU, hle, htk⟩ := read_back hr hz
      rw [hrd] at hf
      obtain ⟨K2, k2⟩ := same2_k (headF e id rm ln d) (headF e id rm ln d) (by omega)
      rw [decide_eq_true rfl] at k2
      refine ⟨K0 + K1 + K2 + 1, ?_⟩
      unfold phaetonlaw04_FrameBits.f
      rw [hh _ (by omega), Option.bind_some, if_neg hm, k1 _ (by omega), Option.bind_some, Bool.not_true, phaetonlaw04_FrameBits.j0.eq_2, if_neg (by simp), hf, Option.bind_some]
      dsimp only
      rw [if_pos rfl, if_pos rfl, right_eq, Option.bind_some, decide_eq_true hF, if_pos rfl, if_pos (by omega), if_pos (by omega), fhead_eq hF, Option.bind_some, if_pos (by omega), Int.toNat_natCast, htk, k2 _ (by omega), Option.bind_some, if_pos rfl]
    · obtain ⟨v, hv, hvv⟩ := (read_errs l).resolve_left hz
      rw [hv] at hf
      refine ⟨K0 + K1 + 1, ?_⟩
      unfold phaetonlaw04_FrameBits.f
      rw [hh _ (by omega), Option.bind_some, if_neg hm, k1 _ (by omega), Option.bind_some, Bool.not_true, phaetonlaw04_FrameBits.j0.eq_2, if_neg (by simp), hf, Option.bind_some]
      show (if v = 0 then _ else _) = _
      rw [if_neg (by omega), if_pos rfl, show phaetonref04_Same.f (frame_err v).2.1 (frame_err v).2.2.1 (frame_err v).2.2.2.1 (frame_err v).2.2.2.2.1 (frame_err v).2.2.2.2.2.1 false 0 false 0 [] = some true from zero_same rfl rfl rfl rfl rfl, Option.bind_some, if_pos rfl]
      show (if (0 : Int) = 0 then (if v = 40 then some true else if v = 42 then some true else if v = 41 then some true else none) else none) = some true
      rw [if_pos rfl]
      rcases hvv with rfl | rfl | rfl <;> rfl
end Go.Proofs.Ytiphbgcmbbfpmaa.Pure

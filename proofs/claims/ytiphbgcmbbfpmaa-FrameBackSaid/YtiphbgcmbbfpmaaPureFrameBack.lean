/- A right frame is read of its head, whatever bits stand behind; of less than its head none is: data of at most 100 bytes, 200 bits behind. -/
import Derived.Test.YtiphbgcmbbfpmaaPx13
import Derived.Test.YtiphbgcmbbfpmaaPureHead04
set_option linter.unusedVariables false
set_option linter.unusedSimpArgs false
namespace Go.Proofs.Ytiphbgcmbbfpmaa.Pure
open Go.RowKit Go.Proofs.Ytiphbgcmbbfpmaa.PB Go.Proofs.Ytiphbgcmbbfpmaa.Px Go.Proofs.YtiphbgcmbbfpmaaW.PrintWords Go.Proofs.YtiphbgcmbbfpmaaW.PrintLast Go.Proofs.YtiphbgcmbbfpmaaW.PrintMore
open Go.Proofs.Ytiphbgcmbbfpmaa.H (RankL lessB whereB leastB Parts IdOk rankF bitI bitsOf spreadB)
theorem FrameBack : phaetonlaw04_FrameBack.Pure := by
  intro e id rm ln d more at_ _ _ _ hwd _ hml hwm hat
  have hU : ∀ x ∈ d, H.U8 x := fun x hx => H.of_wf8 (hwd x hx)
  have ha := H.of_wf8 hat
  obtain ⟨K0, hh⟩ := head04_k
  by_cases g : (d.length : Int) > 100
  · refine ⟨K0 + 1, ?_⟩
    unfold phaetonlaw04_FrameBack.f
    rw [hh _ (by omega), Option.bind_some, great_eq, Option.bind_some, decide_eq_true g, if_pos rfl, phaetonlaw04_FrameBack.j0.eq_2, if_pos rfl, if_pos rfl]
  by_cases hF : FRight e id rm ln d
  case neg =>
    refine ⟨K0 + 2, ?_⟩
    unfold phaetonlaw04_FrameBack.f
    rw [hh _ (by omega), Option.bind_some, great_eq, Option.bind_some, decide_eq_false g, if_neg (by simp), r4right_k _ _ _ _ _ _ (by omega), Option.bind_some, decide_eq_false hF, if_neg (by simp), phaetonlaw04_FrameBack.j0.eq_2, if_pos rfl, if_pos rfl]
  by_cases hm : (more.length : Int) > 200
  · refine ⟨K0 + 2, ?_⟩
    unfold phaetonlaw04_FrameBack.f
    rw [hh _ (by omega), Option.bind_some, great_eq, Option.bind_some, decide_eq_false g, if_neg (by simp), r4right_k _ _ _ _ _ _ (by omega), Option.bind_some, decide_eq_true hF, if_pos rfl, if_pos hm, phaetonlaw04_FrameBack.j0.eq_2, if_pos rfl, if_pos rfl]
  obtain ⟨K1, k1⟩ := rright_k more (by omega)
  cases hr : H.rightB more with
  | false =>
    rw [hr] at k1
    refine ⟨K0 + K1 + 2, ?_⟩
    unfold phaetonlaw04_FrameBack.f
    rw [hh _ (by omega), Option.bind_some, great_eq, Option.bind_some, decide_eq_false g, if_neg (by simp), r4right_k _ _ _ _ _ _ (by omega), Option.bind_some, decide_eq_true hF, if_pos rfl, if_neg hm, k1 _ (by omega), Option.bind_some, Bool.not_false, phaetonlaw04_FrameBack.j0.eq_2, if_pos rfl, if_pos rfl]
  | true =>
    rw [hr] at k1
    have hd8 := hF.dlen
    have hlen := headF_len e id rm ln d
    have hrd := read_head hF hU more
    have hHR := headF_right e id rm ln d
    obtain ⟨K2, k2⟩ := rright_k (headF e id rm ln d) (by rw [hlen]; split <;> omega)
    rw [hHR] at k2
    have hL : (headF e id rm ln d).length ≤ 200 := by rw [hlen]; split <;> omega
    have hP : 0 < (headF e id rm ln d).length := by rw [hlen]; split <;> omega
    have hW : ∀ x ∈ headF e id rm ln d ++ more, H.W64 x := right_W64 (by rw [H.rightB_append, hHR, hr]; rfl)
    have hf1 := fread_eq (headF e id rm ln d ++ more) (by rw [List.length_append]; omega) hW
    rw [hrd] at hf1
    have hu := ha
    unfold H.U8 at hu
    obtain ⟨q, hq, hql⟩ : ∃ q : Nat, Int.tmod (wrap64 at_) ((headF e id rm ln d).length : Int) = (q : Int) ∧ q < (headF e id rm ln d).length := by
      refine ⟨(at_ % ((headF e id rm ln d).length : Int)).toNat, ?_, ?_⟩
      · have := Int.emod_nonneg at_ (show ((headF e id rm ln d).length : Int) ≠ 0 by omega)
        rw [H.wrap_u8 ha, Int.tmod_eq_emod_of_nonneg hu.1]; omega
      · have := Int.emod_nonneg at_ (show ((headF e id rm ln d).length : Int) ≠ 0 by omega)
        have := Int.emod_lt_of_pos at_ (show (0 : Int) < ((headF e id rm ln d).length : Int) by omega)
        omega
    have hrl := read_less hF q hql
    have hf2 := fread_eq ((headF e id rm ln d).take q) (by rw [List.length_take]; omega) (fun x hx => right_W64 hHR x (List.mem_of_mem_take hx))
    have hf2' : frame_Read.f ((headF e id rm ln d).take q) = some (false, 0, false, 0, [], 0, 40) := by rw [hrl] at hf2; exact hf2
    clear hf2
    have hf2 := hf2'
    clear hf2' hrl
    have hs1 : phaetonref04_Same.f e id rm ln d e id rm ln d = some true := by rw [r4same_eq _ _ _ _ _ _ _ _ _ _ hU hU, decide_eq_true ⟨rfl, rfl, rfl, rfl, rfl⟩]
    have hhd := fhead_eq hF
    generalize headF e id rm ln d = h at *
    refine ⟨K0 + K1 + K2 + 3, ?_⟩
    unfold phaetonlaw04_FrameBack.f
    rw [hh _ (by omega), Option.bind_some, great_eq, Option.bind_some, decide_eq_false g, if_neg (by simp), r4right_k _ _ _ _ _ _ (by omega), Option.bind_some, decide_eq_true hF, if_pos rfl, if_neg hm, k1 _ (by omega), Option.bind_some, Bool.not_true, phaetonlaw04_FrameBack.j0.eq_2, if_neg (by simp), hhd, Option.bind_some, Option.bind_some, if_pos (by simp only [List.length_nil]; omega), Option.bind_some, List.nil_append, if_pos (by omega), hf1, Option.bind_some, if_neg (by omega)]
    dsimp only
    rw [hs1, Option.bind_some, if_pos rfl, if_pos rfl, if_pos rfl, k2 _ (by omega), Option.bind_some, Bool.not_true, phaetonlaw04_FrameBack.j1.eq_2, if_neg (by simp), if_neg (by omega), hq, if_pos (by omega), if_pos (by omega), Int.toNat_natCast, hf2, Option.bind_some, if_pos rfl]
    rw [zero_same rfl rfl rfl rfl rfl, Option.bind_some, if_pos rfl, if_pos rfl, if_pos rfl]
end Go.Proofs.Ytiphbgcmbbfpmaa.Pure

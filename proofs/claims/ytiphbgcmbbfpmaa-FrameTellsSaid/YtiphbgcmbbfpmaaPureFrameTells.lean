/- Whether any frames are right, or alike, a right one's head and rank, and the frame of any right bits, are the document's. -/
import Derived.Test.YtiphbgcmbbfpmaaPx12
import Derived.Test.YtiphbgcmbbfpmaaPureFHRef
import Derived.Test.YtiphbgcmbbfpmaaPureHead4
set_option linter.unusedVariables false
set_option linter.unusedSimpArgs false
namespace Go.Proofs.Ytiphbgcmbbfpmaa.Pure
open Go.RowKit Go.Proofs.Ytiphbgcmbbfpmaa.PB Go.Proofs.Ytiphbgcmbbfpmaa.Px Go.Proofs.YtiphbgcmbbfpmaaW.PrintWords Go.Proofs.YtiphbgcmbbfpmaaW.PrintLast Go.Proofs.YtiphbgcmbbfpmaaW.PrintMore
theorem tells_j2 (l : List Int) (hl : l.length ≤ 500) : ∃ K, ∀ k, K ≤ k → phaetonlaw04_FrameTells.j2 k l true false = some true := by
  obtain ⟨K1, k1⟩ := rright_k l (by omega)
  refine ⟨K1 + 1, fun k hk => ?_⟩
  obtain ⟨k, rfl⟩ : ∃ j, k = j + 1 := ⟨k - 1, by omega⟩
  rw [phaetonlaw04_FrameTells.j2.eq_2, if_neg (by simp), k1 _ (by omega), Option.bind_some]
  by_cases hr : H.rightB l = true
  · have e1 : frame_Read.f l = some (r4_pack (frame_readB l)) := by
      unfold frame_Read.f r4_pack
      rw [if_pos (by omega), if_pos]
      exact List.all_eq_true.mpr fun x hx => decide_eq_true (by rcases H.rightB_mem hr x hx with h | h <;> omega)
    have e2 : phaetonref04_Read.f l = some (r4_pack (frame_readB l)) := by
      unfold phaetonref04_Read.f
      rw [if_pos (by omega), if_pos hr]
    rw [hr, if_pos rfl, e1, Option.bind_some, e2, Option.bind_some, if_pos rfl, r4same_self, Option.bind_some, if_pos rfl, if_pos rfl, if_pos rfl]
  · rw [Bool.eq_false_iff.mpr hr, if_neg (by simp), if_pos rfl]
theorem tells_j1 (e : Bool) (id : Int) (rm : Bool) (ln : Int) (d l : List Int) (hw : ∀ x ∈ d, H.U8 x) (hl : l.length ≤ 500) : ∃ K, ∀ k, K ≤ k → phaetonlaw04_FrameTells.j1 k l true false e id rm ln d = some true := by
  obtain ⟨K2, k2⟩ := tells_j2 l hl
  by_cases hF : FRight e id rm ln d
  · obtain ⟨K3, k3⟩ := r4head_k hF hw
    obtain ⟨K4, k4⟩ := rank_k rm ln d hF.1
    obtain ⟨K5, k5⟩ := same2_k (headF e id rm ln d) (headF e id rm ln d) (by have := hF.dlen; rw [headF_len]; split <;> omega)
    obtain ⟨K6, k6⟩ := same2_k (H.rankF e id rm) (H.rankF e id rm) (by have := preF_len e id rm; unfold preF at this; simp only [List.length_cons, List.length_append] at this; split at this <;> omega)
    rw [decide_eq_true rfl] at k5 k6
    refine ⟨K2 + K3 + K4 + K5 + K6 + 3, fun k hk => ?_⟩
    obtain ⟨k, rfl⟩ : ∃ j, k = j + 1 := ⟨k - 1, by omega⟩
    rw [phaetonlaw04_FrameTells.j1.eq_2, if_neg (by simp), r4right_k _ _ _ _ _ _ (by omega), Option.bind_some, decide_eq_true hF, if_pos rfl, fhead_eq hF, Option.bind_some, k3 _ (by omega), Option.bind_some, k5 _ (by omega), Option.bind_some, if_pos rfl, frank_eq hF, Option.bind_some, k4 _ (by omega), Option.bind_some, k6 _ (by omega), Option.bind_some]
    exact k2 _ (by omega)
  · refine ⟨K2 + 3, fun k hk => ?_⟩
    obtain ⟨k, rfl⟩ : ∃ j, k = j + 1 := ⟨k - 1, by omega⟩
    rw [phaetonlaw04_FrameTells.j1.eq_2, if_neg (by simp), r4right_k _ _ _ _ _ _ (by omega), Option.bind_some, decide_eq_false hF, if_neg (by simp)]
    exact k2 _ (by omega)
theorem FrameTells : phaetonlaw04_FrameTells.Pure := by
  intro e id rm ln d e' id' rm' ln' d' l _ _ _ hwd _ _ _ hwd' _ _ _
  have hw : ∀ x ∈ d, H.U8 x := fun x hx => H.of_wf8 (hwd x hx)
  have hw' : ∀ x ∈ d', H.U8 x := fun x hx => H.of_wf8 (hwd' x hx)
  obtain ⟨K0, hh⟩ := head04_k
  by_cases g : (d.length : Int) > 100
  · refine ⟨K0 + 2, ?_⟩
    unfold phaetonlaw04_FrameTells.f
    rw [hh _ (by omega), Option.bind_some, great_eq, Option.bind_some, decide_eq_true g, if_pos rfl, phaetonlaw04_FrameTells.j0.eq_2, if_pos rfl, if_pos rfl]
  by_cases g' : (d'.length : Int) > 100
  · refine ⟨K0 + 2, ?_⟩
    unfold phaetonlaw04_FrameTells.f
    rw [hh _ (by omega), Option.bind_some, great_eq, Option.bind_some, decide_eq_false g, if_neg (by simp), great_eq, Option.bind_some, decide_eq_true g', if_pos rfl, phaetonlaw04_FrameTells.j0.eq_2, if_pos rfl, if_pos rfl]
  by_cases h5 : (l.length : Int) > 500
  · refine ⟨K0 + 2, ?_⟩
    unfold phaetonlaw04_FrameTells.f
    rw [hh _ (by omega), Option.bind_some, great_eq, Option.bind_some, decide_eq_false g, if_neg (by simp), great_eq, Option.bind_some, decide_eq_false g', if_neg (by simp), decide_eq_true h5, phaetonlaw04_FrameTells.j0.eq_2, if_pos rfl, if_pos rfl]
  obtain ⟨K1, k1⟩ := tells_j1 e id rm ln d l hw (by omega)
  refine ⟨K0 + K1 + 5, ?_⟩
  unfold phaetonlaw04_FrameTells.f
  rw [hh _ (by omega), Option.bind_some, great_eq, Option.bind_some, decide_eq_false g, if_neg (by simp), great_eq, Option.bind_some, decide_eq_false g', if_neg (by simp), decide_eq_false h5, phaetonlaw04_FrameTells.j0.eq_2, if_neg (by simp), right_eq, Option.bind_some, r4right_k _ _ _ _ _ _ (by omega), Option.bind_some, bne_self_eq_false, if_neg (by simp), same_eq _ _ _ _ _ _ _ _ _ _ hw hw', Option.bind_some, r4same_eq _ _ _ _ _ _ _ _ _ _ hw hw', Option.bind_some, bne_self_eq_false]
  exact k1 _ (by omega)
end Go.Proofs.Ytiphbgcmbbfpmaa.Pure

/- Each field of what is packed stands where the document says, the body behind all; its sum is that of the body. -/
import Derived.Test.YtfgbcpdlhdgofaaPx10
import Derived.Test.YtfgbcpdlhdgofaaPureHead24
set_option linter.unusedVariables false
namespace Go.Proofs.Ytfgbcpdlhdgofaa.Pure
open Go.RowKit Go.Proofs.Ytfgbcpdlhdgofaa.PB Go.Proofs.Ytfgbcpdlhdgofaa.Px Go.Proofs.YtfgbcpdlhdgofaaW.PrintWords Go.Proofs.YtfgbcpdlhdgofaaW.PrintLast Go.Proofs.YtfgbcpdlhdgofaaW.PrintMore
theorem fields_none (m : Nat) (key : Int) (a0 : Int) (B : List Int) : phaetonlaw24_ImageFields.j0 (m + 1) key true [] false true a0 B = some true := by
  rw [phaetonlaw24_ImageFields.j0.eq_2, if_pos rfl, if_neg (by decide), if_pos rfl]
theorem ImageFields : phaetonlaw24_ImageFields.Pure := by
  intro a0 b key h0 hbm hbw hk
  have hb' : ∀ x ∈ b, H.U8 x := fun x hx => H.of_wf8 (hbw x hx)
  have hB := cutB_U8 hb'
  have hBl := cutB_length b
  obtain ⟨K0, hh⟩ := head24_k
  obtain ⟨K1, k1⟩ := pack_k a0 (cutB b) key (by omega)
  obtain ⟨K2, k2⟩ := Seal_k (frontT a0 (cutB b) ++ cutB b) key
  refine ⟨K0 + K1 + K2 + 1, ?_⟩
  unfold phaetonlaw24_ImageFields.f
  rw [hh _ (by omega), Option.bind_some, cut_eq a0 b hbm, Option.bind_some]
  dsimp only
  rw [k1 _ (by omega), Option.bind_some]
  by_cases hc : rightB' a0 (cutB b) = true ∧ mayB key = true
  · obtain ⟨v0, v1, b0, b1⟩ := right_parts hc.1
    have ep : packT a0 (cutB b) key = (packL a0 (cutB b) key, true) := if_pos hc
    have hP := packL_U8 a0 (cutB b) key hB
    have hl := packL_length a0 (cutB b) key
    have n2 : phaetonref24_Number.f (packL a0 (cutB b) key) 2 = some (num (packL a0 (cutB b) key) 2) := rnumber _ hP 2 (by omega) (by omega)
    have n6 : phaetonref24_Number.f (packL a0 (cutB b) key) 6 = some (num (packL a0 (cutB b) key) 6) := rnumber _ hP 6 (by omega) (by omega)
    have n14 : phaetonref24_Number.f (packL a0 (cutB b) key) 14 = some (num (packL a0 (cutB b) key) 14) := rnumber _ hP 14 (by omega) (by omega)
    have r0 : rd (packL a0 (cutB b) key) 0 = 80 := rfl
    have r1 : rd (packL a0 (cutB b) key) 1 = 72 := rfl
    have es : sealR (frontT a0 (cutB b) ++ cutB b) key = sealV (frontT a0 (cutB b) ++ cutB b) key := if_pos hc.2
    rw [ep, if_pos rfl]
    dsimp only
    rw [show decide (((packL a0 (cutB b) key).length : Int) < 19) = false from decide_eq_false (by omega), phaetonlaw24_ImageFields.j0.eq_2, if_neg (by decide), Option.bind_some, if_pos (by omega), Option.bind_some, pack_take, if_pos (by rw [frontT_length]; simp only [List.length_nil]; omega), Option.bind_some, List.nil_append, if_pos (by rw [frontT_length]; omega), if_pos (by omega), r0, if_pos rfl, if_pos (by omega), r1, if_pos rfl,
      n2, Option.bind_some, pack_num2 _ _ _ v0 v1, if_pos rfl, n6, Option.bind_some, pack_num6 _ _ _ (by omega), if_pos rfl, n14, Option.bind_some, pack_num14, k2 _ (by omega), Option.bind_some, es, if_pos rfl, if_pos (by omega), pack_drop, if_pos rfl, if_pos rfl]
  · have ep : packT a0 (cutB b) key = ([], false) := if_neg hc
    rw [ep, if_neg (by decide)]
    exact fields_none _ key a0 (cutB b)
end Go.Proofs.Ytfgbcpdlhdgofaa.Pure

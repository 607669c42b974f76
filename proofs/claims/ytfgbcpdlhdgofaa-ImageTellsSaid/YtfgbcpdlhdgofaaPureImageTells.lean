/- Whether any image may be so, its bytes, the image of any bytes, any seal, and any bytes' blocks, are the document's. -/
import Derived.Test.YtfgbcpdlhdgofaaPx8
import Derived.Test.YtfgbcpdlhdgofaaPureHead24
set_option linter.unusedVariables false
namespace Go.Proofs.Ytfgbcpdlhdgofaa.Pure
open Go.RowKit Go.Proofs.Ytfgbcpdlhdgofaa.PB Go.Proofs.Ytfgbcpdlhdgofaa.Px Go.Proofs.YtfgbcpdlhdgofaaW.PrintWords Go.Proofs.YtfgbcpdlhdgofaaW.PrintLast Go.Proofs.YtfgbcpdlhdgofaaW.PrintMore
theorem ImageTells : phaetonlaw24_ImageTells.Pure := by
  intro a0 b l key h0 hbm hbw hlm hlr hlw hk
  have hb' : ∀ x ∈ b, H.U8 x := fun x hx => H.of_wf8 (hbw x hx)
  have hl' : ∀ x ∈ l, H.U8 x := fun x hx => H.of_wf8 (hlw x hx)
  have hB := cutB_U8 hb'
  have hBl := cutB_length b
  obtain ⟨y, hy⟩ : ∃ y, y = l.take (min l.length 400) := ⟨_, rfl⟩
  have hY : ∀ x ∈ y, H.U8 x := by rw [hy]; exact take_U8 hl' _
  have hYl : y.length ≤ 400 := by rw [hy, List.length_take]; omega
  obtain ⟨K0, hh⟩ := head24_k
  obtain ⟨K1, k1⟩ := pack_k a0 (cutB b) key (by omega)
  obtain ⟨K2, k2⟩ := rpack_k a0 (cutB b) key (by omega) hB
  obtain ⟨K3, k3⟩ := read_k y key hY (by omega)
  obtain ⟨K4, k4⟩ := rread_k y key hY (by omega)
  obtain ⟨K5, k5⟩ := Seal_k y key
  obtain ⟨K6, k6⟩ := rseal_k y key (by omega) hY
  obtain ⟨K7, k7⟩ := rblocks_k y (by omega)
  obtain ⟨K8, k8⟩ := rrows_k (blocksL y) (by unfold blocksL; rw [List.length_map, spans_length]; omega)
  refine ⟨K0 + K1 + K2 + K3 + K4 + K5 + K6 + K7 + K8, ?_⟩
  unfold phaetonlaw24_ImageTells.f
  rw [hh _ (by omega), Option.bind_some, cut_eq a0 b hbm, Option.bind_some, Option.bind_some, mn400, if_pos (by omega), if_pos (by omega), Int.toNat_natCast, ← hy, if_pos (by simp only [List.length_nil]; omega), Option.bind_some, List.nil_append]
  dsimp only
  rw [k1 _ (by omega), Option.bind_some, k2 _ (by omega), Option.bind_some, k3 _ (by omega), Option.bind_some, k4 _ (by omega), Option.bind_some, right_eq, Option.bind_some, rright_eq, Option.bind_some, if_pos (by rw [beq_self_eq_true]), if_pos rfl, if_pos (by rw [beq_self_eq_true]), rsame, Option.bind_some, if_pos rfl, if_pos rfl, k5 _ (by omega), Option.bind_some, k6 _ (by omega), Option.bind_some, if_pos rfl, blocks_eq y (by omega), Option.bind_some, k7 _ (by omega), Option.bind_some, k8 _ (by omega), Option.bind_some, if_pos rfl, if_pos rfl]
end Go.Proofs.Ytfgbcpdlhdgofaa.Pure

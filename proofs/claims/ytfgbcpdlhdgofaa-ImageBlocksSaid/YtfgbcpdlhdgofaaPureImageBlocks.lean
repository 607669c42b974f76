/- Blocks, one behind the other, are the bytes; all but the last one have 64, and that one has one at least. -/
import Derived.Test.YtfgbcpdlhdgofaaPx9
import Derived.Test.YtfgbcpdlhdgofaaPureHead24
set_option linter.unusedVariables false
namespace Go.Proofs.Ytfgbcpdlhdgofaa.Pure
open Go.RowKit Go.Proofs.Ytfgbcpdlhdgofaa.PB Go.Proofs.Ytfgbcpdlhdgofaa.Px Go.Proofs.YtfgbcpdlhdgofaaW.PrintWords Go.Proofs.YtfgbcpdlhdgofaaW.PrintLast Go.Proofs.YtfgbcpdlhdgofaaW.PrintMore
theorem blocksL_length (y : List Int) : (blocksL y).length = (y.length + 63) / 64 := by unfold blocksL; rw [List.length_map, spans_length]
theorem blocksL_at (y : List Int) (i : Nat) (h : 64 * i < y.length) : rd_L2 (blocksL y) (i : Int) = (y.drop (64 * i)).take 64 := by
  have hl : i < (image_spans y.length).length := by rw [spans_length]; omega
  have e : (blocksL y)[i]? = some ((y.drop (64 * i)).take (min 64 (y.length - 64 * i))) := by
    unfold blocksL
    rw [List.getElem?_map, List.getElem?_eq_getElem hl]
    simp [image_spans]
  have e2 : rd_L2 (blocksL y) (i : Int) = (y.drop (64 * i)).take (min 64 (y.length - 64 * i)) := by
    unfold rd_L2
    simp [e]
  rw [e2, List.take_eq_take_iff, List.length_drop]
  omega
theorem blocks_l0 (y : List Int) (hy : y.length ≤ 400) : ∀ d i : Nat, i + d = (blocksL y).length → Ev (fun k => phaetonlaw24_ImageBlocks.l0 k y true (blocksL y) (y.take (64 * i)) (i : Int)) true := by
  have hL := blocksL_length y
  intro d
  induction d with
  | zero =>
    intro i hi
    refine Ev.step (f := fun _ => some true) (fun k => ?_) (Ev.now _)
    have e : wrap64 (Int.tdiv (wrap64 ((y.length : Int) + 63)) 64) = ((blocksL y).length : Int) := by
      rw [show wrap64 ((y.length : Int) + 63) = (y.length : Int) + 63 by unfold wrap64; omega, Int.tdiv_eq_ediv_of_nonneg (by omega), hL]
      unfold wrap64
      omega
    rw [phaetonlaw24_ImageBlocks.l0.eq_2, if_neg (by omega), List.take_of_length_le (by omega), if_pos rfl, e, if_pos rfl, if_pos rfl]
  | succ d ih =>
    intro i hi
    have hlt : 64 * i < y.length := by omega
    have h := ih (i + 1) (by omega)
    have hw : wrap64 ((i : Int) + 1) = ((i + 1 : Nat) : Int) := by unfold wrap64; omega
    have hb := blocksL_at y i hlt
    have hbl : ((y.drop (64 * i)).take 64).length = min 64 (y.length - 64 * i) := by rw [List.length_take, List.length_drop]
    rw [show 64 * (i + 1) = 64 * i + 64 by omega, List.take_add, ← hw] at h
    refine Ev.step (fun k => ?_) h
    rw [phaetonlaw24_ImageBlocks.l0.eq_2, if_pos (by omega), if_pos (by omega), hb, hbl, if_neg (by omega), if_neg (by omega), hw]
    have ht : (y.take (64 * i)).length + min 64 (y.length - 64 * i) < 140737488355328 := by rw [List.length_take]; omega
    by_cases c : ((i + 1 : Nat) : Int) < ((blocksL y).length : Int)
    · rw [if_pos c, if_pos (by omega), if_pos ht]
    · rw [if_neg c, if_pos ht]
theorem ImageBlocks : phaetonlaw24_ImageBlocks.Pure := by
  intro l hlm hlr hlw
  have hl' : ∀ x ∈ l, H.U8 x := fun x hx => H.of_wf8 (hlw x hx)
  obtain ⟨y, hy⟩ : ∃ y, y = l.take (min l.length 400) := ⟨_, rfl⟩
  have hYl : y.length ≤ 400 := by rw [hy, List.length_take]; omega
  obtain ⟨K0, hh⟩ := head24_k
  obtain ⟨K1, k1⟩ := ev_all (blocks_l0 y hYl (blocksL y).length 0 (by omega))
  refine ⟨K0 + K1, ?_⟩
  unfold phaetonlaw24_ImageBlocks.f
  rw [hh _ (by omega), Option.bind_some, Option.bind_some, mn400, if_pos (by omega), if_pos (by omega), Int.toNat_natCast, ← hy, if_pos (by simp only [List.length_nil]; omega), Option.bind_some, List.nil_append, blocks_eq y (by omega), Option.bind_some]
  exact k1 _ (by omega)
end Go.Proofs.Ytfgbcpdlhdgofaa.Pure

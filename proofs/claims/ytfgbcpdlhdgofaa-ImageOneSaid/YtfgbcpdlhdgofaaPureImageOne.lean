/- Images that are unlike in anything, or of unlike keys that make unlike seals, have unlike bytes. -/
import Derived.Test.YtfgbcpdlhdgofaaPx12
import Derived.Test.YtfgbcpdlhdgofaaPureHead24
set_option linter.unusedVariables false
namespace Go.Proofs.Ytfgbcpdlhdgofaa.Pure
open Go.RowKit Go.Proofs.Ytfgbcpdlhdgofaa.PB Go.Proofs.Ytfgbcpdlhdgofaa.Px Go.Proofs.YtfgbcpdlhdgofaaW.PrintWords Go.Proofs.YtfgbcpdlhdgofaaW.PrintLast Go.Proofs.YtfgbcpdlhdgofaaW.PrintMore
theorem strBeq {a b : List Int} (ha : ∀ x ∈ a, H.U8 x) (hb : ∀ x ∈ b, H.U8 x) : ((strOfNums a).toList == (strOfNums b).toList) = decide (a = b) := by
  by_cases h : a = b
  · subst h; rw [beq_self_eq_true, decide_eq_true rfl]
  · rw [decide_eq_false h, beq_eq_false_iff_ne]
    exact fun e => h (strNums_inj _ _ ha hb e)
theorem same_eq (a b : Int) {l m : List Int} (hl : ∀ x ∈ l, H.U8 x) (hm : ∀ x ∈ m, H.U8 x) : phaetonref24_Same.f a l b m = some (decide (a = b ∧ l = m)) := by
  unfold phaetonref24_Same.f
  by_cases h : a = b
  · rw [if_pos h, strBeq hl hm]
    by_cases h2 : l = m
    · rw [decide_eq_true h2, decide_eq_true ⟨h, h2⟩]
    · rw [decide_eq_false h2, decide_eq_false (fun x => h2 x.2)]
  · rw [if_neg h, decide_eq_false (fun x => h x.1)]
theorem pack_seal (v : Int) (b : List Int) (key : Int) : ((packL v b key).take 18).drop 14 = w4 (sealV (frontT v b ++ b) key) := rfl
theorem one_j0 (v : Int) (B : List Int) (k0 k1 : Int) (hB : ∀ x ∈ B, H.U8 x) (hBl : B.length ≤ 5000) (m : Nat) : phaetonlaw24_ImageOne.j0 (m + 1) true (packT v B k0).1 (packT v B k0).2 (packT v B k1).1 (packT v B k1).2 false = some true := by
  rw [phaetonlaw24_ImageOne.j0.eq_2, if_neg (by decide)]
  by_cases c0 : rightB' v B = true ∧ mayB k0 = true
  case neg =>
    have e0 : packT v B k0 = ([], false) := if_neg c0
    rw [e0, if_neg (by decide), if_pos rfl]
  have e0 : packT v B k0 = (packL v B k0, true) := if_pos c0
  rw [e0, if_pos rfl]
  by_cases c1 : rightB' v B = true ∧ mayB k1 = true
  case neg =>
    have e1 : packT v B k1 = ([], false) := if_neg c1
    rw [e1, if_neg (by decide), if_pos rfl]
  have e1 : packT v B k1 = (packL v B k1, true) := if_pos c1
  have l0 := packL_length v B k0
  have l1 := packL_length v B k1
  have u0 := packL_U8 v B k0 hB
  have u1 := packL_U8 v B k1 hB
  rw [e1, if_pos rfl]
  dsimp only
  rw [if_neg (by omega), if_neg (by omega), if_pos (by omega), if_pos (by omega), if_pos (by omega), pack_seal, pack_seal, strBeq u0 u1, strBeq (w4_U8 _) (w4_U8 _), if_pos ?_, if_pos rfl]
  by_cases h : w4 (sealV (frontT v B ++ B) k0) = w4 (sealV (frontT v B ++ B) k1)
  · have hp : packL v B k0 = packL v B k1 := by unfold packL; rw [h]
    rw [decide_eq_true h, decide_eq_true hp]; rfl
  · have hp : packL v B k0 ≠ packL v B k1 := fun e => h (by rw [← pack_seal, ← pack_seal, e])
    rw [decide_eq_false h, decide_eq_false hp]; rfl
theorem ImageOne : phaetonlaw24_ImageOne.Pure := by
  intro a0 b0 a1 b1 k0 k1 _ h0m h0w _ h1m h1w _ _
  have h0' : ∀ x ∈ b0, H.U8 x := fun x hx => H.of_wf8 (h0w x hx)
  have h1' : ∀ x ∈ b1, H.U8 x := fun x hx => H.of_wf8 (h1w x hx)
  have hB := cutB_U8 h0'
  have hC := cutB_U8 h1'
  have hBl := cutB_length b0
  have hCl := cutB_length b1
  obtain ⟨K0, hh⟩ := head24_k
  obtain ⟨K1, p1⟩ := pack_k a0 (cutB b0) k0 (by omega)
  obtain ⟨K2, p2⟩ := pack_k a1 (cutB b1) k0 (by omega)
  obtain ⟨K3, p3⟩ := pack_k a0 (cutB b0) k1 (by omega)
  have hj := one_j0 a0 (cutB b0) k0 k1 hB (by omega) (K0 + K1 + K2 + K3)
  refine ⟨K0 + K1 + K2 + K3 + 1, ?_⟩
  unfold phaetonlaw24_ImageOne.f
  rw [hh _ (by omega), Option.bind_some, cut_eq a0 b0 h0m, Option.bind_some, cut_eq a1 b1 h1m, Option.bind_some]
  dsimp only
  rw [p1 _ (by omega), Option.bind_some, p2 _ (by omega), Option.bind_some, p3 _ (by omega), Option.bind_some]
  by_cases c0 : (packT a0 (cutB b0) k0).2 = true
  case neg => rw [if_neg c0]; exact hj
  rw [if_pos c0]
  by_cases c1 : (packT a1 (cutB b1) k0).2 = true
  case neg => rw [if_neg c1]; exact hj
  rw [if_pos c1, same_eq a0 a1 hB hC, Option.bind_some]
  have d0 : rightB' a0 (cutB b0) = true ∧ mayB k0 = true := by
    by_cases h : rightB' a0 (cutB b0) = true ∧ mayB k0 = true
    · exact h
    · rw [show packT a0 (cutB b0) k0 = ([], false) from if_neg h] at c0; cases c0
  have d1 : rightB' a1 (cutB b1) = true ∧ mayB k0 = true := by
    by_cases h : rightB' a1 (cutB b1) = true ∧ mayB k0 = true
    · exact h
    · rw [show packT a1 (cutB b1) k0 = ([], false) from if_neg h] at c1; cases c1
  have e0 : packT a0 (cutB b0) k0 = (packL a0 (cutB b0) k0, true) := if_pos d0
  have e1 : packT a1 (cutB b1) k0 = (packL a1 (cutB b1) k0, true) := if_pos d1
  have hx : (((strOfNums (packT a0 (cutB b0) k0).1).toList == (strOfNums (packT a1 (cutB b1) k0).1).toList) != decide (a0 = a1 ∧ cutB b0 = cutB b1)) = false := by
    rw [e0, e1]
    dsimp only
    rw [strBeq (packL_U8 _ _ _ hB) (packL_U8 _ _ _ hC), bne_eq_false_iff_eq]
    by_cases h : a0 = a1 ∧ cutB b0 = cutB b1
    · rw [decide_eq_true h, decide_eq_true (by rw [h.1, h.2])]
    · rw [decide_eq_false h, decide_eq_false]
      intro e
      have r0 := read_pack a0 (cutB b0) k0 d0.1 d0.2
      have r1 := read_pack a1 (cutB b1) k0 d1.1 d1.2
      rw [e, r1] at r0
      injection r0 with q1 q2
      injection q2 with q2 _
      exact h ⟨q1.symm, q2.symm⟩
  rw [hx]
  exact hj
end Go.Proofs.Ytfgbcpdlhdgofaa.Pure

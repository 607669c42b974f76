/- What is packed is read, with its key; what is read is just what is packed of that, with that key. -/
import Derived.Test.YtfgbcpdlhdgofaaPx9
import Derived.Test.YtfgbcpdlhdgofaaPureHead24
set_option linter.unusedVariables false
namespace Go.Proofs.Ytfgbcpdlhdgofaa.Pure
open Go.RowKit Go.Proofs.Ytfgbcpdlhdgofaa.PB Go.Proofs.Ytfgbcpdlhdgofaa.Px Go.Proofs.YtfgbcpdlhdgofaaW.PrintWords Go.Proofs.YtfgbcpdlhdgofaaW.PrintLast Go.Proofs.YtfgbcpdlhdgofaaW.PrintMore
theorem readT_bad (l : List Int) (key : Int) (h : (readT l key).2.2 ≠ 0) : (readT l key).1 = 0 ∧ (readT l key).2.1 = [] := by
  unfold readT at h ⊢
  by_cases c1 : l.length < 18 ∨ l.take 2 ≠ [80, 72] ∨ rightB' (num l 2) (l.drop 18) = false ∨ num l 6 ≠ ((l.drop 18).length : Int)
  · rw [if_pos c1]; exact ⟨rfl, rfl⟩
  rw [if_neg c1] at h ⊢
  by_cases c2 : num l 10 ≠ wv (l.drop 18)
  · rw [if_pos c2]; exact ⟨rfl, rfl⟩
  rw [if_neg c2] at h ⊢
  by_cases c3 : mayB key = false ∨ num l 14 ≠ sealV (l.take 14 ++ l.drop 18) key
  · rw [if_pos c3]; exact ⟨rfl, rfl⟩
  rw [if_neg c3] at h
  exact absurd rfl h
theorem back_j0 (y : List Int) (key : Int) (v : Int) (B : List Int) (was : Bool) (hw : was = true ↔ rightB' v B = true ∧ mayB key = true) (hY : ∀ x ∈ y, H.U8 x) (hYl : y.length ≤ 400) : ∃ K, ∀ k, K ≤ k → phaetonlaw24_ImageBack.j0 k y key true was v B = some true := by
  obtain ⟨K3, k3⟩ := read_k y key hY (by omega)
  obtain ⟨K4, k4⟩ := pack_k (num y 2) (y.drop 18) key (by rw [List.length_drop]; omega)
  refine ⟨K3 + K4 + 1, fun k hk => ?_⟩
  obtain ⟨m, rfl⟩ : ∃ m, k = m + 1 := ⟨k - 1, by omega⟩
  rw [phaetonlaw24_ImageBack.j0.eq_2, k3 _ (by omega), Option.bind_some]
  by_cases h : (readT y key).2.2 = 0
  · obtain ⟨e, hr, hm, hp⟩ := pack_read y key hY h
    have ep : packT (num y 2) (y.drop 18) key = (y, true) := by unfold packT; rw [if_pos ⟨hr, hm⟩, hp]
    rw [e, if_pos rfl]
    dsimp only
    rw [k4 _ (by omega), ep, Option.bind_some, if_pos rfl, if_pos rfl, right_eq, hr, Option.bind_some, if_pos rfl, if_pos rfl]
  · obtain ⟨e1, e2⟩ := readT_bad y key h
    rw [if_neg h, e1, e2, rsame, Option.bind_some, if_pos rfl, right_eq, Option.bind_some]
    by_cases hr : rightB' v B = true
    · rw [if_pos hr, show phaetonref24_May.f key = some (mayB key) from rmay_eq key, Option.bind_some, if_pos (by
        rw [beq_iff_eq]
        cases hm : mayB key with
        | true => exact hw.mpr ⟨hr, hm⟩
        | false =>
          cases hwas : was with
          | false => rfl
          | true => have := (hw.mp hwas).2; rw [hm] at this; cases this), if_pos rfl]
    · rw [if_neg hr, if_pos (by
        rw [beq_iff_eq]
        cases hwas : was with
        | false => rfl
        | true => exact absurd (hw.mp hwas).1 hr), if_pos rfl]
theorem ImageBack : phaetonlaw24_ImageBack.Pure := by
  intro a0 b l key h0 hbm hbw hlm hlr hlw hk
  have hb' : ∀ x ∈ b, H.U8 x := fun x hx => H.of_wf8 (hbw x hx)
  have hl' : ∀ x ∈ l, H.U8 x := fun x hx => H.of_wf8 (hlw x hx)
  have hB := cutB_U8 hb'
  have hBl := cutB_length b
  obtain ⟨y, hy⟩ : ∃ y, y = l.take (min l.length 400) := ⟨_, rfl⟩
  have hY : ∀ x ∈ y, H.U8 x := by rw [hy]; exact take_U8 hl' _
  have hYl : y.length ≤ 400 := by rw [hy, List.length_take]; omega
  obtain ⟨K0, hh⟩ := head24_k
  obtain ⟨K1, k1⟩ := pack_k a0 (cutB b) key (by omega)
  obtain ⟨K2, k2⟩ := read_k (packL a0 (cutB b) key) key (packL_U8 _ _ _ hB) (by rw [packL_length]; omega)
  by_cases hc : rightB' a0 (cutB b) = true ∧ mayB key = true
  · obtain ⟨K3, k3⟩ := back_j0 y key a0 (cutB b) true ⟨fun _ => hc, fun _ => rfl⟩ hY hYl
    have ep : packT a0 (cutB b) key = (packL a0 (cutB b) key, true) := if_pos hc
    have ew : ((packL a0 (cutB b) key).length : Int) = wrap64 (18 + ((cutB b).length : Int)) := by rw [packL_length]; unfold wrap64; omega
    refine ⟨K0 + K1 + K2 + K3, ?_⟩
    unfold phaetonlaw24_ImageBack.f
    rw [hh _ (by omega), Option.bind_some, cut_eq a0 b hbm, Option.bind_some, Option.bind_some, mn400, if_pos (by omega), if_pos (by omega), Int.toNat_natCast, ← hy, if_pos (by simp only [List.length_nil]; omega), Option.bind_some, List.nil_append]
    dsimp only
    rw [k1 _ (by omega), ep, Option.bind_some, if_pos rfl]
    dsimp only
    rw [k2 _ (by omega), read_pack _ _ _ hc.1 hc.2, Option.bind_some, if_pos rfl]
    dsimp only
    rw [rsame, Option.bind_some, if_pos rfl, if_pos ew, k3 _ (by omega)]
  · obtain ⟨K3, k3⟩ := back_j0 y key a0 (cutB b) false ⟨fun h => (by cases h), fun h => absurd h hc⟩ hY hYl
    have ep : packT a0 (cutB b) key = ([], false) := if_neg hc
    refine ⟨K0 + K1 + K2 + K3, ?_⟩
    unfold phaetonlaw24_ImageBack.f
    rw [hh _ (by omega), Option.bind_some, cut_eq a0 b hbm, Option.bind_some, Option.bind_some, mn400, if_pos (by omega), if_pos (by omega), Int.toNat_natCast, ← hy, if_pos (by simp only [List.length_nil]; omega), Option.bind_some, List.nil_append]
    dsimp only
    rw [k1 _ (by omega), ep, Option.bind_some, if_neg (by decide), k3 _ (by omega)]
end Go.Proofs.Ytfgbcpdlhdgofaa.Pure

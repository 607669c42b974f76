/- Any bytes, guarded, and taken out, and what becomes of any trust, are the document's. -/
import Derived.Test.YtfjffajmagefkaaPx7
import Derived.Test.YtfjffajmagefkaaPureRef16
set_option linter.unusedVariables false
namespace Go.Proofs.Ytfjffajmagefkaa.Pure
open Go.RowKit Go.Proofs.Ytfjffajmagefkaa.PB Go.Proofs.Ytfjffajmagefkaa.Px Go.Proofs.YtfjffajmagefkaaW.PrintWords Go.Proofs.YtfjffajmagefkaaW.PrintLast Go.Proofs.YtfjffajmagefkaaW.PrintMore
theorem right16 (b0 : Bool) (n1 n2 n3 : Int) : ∃ r, phaetonref16_Right.f b0 n1 n2 n3 = some r ∧ (r = true → (b0 = true → 0 ≤ n1 ∧ n1 ≤ 14) ∧ (b0 = false → n1 = 0)) := by
  unfold phaetonref16_Right.f
  cases b0 with
  | true =>
    rw [if_pos rfl]
    by_cases h1 : n1 ≥ 0
    · rw [if_pos h1]
      by_cases h2 : n1 ≤ 14
      · rw [if_pos h2]
        have : ∃ r, (if n2 ≥ 1 then (if n2 ≤ 6 then (if n3 ≥ 0 then (some (decide (n3 ≤ 1152921504606846976))) else (some false)) else (some false)) else (some false)) = some r := by
          repeat' split
          all_goals exact ⟨_, rfl⟩
        obtain ⟨r, hr⟩ := this
        exact ⟨r, hr, fun _ => ⟨fun _ => ⟨h1, h2⟩, fun h => by cases h⟩⟩
      · rw [if_neg h2]; exact ⟨_, rfl, fun h => by cases h⟩
    · rw [if_neg h1]; exact ⟨_, rfl, fun h => by cases h⟩
  | false =>
    rw [if_neg (by decide)]
    by_cases h1 : (!false && (n1 == 0 && (n2 == 0 && (n3 == 0)))) = true
    · rw [if_pos h1]
      refine ⟨_, rfl, fun _ => ⟨fun h => (Bool.noConfusion h), fun _ => ?_⟩⟩
      simp only [Bool.not_false, Bool.true_and, Bool.and_eq_true, beq_iff_eq] at h1
      exact h1.1
    · rw [if_neg h1]
      by_cases h2 : n1 = 0
      · rw [if_pos h2]
        have : ∃ r, (if n2 = 5 then (if n3 ≥ 1 then (some (decide (n3 ≤ 1152921504606846976))) else (some false)) else (some false)) = some r := by
          repeat' split
          all_goals exact ⟨_, rfl⟩
        obtain ⟨r, hr⟩ := this
        exact ⟨r, hr, fun _ => ⟨fun h => (Bool.noConfusion h), fun _ => h2⟩⟩
      · rw [if_neg h2]; exact ⟨_, rfl, fun h => by cases h⟩
theorem TrustTells : phaetonlaw16_TrustTells.Pure := by
  intro a0 a1 l2 b0 n1 n2 n3 a4 h0 h1 _ hl hw w1 w2 w3 h4
  have hw' : ∀ x ∈ l2, H.U8 x := fun x hx => H.of_wf8 (hw x hx)
  obtain ⟨K0, hh⟩ := head16_k
  by_cases c1 : (l2.length : Int) > 100
  · refine ⟨K0, ?_⟩; unfold phaetonlaw16_TrustTells.f; rw [hh _ (by omega), Option.bind_some, if_pos c1, if_pos rfl]
  obtain ⟨K1, k1⟩ := rwrap_k a0 a1 l2 hw'
  obtain ⟨K2, k2⟩ := ropen_k a0 l2 hw' (by omega)
  obtain ⟨r, hr, hR⟩ := right16 b0 n1 n2 n3
  cases r with
  | false =>
    refine ⟨K0 + K1 + K2 + 1, ?_⟩
    unfold phaetonlaw16_TrustTells.f
    rw [hh _ (by omega), Option.bind_some, if_neg c1, wrap_eq, Option.bind_some, k1 _ (by omega), Option.bind_some, open_eq a0 l2 hw', Option.bind_some, k2 _ (by omega), Option.bind_some, sameBytes, Option.bind_some, if_pos rfl, if_neg (by simp), sameBytes, Option.bind_some, if_pos rfl, if_pos rfl, if_neg (by simp), show trust_New.f = some (false, 0, 0, 0) from rfl, Option.bind_some, show phaetonref16_New.f = some (false, 0, 0, 0) from rfl, Option.bind_some,
      phaetonlaw16_TrustTells.j0.eq_2, if_neg (by decide), hr, Option.bind_some, if_neg (by decide), if_pos rfl]
  | true =>
    obtain ⟨hn, hf⟩ := hR rfl
    obtain ⟨K3, k3⟩ := rcheck_k b0 n1 n2 n3 a0 l2 (wrap64 ((Int.tmod (wrap64 a4) 14) + 1)) hw' (by omega) hn hf
    refine ⟨K0 + K1 + K2 + K3 + 1, ?_⟩
    unfold phaetonlaw16_TrustTells.f
    rw [hh _ (by omega), Option.bind_some, if_neg c1, wrap_eq, Option.bind_some, k1 _ (by omega), Option.bind_some, open_eq a0 l2 hw', Option.bind_some, k2 _ (by omega), Option.bind_some, sameBytes, Option.bind_some, if_pos rfl, if_neg (by simp), sameBytes, Option.bind_some, if_pos rfl, if_pos rfl, if_neg (by simp), show trust_New.f = some (false, 0, 0, 0) from rfl, Option.bind_some, show phaetonref16_New.f = some (false, 0, 0, 0) from rfl, Option.bind_some,
      phaetonlaw16_TrustTells.j0.eq_2, if_neg (by decide), hr, Option.bind_some, if_pos rfl, check_eq _ _ _ _ _ _ _ hw' hn, Option.bind_some, k3 _ (by omega), Option.bind_some, if_pos rfl, if_pos (by simp), sameBytes, Option.bind_some, if_pos rfl, if_pos rfl]
end Go.Proofs.Ytfjffajmagefkaa.Pure

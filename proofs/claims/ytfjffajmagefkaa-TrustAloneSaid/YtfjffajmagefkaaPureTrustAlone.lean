/- What bytes are, and what is taken, hangs on whether a trust is on, and on its count, alone; how much was bad alters neither. -/
import Derived.Test.YtfjffajmagefkaaPx12
import Derived.Test.YtfjffajmagefkaaPureTrustCheck
set_option linter.unusedVariables false
namespace Go.Proofs.Ytfjffajmagefkaa.Pure
open Go.RowKit Go.Proofs.Ytfjffajmagefkaa.PB Go.Proofs.Ytfjffajmagefkaa.Px Go.Proofs.YtfjffajmagefkaaW.PrintWords Go.Proofs.YtfjffajmagefkaaW.PrintLast Go.Proofs.YtfjffajmagefkaaW.PrintMore
theorem alone_right (b0 : Bool) (n1 n2 n3 : Int) : ∃ r, phaetonref16_Right.f b0 n1 n2 n3 = some r ∧ (r = true → b0 = true → 0 ≤ n1 ∧ n1 ≤ 14) := by
  unfold phaetonref16_Right.f
  cases b0 with
  | true =>
    rw [if_pos rfl]
    by_cases h1 : n1 ≥ 0
    · rw [if_pos h1]
      by_cases h2 : n1 ≤ 14
      · rw [if_pos h2]
        have : ∃ r, (if n2 ≥ 1 then (if n2 ≤ 6 then (if n3 ≥ 0 then (some (decide (n3 ≤ 1152921504606846976))) else (some false)) else (some false)) else (some false)) = some r := by
          repeat' split
          all_goals exact ⟨_, rfl⟩
        obtain ⟨r, hr⟩ := this
        exact ⟨r, hr, fun _ _ => ⟨h1, h2⟩⟩
      · rw [if_neg h2]; exact ⟨_, rfl, fun h => by cases h⟩
    · rw [if_neg h1]; exact ⟨_, rfl, fun h => by cases h⟩
  | false =>
    rw [if_neg (by decide)]
    have : ∃ r, (if (!false && (n1 == 0 && (n2 == 0 && (n3 == 0)))) = true then (some true) else (if n1 = 0 then (if n2 = 5 then (if n3 ≥ 1 then (some (decide (n3 ≤ 1152921504606846976))) else (some false)) else (some false)) else (some false))) = some r := by
      repeat' split
      all_goals exact ⟨_, rfl⟩
    obtain ⟨r, hr⟩ := this
    exact ⟨r, hr, fun _ h => by cases h⟩
/-- How much was bad alters nothing but itself. -/
theorem checkT_alone (b0 : Bool) (n1 n2 n3 n3' a : Int) (l : List Int) (most : Int) :
    (checkT b0 n1 n2 n3 a l most).1 = (checkT b0 n1 n2 n3' a l most).1 ∧ (checkT b0 n1 n2 n3 a l most).2.1 = (checkT b0 n1 n2 n3' a l most).2.1 ∧ (checkT b0 n1 n2 n3 a l most).2.2.1 = (checkT b0 n1 n2 n3' a l most).2.2.1 ∧
    (checkT b0 n1 n2 n3 a l most).2.2.2.2 = (checkT b0 n1 n2 n3' a l most).2.2.2.2 ∧ (checkT b0 n1 n2 n3 a l most).2.2.1 = (checkT b0 n1 n2 n3 a l most).2.2.2.2.2 ∧
    (((checkT b0 n1 n2 n3 a l most).2.2.2.1 = wrap64 (n3 + 1) ∧ (checkT b0 n1 n2 n3' a l most).2.2.2.1 = wrap64 (n3' + 1)) ∨ ((checkT b0 n1 n2 n3 a l most).2.2.2.1 = 0 ∧ (checkT b0 n1 n2 n3' a l most).2.2.2.1 = 0)) := by
  unfold checkT
  split
  · split
    · exact ⟨rfl, rfl, rfl, rfl, rfl, .inl ⟨rfl, rfl⟩⟩
    · exact ⟨rfl, rfl, rfl, rfl, rfl, .inr ⟨rfl, rfl⟩⟩
  · exact ⟨rfl, rfl, rfl, rfl, rfl, .inl ⟨rfl, rfl⟩⟩
theorem TrustAlone : phaetonlaw16_TrustAlone.Pure := by
  intro b0 n1 n2 n3 a1 l2 a3 a4 w1 w2 w3 _ hl _ hw h3 h4
  have hw' : ∀ x ∈ l2, H.U8 x := fun x hx => H.of_wf8 (hw x hx)
  have hn3 := H.of_wf64 w3
  have ha3 := H.of_wf8 h3
  unfold H.W64 at hn3
  unfold H.U8 at ha3
  obtain ⟨K0, hh⟩ := head16_k
  obtain ⟨r, hr, hR⟩ := alone_right b0 n1 n2 n3
  cases r with
  | false =>
    refine ⟨K0 + 1, ?_⟩
    unfold phaetonlaw16_TrustAlone.f
    rw [hh _ (by omega), Option.bind_some, hr, Option.bind_some, if_neg (by simp), phaetonlaw16_TrustAlone.j0.eq_2, if_pos rfl, if_pos rfl]
  | true =>
    by_cases c1 : (l2.length : Int) > 100
    · refine ⟨K0 + 1, ?_⟩
      unfold phaetonlaw16_TrustAlone.f
      rw [hh _ (by omega), Option.bind_some, hr, Option.bind_some, if_pos rfl, if_pos c1, phaetonlaw16_TrustAlone.j0.eq_2, if_pos rfl, if_pos rfl]
    by_cases c2 : n3 > 1125899906842624
    · refine ⟨K0 + 1, ?_⟩
      unfold phaetonlaw16_TrustAlone.f
      rw [hh _ (by omega), Option.bind_some, hr, Option.bind_some, if_pos rfl, if_neg c1, decide_eq_true c2, phaetonlaw16_TrustAlone.j0.eq_2, if_pos rfl, if_pos rfl]
    have e3 : wrap64 a3 = a3 := by unfold wrap64; omega
    have e4 : wrap64 (n3 + a3) = n3 + a3 := by unfold wrap64; omega
    obtain ⟨r', hr', -⟩ := alone_right b0 n1 n2 (n3 + a3)
    cases r' with
    | false =>
      refine ⟨K0 + 1, ?_⟩
      unfold phaetonlaw16_TrustAlone.f
      rw [hh _ (by omega), Option.bind_some, hr, Option.bind_some, if_pos rfl, if_neg c1, decide_eq_false c2, phaetonlaw16_TrustAlone.j0.eq_2, if_neg (by simp), e3, e4, hr', Option.bind_some, if_neg (by simp), if_pos rfl]
    | true =>
      refine ⟨K0 + 1, ?_⟩
      unfold phaetonlaw16_TrustAlone.f
      rw [hh _ (by omega), Option.bind_some, hr, Option.bind_some, if_pos rfl, if_neg c1, decide_eq_false c2, phaetonlaw16_TrustAlone.j0.eq_2, if_neg (by simp), e3, e4, hr', Option.bind_some, if_pos rfl, check_eq _ _ _ _ _ _ _ hw' (hR rfl), Option.bind_some, check_eq _ _ _ _ _ _ _ hw' (hR rfl), Option.bind_some, if_pos rfl]
      generalize wrap64 (Int.tmod (wrap64 a4) 14 + 1) = most
      obtain ⟨g1, g2, g3, g4, g5, g6⟩ := checkT_alone b0 n1 n2 n3 (n3 + a3) a1 l2 most
      rw [← g1, ← g2, ← g3, ← g4, if_pos rfl, sameBytes, Option.bind_some, if_pos rfl, if_pos (by simp), if_pos rfl, if_pos g5, if_pos g5]
      rcases g6 with ⟨q1, q2⟩ | ⟨q1, q2⟩
      · rw [q1, q2, if_pos (by unfold wrap64; omega)]
      · rw [q1, q2]
        split
        · rfl
        · rw [if_pos rfl, if_pos rfl]
end Go.Proofs.Ytfjffajmagefkaa.Pure

/- A count more than as many on as may be is stale, and is not taken; the next one behind it is good; what is spoilt alters neither whether a trust is on, nor its count. -/
import Derived.Test.YtfjffajmagefkaaPx11
import Derived.Test.YtfjffajmagefkaaPureTrustCheck
set_option linter.unusedVariables false
namespace Go.Proofs.Ytfjffajmagefkaa.Pure
open Go.RowKit Go.Proofs.Ytfjffajmagefkaa.PB Go.Proofs.Ytfjffajmagefkaa.Px Go.Proofs.YtfjffajmagefkaaW.PrintWords Go.Proofs.YtfjffajmagefkaaW.PrintLast Go.Proofs.YtfjffajmagefkaaW.PrintMore
/-- What a trust makes of what was wrapped. -/
theorem check_wrapped (b0 : Bool) (n1 n2 n3 a c : Int) (l : List Int) (most : Int) (h1 : a / 65536 = 0) (h2 : 0 ≤ c) (h3 : c < 15) (h4 : l.length ≤ 6) :
    checkT b0 n1 n2 n3 a (tsum a c l :: c :: l) most = (if kindT b0 n1 c most = 3 ∨ kindT b0 n1 c most = 6 then (true, c, kindT b0 n1 c most, wrap64 (n3 + 1), [], kindT b0 n1 c most) else (true, c, kindT b0 n1 c most, 0, l, kindT b0 n1 c most)) := by
  unfold checkT
  rw [(open_wrap a c l h1 h2 h3 h4).2, if_pos rfl]
theorem TrustStale : phaetonlaw16_TrustStale.Pure := by
  intro a0 a1 a2 l3 l4 a5 h0 h1 h2 _ hl3 hw3 _ hl4 hw4 h5
  obtain ⟨u0, u1⟩ := H.of_wfu16 h0
  have v1 := H.of_wf8 h1
  have v2 := H.of_wf8 h2
  have v5 := H.of_wf8 h5
  have v1' := v1
  have v2' := v2
  have v5' := v5
  unfold H.U8 at v1 v2 v5
  have hw3' : ∀ x ∈ l3, H.U8 x := fun x hx => H.of_wf8 (hw3 x hx)
  have hw4' : ∀ x ∈ l4, H.U8 x := fun x hx => H.of_wf8 (hw4 x hx)
  obtain ⟨K0, hh⟩ := head16_k
  have out : ∀ k, phaetonlaw16_TrustStale.j0 (k + 1) a0 a1 a2 l3 l4 a5 true true = some true := fun k => by rw [phaetonlaw16_TrustStale.j0.eq_2, if_pos rfl, if_pos rfl]
  by_cases c1 : (l3.length : Int) > 6
  · refine ⟨K0 + 1, ?_⟩; unfold phaetonlaw16_TrustStale.f; rw [hh _ (by omega), Option.bind_some, if_pos c1, out]
  by_cases c2 : (l4.length : Int) > 20
  · refine ⟨K0 + 1, ?_⟩; unfold phaetonlaw16_TrustStale.f; rw [hh _ (by omega), Option.bind_some, if_neg c1, decide_eq_true c2, out]
  have ha : a0 / 65536 = 0 := by omega
  have e0 : wrap64 a0 = a0 := by unfold wrap64; omega
  obtain ⟨K, hK⟩ : ∃ K : Int, K = a5 % 14 + 1 := ⟨_, rfl⟩
  obtain ⟨c, hc⟩ : ∃ c : Int, c = a1 % 15 := ⟨_, rfl⟩
  obtain ⟨n, hn⟩ : ∃ n : Int, n = a2 % 14 + 1 := ⟨_, rfl⟩
  have ek : wrap64 ((Int.tmod (wrap64 a5) 14) + 1) = K := by rw [H.wrap_u8 v5', Int.tmod_eq_emod_of_nonneg v5.1, hK]; unfold wrap64; omega
  have ec : Int.tmod (wrap64 a1) 15 = c := by rw [H.wrap_u8 v1', Int.tmod_eq_emod_of_nonneg v1.1, hc]
  have en : wrap64 ((Int.tmod (wrap64 a2) 14) + 1) = n := by rw [H.wrap_u8 v2', Int.tmod_eq_emod_of_nonneg v2.1, hn]; unfold wrap64; omega
  have ec2 : Int.tmod (wrap64 (c + n)) 15 = (c + n) % 15 := by rw [show wrap64 (c + n) = c + n by unfold wrap64; omega, Int.tmod_eq_emod_of_nonneg (by omega)]
  have ec3 : Int.tmod (wrap64 (wrap64 (c + n) + 1)) 15 = (c + n + 1) % 15 := by rw [show wrap64 (c + n) = c + n by unfold wrap64; omega, show wrap64 (c + n + 1) = c + n + 1 by unfold wrap64; omega, Int.tmod_eq_emod_of_nonneg (by omega)]
  have hU : ∀ d : Int, 0 ≤ d → d < 15 → ∀ x ∈ tsum a0 d l3 :: d :: l3, H.U8 x := fun d d0 d1 x hx => by
    have := wrapT_U8 a0 d l3 hw3'
    rw [(open_wrap a0 d l3 ha d0 d1 (by omega)).1] at this
    exact this x hx
  refine ⟨K0 + 2, ?_⟩
  unfold phaetonlaw16_TrustStale.f
  rw [hh _ (by omega), Option.bind_some, if_neg c1, decide_eq_false c2, phaetonlaw16_TrustStale.j0.eq_2, if_neg (by decide), e0, ek, ec, en, ec2, ec3, wrap_eq, Option.bind_some, wrap_eq, Option.bind_some, wrap_eq, Option.bind_some, show trust_New.f = some (false, 0, 0, 0) from rfl, Option.bind_some,
    (open_wrap a0 c l3 ha (by omega) (by omega) (by omega)).1, (open_wrap a0 ((c + n) % 15) l3 ha (by omega) (by omega) (by omega)).1, (open_wrap a0 ((c + n + 1) % 15) l3 ha (by omega) (by omega) (by omega)).1,
    check_eq _ _ _ _ _ _ _ (hU c (by omega) (by omega)) (fun h => by cases h), Option.bind_some, check_wrapped _ _ _ _ _ _ _ _ ha (by omega) (by omega) (by omega), show kindT false 0 c K = 2 from rfl, if_neg (by decide)]
  rw [check_eq _ _ _ _ _ _ _ (hU ((c + n) % 15) (by omega) (by omega)) (fun _ => by constructor <;> (dsimp only; omega)), Option.bind_some, check_wrapped _ _ _ _ _ _ _ _ ha (by omega) (by omega) (by omega)]
  dsimp only
  have hd : ((c + n) % 15 - c + 15) % 15 = n := by omega
  have hd2 : ((c + n + 1) % 15 - (c + n) % 15 + 15) % 15 = 1 := by omega
  have k2 : ∀ m : Int, kindT true ((c + n) % 15) ((c + n + 1) % 15) m = 1 := fun m => by unfold kindT; rw [if_pos rfl, hd2]; rfl
  have k1 : kindT true c ((c + n) % 15) K = if n = 1 then 1 else if n ≤ K then 4 else 6 := by unfold kindT; rw [if_pos rfl, hd, if_neg (by omega)]
  -- the tail, whatever the second one was
  have tail : ∀ (w : Int) (d : List Int) (q : Int), (n = 1 → q = 1) → (n ≠ 1 → n ≤ K → q = 4 ∧ d = l3) → (n ≠ 1 → ¬ n ≤ K → q = 6 ∧ d = []) → phaetonlaw16_TrustStale.j1 (K0 + 1) l3 true K n d q l3 1 false = some true := fun w d q q1 q4 q6 => by
    rw [phaetonlaw16_TrustStale.j1.eq_2, if_neg (by decide)]
    by_cases g1 : n = 1
    · rw [q1 g1, g1]
      rw [if_neg (by omega), if_pos (by omega), if_neg (by omega), if_pos rfl, if_pos rfl, if_pos rfl, if_pos rfl, sameBytes, Option.bind_some, if_pos rfl]
    by_cases g2 : n ≤ K
    · obtain ⟨rfl, rfl⟩ := q4 g1 g2
      rw [if_neg (by omega), if_pos (by omega), if_pos (by omega), if_pos rfl, sameBytes, Option.bind_some, if_pos rfl, if_neg g1, if_pos rfl, if_pos rfl, Option.bind_some, if_pos rfl]
    · obtain ⟨rfl, rfl⟩ := q6 g1 g2
      rw [if_pos (by omega), if_pos (by omega), if_pos rfl, if_pos (by rfl), if_neg (by omega), if_neg g1, if_pos rfl, if_pos rfl, sameBytes, Option.bind_some, if_pos rfl]
  have rest : ∀ (w b : Int) (d : List Int) (q : Int), 0 ≤ b → b ≤ 1 → (n = 1 → q = 1) → (n ≠ 1 → n ≤ K → q = 4 ∧ d = l3) → (n ≠ 1 → ¬ n ≤ K → q = 6 ∧ d = []) →
      ((trust_Check.f true ((c + n) % 15) w b a0 (tsum a0 ((c + n + 1) % 15) l3 :: (c + n + 1) % 15 :: l3) K).bind fun bt403 => ((trust_Open.f a0 l4).bind fun bt412 => ((trust_Check.f true ((c + n) % 15) w b a0 l4 K).bind fun bt417 => (if bt412.2.2 = true then (phaetonlaw16_TrustStale.j1 (K0 + 1) l3 true K n d q bt403.2.2.2.2.1 bt403.2.2.2.2.2 false) else (if bt417.2.2.2.2.2 = 5 then (if (bt417.1 != true) = true then (phaetonlaw16_TrustStale.j1 (K0 + 1) l3 true K n d q bt403.2.2.2.2.1 bt403.2.2.2.2.2 true) else (if bt417.2.1 = (c + n) % 15 then (phaetonlaw16_TrustStale.j1 (K0 + 1) l3 true K n d q bt403.2.2.2.2.1 bt403.2.2.2.2.2 (bt417.2.2.2.1 != (wrap64 (b + 1)))) else (phaetonlaw16_TrustStale.j1 (K0 + 1) l3 true K n d q bt403.2.2.2.2.1 bt403.2.2.2.2.2 true))) else (phaetonlaw16_TrustStale.j1 (K0 + 1) l3 true K n d q bt403.2.2.2.2.1 bt403.2.2.2.2.2 true)))))) = some true := fun w b d q b0 b1 q1 q4 q6 => by
    rw [check_eq _ _ _ _ _ _ _ (hU ((c + n + 1) % 15) (by omega) (by omega)) (fun _ => by constructor <;> omega), Option.bind_some, check_wrapped _ _ _ _ _ _ _ _ ha (by omega) (by omega) (by omega), k2, if_neg (by decide), open_eq a0 l4 hw4', Option.bind_some, check_eq _ _ _ _ _ _ _ hw4' (fun _ => by constructor <;> omega), Option.bind_some]
    by_cases ho : (openT a0 l4).2.2 = true
    · rw [if_pos ho]; exact tail w d q q1 q4 q6
    · rw [if_neg ho]
      unfold checkT
      rw [if_neg ho, if_pos rfl, if_neg (by simp), if_pos rfl, show ((wrap64 (b + 1)) != (wrap64 (b + 1))) = false by simp]
      exact tail w d q q1 q4 q6
  by_cases g1 : n = 1
  · rw [k1, if_pos g1, if_neg (by decide)]
    exact rest _ _ _ _ (by dsimp only; decide) (by dsimp only; decide) (fun _ => rfl) (fun h => absurd g1 h) (fun h => absurd g1 h)
  by_cases g2 : n ≤ K
  · rw [k1, if_neg g1, if_pos g2, if_neg (by decide)]
    exact rest _ _ _ _ (by dsimp only; decide) (by dsimp only; decide) (fun h => absurd h g1) (fun _ _ => ⟨rfl, rfl⟩) (fun _ h => absurd g2 h)
  · rw [k1, if_neg g1, if_neg g2, if_pos (by decide)]
    exact rest _ _ _ _ (by dsimp only; unfold wrap64; decide) (by dsimp only; unfold wrap64; decide) (fun h => absurd h g1) (fun _ h => absurd h g2) (fun _ _ => ⟨rfl, rfl⟩)
end Go.Proofs.Ytfjffajmagefkaa.Pure

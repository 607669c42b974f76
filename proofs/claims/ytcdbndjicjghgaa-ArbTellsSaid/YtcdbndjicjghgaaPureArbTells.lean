/- Which of any frames wins, where each other one is lost, what the line has, and what it has of any bits, is as the document says: at most 10 frames, each made right, 50 bits. -/
import Derived.Test.YtcdbndjicjghgaaPx8
import Derived.Test.YtcdbndjicjghgaaPureHead06
set_option linter.unusedVariables false
set_option linter.unusedSimpArgs false
namespace Go.Proofs.Ytcdbndjicjghgaa.Pure
open Go.RowKit Go.Proofs.Ytcdbndjicjghgaa.PB Go.Proofs.Ytcdbndjicjghgaa.Px Go.Proofs.YtcdbndjicjghgaaW.PrintWords Go.Proofs.YtcdbndjicjghgaaW.PrintLast Go.Proofs.YtcdbndjicjghgaaW.PrintMore
open Go.Proofs.Ytcdbndjicjghgaa.H (RankL lessB whereB leastB Parts IdOk rankF)
theorem ArbTells : phaetonlaw06_ArbTells.Pure := by
  intro l0 l1 _ _ _ _ _
  obtain ⟨K0, hh⟩ := head06_k
  obtain ⟨K1, k1⟩ : ∃ K, ∀ k, K ≤ k → phaetonref06_Frames.f k l0 10 = some (madeN l0 10) := frames_k l0 10 (by decide)
  have hok := madeN_ok l0 10
  have hlen : (madeN l0 10).length ≤ 10 := by rw [madeN_len]; omega
  generalize madeN l0 10 = l at k1 hok hlen
  obtain ⟨K2, k2⟩ : ∃ K, ∀ k, K ≤ k → phaetonref03_Bits.f k l1 50 = some (bitsN l1 50) := bitsN_k l1 50 (by decide)
  have hb := bitsN_bit l1 50
  have hbl : (bitsN l1 50).length ≤ 50 := by rw [bitsN_len]; omega
  generalize bitsN l1 50 = b at k2 hb hbl
  obtain ⟨K3, k3⟩ := win_k l hok (by omega)
  obtain ⟨K4, k4⟩ := and_k b (by omega)
  obtain ⟨K5, k5⟩ := r6and_k b (by omega)
  by_cases hne : l.length = 0
  · obtain rfl := List.eq_nil_of_length_eq_zero hne
    obtain ⟨n1, n2, n3⟩ := race_nil
    obtain ⟨K6, k6⟩ := ints_k [] [] (by simp)
    rw [decide_eq_true rfl] at k6
    have e1 : ∀ k, 1 ≤ k → phaetonref06_Lost.f k [] = some [] := fun k hk => by
      obtain ⟨k, rfl⟩ : ∃ m, k = m + 1 := ⟨k - 1, by omega⟩
      rfl
    have e2 : ∀ k, phaetonref06_Line.f k [] = some [] := fun k => rfl
    have e3 : leastB (([] : List Fr).map rkF) ([] : List Fr).length = -1 := rfl
    rw [e3] at k3
    refine ⟨K0 + K1 + K2 + K3 + K4 + K5 + K6 + 1, ?_⟩
    unfold phaetonlaw06_ArbTells.f
    rw [hh _ (by omega), Option.bind_some, k1 _ (by omega), Option.bind_some, k2 _ (by omega), Option.bind_some, n1, Option.bind_some, k3 _ (by omega), Option.bind_some, if_pos rfl, n2, Option.bind_some, e1 _ (by omega), Option.bind_some, k6 _ (by omega), Option.bind_some, if_pos rfl, n3, Option.bind_some, e2, Option.bind_some, k6 _ (by omega), Option.bind_some, if_pos rfl,
      k4 _ (by omega), Option.bind_some, k5 _ (by omega), Option.bind_some, if_pos (and_bit hb), if_pos rfl]
  · obtain ⟨w, m, hr⟩ := raced l hok (by omega) (by omega)
    obtain ⟨K6, k6⟩ := lost_k l hok (by omega) hr
    obtain ⟨K7, k7⟩ := line_k l hok (by omega) hr
    obtain ⟨K8, k8⟩ := ints_k (l.map (lostF m)) (l.map (lostF m)) (by rw [List.length_map]; omega)
    obtain ⟨K9, k9⟩ := ints_k m m (by have := (rkF_RankL (l.getD w z35)).len; rw [hr.rank] at this; omega)
    rw [decide_eq_true rfl] at k8 k9
    rw [hr.least] at k3
    refine ⟨K0 + K1 + K2 + K3 + K4 + K5 + K6 + K7 + K8 + K9, ?_⟩
    unfold phaetonlaw06_ArbTells.f
    rw [hh _ (by omega), Option.bind_some, k1 _ (by omega), Option.bind_some, k2 _ (by omega), Option.bind_some, hr.win, Option.bind_some, k3 _ (by omega), Option.bind_some, if_pos rfl, hr.lost, Option.bind_some, k6 _ (by omega), Option.bind_some, k8 _ (by omega), Option.bind_some, if_pos rfl, hr.line, Option.bind_some, k7 _ (by omega), Option.bind_some, k9 _ (by omega), Option.bind_some, if_pos rfl,
      k4 _ (by omega), Option.bind_some, k5 _ (by omega), Option.bind_some, if_pos (and_bit hb), if_pos rfl]
end Go.Proofs.Ytcdbndjicjghgaa.Pure

/- The frame that wins has the least identifier bits of all, the line is its rank, and it lost nowhere: at most 10 frames, each made right. -/
import Derived.Test.YtcdbndjicjghgaaPx9
import Derived.Test.YtcdbndjicjghgaaPureHead06
set_option linter.unusedVariables false
set_option linter.unusedSimpArgs false
namespace Go.Proofs.Ytcdbndjicjghgaa.Pure
open Go.RowKit Go.Proofs.Ytcdbndjicjghgaa.PB Go.Proofs.Ytcdbndjicjghgaa.Px Go.Proofs.YtcdbndjicjghgaaW.PrintWords Go.Proofs.YtcdbndjicjghgaaW.PrintLast Go.Proofs.YtcdbndjicjghgaaW.PrintMore
open Go.Proofs.Ytcdbndjicjghgaa.H (RankL lessB whereB leastB Parts IdOk rankF)
theorem least_l0 (l : List Fr) (hok : ∀ x ∈ l, FrOk x) (hl : l.length ≤ 1000000) {w : Nat} {m : List Int} (hr : Raced l w m) : ∀ d i : Nat, i + d = l.length → Ev (fun k => phaetonlaw06_ArbLeast.l0 k l true (w : Int) (i : Int)) true := by
  intro d
  have hw := hr.lt
  have hm : RankL m := hr.rank ▸ rkF_RankL _
  have hml := hm.len
  obtain ⟨K2, k2⟩ := r6rank_k (getD_okT hok hw)
  rw [hr.rank] at k2
  induction d with
  | zero =>
    intro i hi
    obtain ⟨K3, k3⟩ := ints_k m m (by omega)
    rw [decide_eq_true rfl] at k3
    refine ⟨K2 + K3 + 1, fun k hk => ?_⟩
    obtain ⟨k, rfl⟩ : ∃ m, k = m + 1 := ⟨k - 1, by omega⟩
    dsimp only
    have hl1 : (l.map (lostF m)).getD w 0 = -1 := by
      rw [getD_mapT _ z35 0 l hw]; unfold lostF; rw [if_pos hr.rank]
    rw [phaetonlaw06_ArbLeast.l0.eq_2, if_neg (by omega), hr.lost, Option.bind_some, List.length_map, if_pos rfl, if_pos (by omega), if_pos (by omega), rd_nat, if_pos hl1, hr.line, Option.bind_some, if_pos (by omega), rdT_nat, k2 _ (by omega), Option.bind_some, k3 _ (by omega), Option.bind_some, if_pos rfl, if_pos rfl]
  | succ d ih =>
    intro i hi
    have hlt : i < l.length := by omega
    obtain ⟨K, hK⟩ := ih (i + 1) (by omega)
    obtain ⟨K1, k1⟩ := r6rank_k (getD_okT hok hlt)
    obtain ⟨K3, k3⟩ := less_k (rkF (l.getD i z35)) m (by have := (rkF_RankL (l.getD i z35)).len; omega)
    obtain ⟨K4, k4⟩ := ints_k (rkF (l.getD i z35)) m (by have := (rkF_RankL (l.getD i z35)).len; omega)
    have hn : lessB (rkF (l.getD i z35)) m = false := by
      rcases hr.all i hlt with h | h
      · rw [h]; exact H.lessB_irr _
      · exact H.lessB_asymm h
    refine ⟨K + K1 + K2 + K3 + K4 + 1, fun k hk => ?_⟩
    obtain ⟨k, rfl⟩ : ∃ m, k = m + 1 := ⟨k - 1, by omega⟩
    dsimp only
    rw [phaetonlaw06_ArbLeast.l0.eq_2, if_pos (by omega), if_pos (by omega), rdT_nat, rdT_nat, k1 _ (by omega), Option.bind_some, if_pos (by omega), if_pos (by omega), k2 _ (by omega), Option.bind_some, k3 _ (by omega), Option.bind_some, hn, if_neg (by simp), H.wrap_succ hlt (by omega)]
    by_cases hiw : i < w
    · have hne : rkF (l.getD i z35) ≠ m := fun e => by
        have := hr.first i hiw
        rw [e, H.lessB_irr] at this; cases this
      rw [if_pos (by omega), Option.bind_some, Option.bind_some, k4 _ (by omega), Option.bind_some, decide_eq_false hne, if_neg (by simp)]
      exact hK k (by omega)
    · rw [if_neg (by omega)]
      exact hK k (by omega)
theorem ArbLeast : phaetonlaw06_ArbLeast.Pure := by
  intro l0 _ _
  obtain ⟨K0, hh⟩ := head06_k
  obtain ⟨K1, k1⟩ : ∃ K, ∀ k, K ≤ k → phaetonref06_Frames.f k l0 10 = some (madeN l0 10) := frames_k l0 10 (by decide)
  have hok := madeN_ok l0 10
  have hlen : (madeN l0 10).length ≤ 10 := by rw [madeN_len]; omega
  generalize madeN l0 10 = l at k1 hok hlen
  by_cases hne : l.length = 0
  · obtain rfl := List.eq_nil_of_length_eq_zero hne
    obtain ⟨n1, n2, n3⟩ := race_nil
    refine ⟨K0 + K1, ?_⟩
    unfold phaetonlaw06_ArbLeast.f
    rw [hh _ (by omega), Option.bind_some, k1 _ (by omega), Option.bind_some, n1, Option.bind_some, if_pos (by simp), if_pos rfl, if_pos rfl]
  · obtain ⟨w, m, hr⟩ := raced l hok (by omega) (by omega)
    have hw := hr.lt
    obtain ⟨K2, k2⟩ := least_l0 l hok (by omega) hr l.length 0 (by omega)
    refine ⟨K0 + K1 + K2 + 2, ?_⟩
    unfold phaetonlaw06_ArbLeast.f
    rw [hh _ (by omega), Option.bind_some, k1 _ (by omega), Option.bind_some, hr.win, Option.bind_some, if_neg (by omega), if_neg (by omega), decide_eq_false (by omega), phaetonlaw06_ArbLeast.j0.eq_2, if_neg (by simp)]
    exact k2 _ (by omega)
end Go.Proofs.Ytcdbndjicjghgaa.Pure

/- A frame is lost where it drives 1 first while the line has 0, and up to there its bits are the line's; those that stay in have the line's bits to their end: at most 10 frames, each made right. -/
import Derived.Test.YtcdbndjicjghgaaPx10
import Derived.Test.YtcdbndjicjghgaaPureHead06
set_option linter.unusedVariables false
set_option linter.unusedSimpArgs false
namespace Go.Proofs.Ytcdbndjicjghgaa.Pure
open Go.RowKit Go.Proofs.Ytcdbndjicjghgaa.PB Go.Proofs.Ytcdbndjicjghgaa.Px Go.Proofs.YtcdbndjicjghgaaW.PrintWords Go.Proofs.YtcdbndjicjghgaaW.PrintLast Go.Proofs.YtcdbndjicjghgaaW.PrintMore
open Go.Proofs.Ytcdbndjicjghgaa.H (RankL lessB whereB leastB Parts IdOk rankF)
theorem lostl_l0 (l : List Fr) (hok : ∀ x ∈ l, FrOk x) (hl : l.length ≤ 1000000) {w : Nat} {m : List Int} (hr : Raced l w m) : ∀ d i : Nat, i + d = l.length → Ev (fun k => phaetonlaw06_ArbLost.l0 k l true (l.map (lostF m)) m (i : Int)) true := by
  intro d
  have hm : RankL m := hr.rank ▸ rkF_RankL _
  have hml := hm.len
  induction d with
  | zero =>
    intro i hi
    refine Ev.step (f := fun _ => some true) (fun k => ?_) (Ev.now _)
    rw [phaetonlaw06_ArbLost.l0.eq_2, if_neg (by omega), if_pos rfl]
  | succ d ih =>
    intro i hi
    have hlt : i < l.length := by omega
    have hx := rkF_RankL (l.getD i z35)
    have hxl := hx.len
    obtain ⟨K, hK⟩ := ih (i + 1) (by omega)
    obtain ⟨K1, k1⟩ := r6rank_k (getD_okT hok hlt)
    have hg : (l.map (lostF m)).getD i 0 = lostF m (l.getD i z35) := getD_mapT _ z35 0 l hlt
    rcases hr.all i hlt with h | h
    · obtain ⟨K2, k2⟩ := ints_k m m (by omega)
      rw [decide_eq_true rfl] at k2
      refine ⟨K + K1 + K2 + 1, fun k hk => ?_⟩
      obtain ⟨k, rfl⟩ : ∃ m, k = m + 1 := ⟨k - 1, by omega⟩
      dsimp only
      have hv : lostF m (l.getD i z35) = -1 := if_pos h
      rw [phaetonlaw06_ArbLost.l0.eq_2, if_pos (by omega), if_pos (by omega), rdT_nat, k1 _ (by omega), Option.bind_some, if_pos (by rw [List.length_map]; omega), rd_nat, hg, hv, if_pos rfl, h, k2 _ (by omega), Option.bind_some, if_pos rfl, H.wrap_succ hlt (by omega)]
      exact hK k (by omega)
    · obtain ⟨p, hp, hlp⟩ := H.lessB_some _ _ h
      have hz := hm.zero_one hx hp h
      have hne : rkF (l.getD i z35) ≠ m := fun e => hp.ne e.symm
      have hv : lostF m (l.getD i z35) = (p : Int) := by
        unfold lostF
        rw [if_neg hne, H.whereB_parts _ _ _ _ hp.symm, Nat.zero_add]
      have h1 := hp.1
      have h2 := hp.2.1
      obtain ⟨K2, k2⟩ := ints_k ((rkF (l.getD i z35)).take p) (m.take p) (by rw [List.length_take]; omega)
      rw [decide_eq_true hp.2.2.1.symm] at k2
      refine ⟨K + K1 + K2 + 1, fun k hk => ?_⟩
      obtain ⟨k, rfl⟩ : ∃ m, k = m + 1 := ⟨k - 1, by omega⟩
      dsimp only
      rw [phaetonlaw06_ArbLost.l0.eq_2, if_pos (by omega), if_pos (by omega), rdT_nat, k1 _ (by omega), Option.bind_some, if_pos (by rw [List.length_map]; omega), rd_nat, hg, hv, if_neg (by omega), if_neg (by omega), if_neg (by omega), if_neg (by omega), if_pos (by omega), if_pos (by omega), rd_nat, if_pos hz.2, if_pos (by omega), rd_nat, if_pos hz.1, if_pos (by omega), if_pos (by omega), Int.toNat_natCast, k2 _ (by omega), Option.bind_some, if_pos rfl, H.wrap_succ hlt (by omega)]
      exact hK k (by omega)
theorem ArbLost : phaetonlaw06_ArbLost.Pure := by
  intro l0 _ _
  obtain ⟨K0, hh⟩ := head06_k
  obtain ⟨K1, k1⟩ : ∃ K, ∀ k, K ≤ k → phaetonref06_Frames.f k l0 10 = some (madeN l0 10) := frames_k l0 10 (by decide)
  have hok := madeN_ok l0 10
  have hlen : (madeN l0 10).length ≤ 10 := by rw [madeN_len]; omega
  generalize madeN l0 10 = l at k1 hok hlen
  by_cases hne : l.length = 0
  · obtain rfl := List.eq_nil_of_length_eq_zero hne
    obtain ⟨n1, n2, n3⟩ := race_nil
    refine ⟨K0 + K1 + 1, ?_⟩
    unfold phaetonlaw06_ArbLost.f
    rw [hh _ (by omega), Option.bind_some, k1 _ (by omega), Option.bind_some, n2, Option.bind_some, n3, Option.bind_some, if_pos (by simp), phaetonlaw06_ArbLost.l0.eq_2, if_neg (by simp), if_pos rfl]
  · obtain ⟨w, m, hr⟩ := raced l hok (by omega) (by omega)
    obtain ⟨K2, k2⟩ := lostl_l0 l hok (by omega) hr l.length 0 (by omega)
    refine ⟨K0 + K1 + K2, ?_⟩
    unfold phaetonlaw06_ArbLost.f
    rw [hh _ (by omega), Option.bind_some, k1 _ (by omega), Option.bind_some, hr.lost, Option.bind_some, hr.line, Option.bind_some, if_pos (by rw [List.length_map])]
    exact k2 _ (by omega)
end Go.Proofs.Ytcdbndjicjghgaa.Pure

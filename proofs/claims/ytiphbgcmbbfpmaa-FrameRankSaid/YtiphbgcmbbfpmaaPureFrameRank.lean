/- Two right frames have one rank just if Ext, ID and Remote are alike; else neither rank begins the other one: data of at most 100 bytes. -/
import Derived.Test.YtiphbgcmbbfpmaaPx15
import Derived.Test.YtiphbgcmbbfpmaaPureHead04
set_option linter.unusedVariables false
set_option linter.unusedSimpArgs false
namespace Go.Proofs.Ytiphbgcmbbfpmaa.Pure
open Go.RowKit Go.Proofs.Ytiphbgcmbbfpmaa.PB Go.Proofs.Ytiphbgcmbbfpmaa.Px Go.Proofs.YtiphbgcmbbfpmaaW.PrintWords Go.Proofs.YtiphbgcmbbfpmaaW.PrintLast Go.Proofs.YtiphbgcmbbfpmaaW.PrintMore
open Go.Proofs.Ytiphbgcmbbfpmaa.H (RankL lessB whereB leastB Parts IdOk rankF bitI bitsOf spreadB)
theorem FrameRank : phaetonlaw04_FrameRank.Pure := by
  intro e id rm ln d e' id' rm' ln' d' _ _ _ hwd _ _ _ hwd'
  have hU : ∀ x ∈ d, H.U8 x := fun x hx => H.of_wf8 (hwd x hx)
  have hU' : ∀ x ∈ d', H.U8 x := fun x hx => H.of_wf8 (hwd' x hx)
  obtain ⟨K0, hh⟩ := head04_k
  by_cases g : (d.length : Int) > 100
  · refine ⟨K0 + 1, ?_⟩
    unfold phaetonlaw04_FrameRank.f
    rw [hh _ (by omega), Option.bind_some, great_eq, Option.bind_some, decide_eq_true g, if_pos rfl, phaetonlaw04_FrameRank.j0.eq_2, if_pos rfl, if_pos rfl]
  by_cases g' : (d'.length : Int) > 100
  · refine ⟨K0 + 1, ?_⟩
    unfold phaetonlaw04_FrameRank.f
    rw [hh _ (by omega), Option.bind_some, great_eq, Option.bind_some, decide_eq_false g, if_neg (by simp), great_eq, Option.bind_some, decide_eq_true g', if_pos rfl, phaetonlaw04_FrameRank.j0.eq_2, if_pos rfl, if_pos rfl]
  by_cases hF : FRight e id rm ln d
  case neg =>
    refine ⟨K0 + 2, ?_⟩
    unfold phaetonlaw04_FrameRank.f
    rw [hh _ (by omega), Option.bind_some, great_eq, Option.bind_some, decide_eq_false g, if_neg (by simp), great_eq, Option.bind_some, decide_eq_false g', if_neg (by simp), r4right_k _ _ _ _ _ _ (by omega), Option.bind_some, decide_eq_false hF, if_neg (by simp), phaetonlaw04_FrameRank.j0.eq_2, if_pos rfl, if_pos rfl]
  by_cases hF' : FRight e' id' rm' ln' d'
  case neg =>
    refine ⟨K0 + 2, ?_⟩
    unfold phaetonlaw04_FrameRank.f
    rw [hh _ (by omega), Option.bind_some, great_eq, Option.bind_some, decide_eq_false g, if_neg (by simp), great_eq, Option.bind_some, decide_eq_false g', if_neg (by simp), r4right_k _ _ _ _ _ _ (by omega), Option.bind_some, decide_eq_true hF, if_pos rfl, r4right_k _ _ _ _ _ _ (by omega), Option.bind_some, decide_eq_false hF', Bool.not_false, phaetonlaw04_FrameRank.j0.eq_2, if_pos rfl, if_pos rfl]
  have hrl := H.rankF_len e id rm
  have hrl' := H.rankF_len e' id' rm'
  have hrb : (rankF e id rm).length ≤ 32 := by rw [hrl]; split <;> omega
  have hrb' : (rankF e' id' rm').length ≤ 32 := by rw [hrl']; split <;> omega
  have hhl := headF_len e id rm ln d
  -- the head holds the rank
  have hhr : ((headF e id rm ln d).take (1 + (rankF e id rm).length)).drop 1 = rankF e id rm := by
    have : headF e id rm ln d = 0 :: (rankF e id rm ++ ((if e = true then [0, 0] else [0]) ++ (bitsOf ln 4 ++ spreadB d))) := by unfold headF preF; simp [List.append_assoc]
    rw [this, Nat.add_comm, List.take_succ_cons, List.drop_succ_cons, List.drop_zero, List.take_left' rfl]
  obtain ⟨K1, k1⟩ := same2_k (rankF e id rm) (rankF e id rm) (by omega)
  rw [decide_eq_true rfl] at k1
  obtain ⟨K2, k2⟩ := same2_k (rankF e id rm) (rankF e' id' rm') (by omega)
  have hw10 : wrap64 (1 + ((rankF e id rm).length : Int)) = ((1 + (rankF e id rm).length : Nat) : Int) := by unfold wrap64; omega
  have hw1 := Aside0.mk hw10
  clear hw10
  -- alike just if the parts are
  have hiff : decide (rankF e id rm = rankF e' id' rm') = (if (e == e') = true then (if id = id' then (rm == rm') else false) else false) := by
    by_cases c : rankF e id rm = rankF e' id' rm'
    · obtain ⟨h1, h2, h3⟩ := H.rankF_inj hF.1 hF'.1 c
      rw [decide_eq_true c, h1, h2, h3]; simp
    · rw [decide_eq_false c]
      by_cases h1 : e = e'
      · rw [if_pos (by rw [h1]; simp)]
        by_cases h2 : id = id'
        · rw [if_pos h2]
          by_cases h3 : rm = rm'
          · subst h1 h2 h3; exact absurd rfl c
          · symm; simpa using h3
        · rw [if_neg h2]
      · rw [if_neg (by simpa using h1)]
  -- neither begins the other one
  have hmn : ∃ q : Nat, mn ((rankF e id rm).length : Int) ((rankF e' id' rm').length : Int) = (q : Int) ∧ q ≤ (rankF e id rm).length ∧ q ≤ (rankF e' id' rm').length ∧ (q = (rankF e id rm).length ∨ q = (rankF e' id' rm').length) := by
    unfold mn
    split
    · exact ⟨_, rfl, by omega, by omega, Or.inr rfl⟩
    · exact ⟨_, rfl, by omega, by omega, Or.inl rfl⟩
  obtain ⟨q, hq, hq1, hq2, hq3⟩ := hmn
  obtain ⟨K3, k3⟩ := same2_k ((rankF e id rm).take q) ((rankF e' id' rm').take q) (by rw [List.length_take]; omega)
  have hpre : decide ((rankF e id rm).take q = (rankF e' id' rm').take q) = decide (rankF e id rm = rankF e' id' rm') := by
    apply decide_eq_decide.mpr
    constructor
    · intro c
      by_cases hn : rankF e id rm = rankF e' id' rm'
      · exact hn
      · obtain ⟨p, hp⟩ := (H.rankF_RankL e id rm).parts (H.rankF_RankL e' id' rm') hn
        exact absurd c (hp.take_ne (by have := hp.1; have := hp.2.1; omega))
    · intro c; rw [c]
  rw [hpre] at k3
  have h13 : (((rankF e id rm).length : Int) = 13 ∧ e = false) ∨ (((rankF e id rm).length : Int) = 32 ∧ e = true) := by
    cases e with
    | false => left; rw [hrl]; exact ⟨rfl, rfl⟩
    | true => right; rw [hrl]; exact ⟨rfl, rfl⟩
  have hj1 : ∀ k, K2 + K3 + 1 ≤ k → phaetonlaw04_FrameRank.j1 k true (rankF e id rm) (rankF e' id' rm') false e id rm ln d e' id' rm' ln' d' = some true := fun k hk => by
    obtain ⟨k, rfl⟩ : ∃ m, k = m + 1 := ⟨k - 1, by omega⟩
    rw [phaetonlaw04_FrameRank.j1.eq_2, if_neg (by simp)]
    by_cases c1 : (e == e') = true
    · rw [if_pos c1] at hiff
      by_cases c2 : id = id'
      · rw [if_pos c2] at hiff
        rw [hiff] at k2 k3
        rw [if_pos c1, if_pos c2, if_pos rfl, k2 _ (by omega), Option.bind_some, if_pos (by simp), hq, if_pos (by omega), if_pos (by omega), if_pos (by omega), Int.toNat_natCast, k3 _ (by omega), Option.bind_some, if_pos (by simp)]
      · rw [if_neg c2] at hiff
        rw [hiff] at k2 k3
        rw [if_pos c1, if_neg c2, if_pos rfl, k2 _ (by omega), Option.bind_some, if_pos (by decide), hq, if_pos (by omega), if_pos (by omega), if_pos (by omega), Int.toNat_natCast, k3 _ (by omega), Option.bind_some, if_pos (by decide)]
    · rw [if_neg c1] at hiff
      rw [hiff] at k2 k3
      rw [if_neg c1, if_pos rfl, k2 _ (by omega), Option.bind_some, if_pos (by decide), hq, if_pos (by omega), if_pos (by omega), if_pos (by omega), Int.toNat_natCast, k3 _ (by omega), Option.bind_some, if_pos (by decide)]
  refine ⟨K0 + K1 + K2 + K3 + 4, ?_⟩
  unfold phaetonlaw04_FrameRank.f
  rw [hh _ (by omega), Option.bind_some, great_eq, Option.bind_some, decide_eq_false g, if_neg (by simp), great_eq, Option.bind_some, decide_eq_false g', if_neg (by simp), r4right_k _ _ _ _ _ _ (by omega), Option.bind_some, decide_eq_true hF, if_pos rfl, r4right_k _ _ _ _ _ _ (by omega), Option.bind_some, decide_eq_true hF', Bool.not_true, phaetonlaw04_FrameRank.j0.eq_2, if_neg (by simp), frank_eq hF, Option.bind_some, frank_eq hF', Option.bind_some, fhead_eq hF, Option.bind_some]
  rcases h13 with ⟨h13, he⟩ | ⟨h13, he⟩
  · have hk : (if e = true then 39 else 19 : Nat) = 19 := by rw [he]; rfl
    rw [if_pos h13, if_neg (by rw [h13, he]; decide), if_neg (by rw [hhl, hk]; omega), hw1.out, if_pos (by omega), if_pos (by rw [hhl, hk]; omega), Int.toNat_natCast, hhr, k1 _ (by omega), Option.bind_some, Bool.not_true]
    exact hj1 _ (by omega)
  · have hk : (if e = true then 39 else 19 : Nat) = 39 := by rw [he]; rfl
    rw [if_neg (by omega), if_pos h13, if_neg (by rw [h13, he]; decide), if_neg (by rw [hhl, hk]; omega), hw1.out, if_pos (by omega), if_pos (by rw [hhl, hk]; omega), Int.toNat_natCast, hhr, k1 _ (by omega), Option.bind_some, Bool.not_true]
    exact hj1 _ (by omega)
end Go.Proofs.Ytiphbgcmbbfpmaa.Pure

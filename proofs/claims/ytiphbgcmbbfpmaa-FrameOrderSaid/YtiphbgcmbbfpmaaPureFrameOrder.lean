/- Of two frames of one kind of identifier the lesser one's rank has 0 where both first differ; of one identifier that with data stands ahead of the Remote one; of eleven alike bits that of eleven stands ahead of that of twenty-nine: data of at most 100 bytes. -/
import Derived.Test.YtiphbgcmbbfpmaaPx16
import Derived.Test.YtiphbgcmbbfpmaaPureHead04
set_option linter.unusedVariables false
set_option linter.unusedSimpArgs false
namespace Go.Proofs.Ytiphbgcmbbfpmaa.Pure
open Go.RowKit Go.Proofs.Ytiphbgcmbbfpmaa.PB Go.Proofs.Ytiphbgcmbbfpmaa.Px Go.Proofs.YtiphbgcmbbfpmaaW.PrintWords Go.Proofs.YtiphbgcmbbfpmaaW.PrintLast Go.Proofs.YtiphbgcmbbfpmaaW.PrintMore
open Go.Proofs.Ytiphbgcmbbfpmaa.H (RankL lessB whereB leastB Parts IdOk rankF bitI bitsOf spreadB)
/-- What is found where two ranks part: which one is ahead. -/
def aheadF (a b : List Int) : Int := if a = b then 0 else if lessB a b = true then -1 else 1
theorem order_l0 (e : Bool) (id : Int) (rm : Bool) (ln : Int) (d : List Int) (e' : Bool) (id' : Int) (rm' : Bool) (ln' : Int) (d' : List Int) (a b : List Int) (v : Int) (ha : RankL a) (hb : RankL b) (hj : ∃ K, ∀ k, K ≤ k → phaetonlaw04_FrameOrder.j2 k true (aheadF a b) e id rm ln d e' id' rm' ln' d' = some true) :
    ∃ K, ∀ k, K ≤ k → phaetonlaw04_FrameOrder.l0 k true a b 0 0 e id rm ln d e' id' rm' ln' d' = some true := by
  obtain ⟨K, hK⟩ := hj
  have hal := ha.len
  have hbl := hb.len
  by_cases hn : a = b
  · subst hn
    have hv : aheadF a a = 0 := if_pos rfl
    rw [hv] at hK
    have key : ∀ c i : Nat, i + c = a.length → ∃ K, ∀ k, K ≤ k → phaetonlaw04_FrameOrder.l0 k true a a 0 (i : Int) e id rm ln d e' id' rm' ln' d' = some true := by
      intro c
      induction c with
      | zero =>
        intro i hi
        refine ⟨K + 1, fun k hk => ?_⟩
        obtain ⟨k, rfl⟩ : ∃ m, k = m + 1 := ⟨k - 1, by omega⟩
        rw [phaetonlaw04_FrameOrder.l0.eq_2, if_neg (by omega)]
        exact hK k (by omega)
      | succ c ih =>
        intro i hi
        obtain ⟨K2, k2⟩ := ih (i + 1) (by omega)
        refine ⟨K2 + 1, fun k hk => ?_⟩
        obtain ⟨k, rfl⟩ : ∃ m, k = m + 1 := ⟨k - 1, by omega⟩
        rw [phaetonlaw04_FrameOrder.l0.eq_2, if_pos (by omega), if_pos (by omega), if_pos rfl, if_pos (by omega), Int.sub_self, show wrap64 0 = 0 from (by unfold wrap64; omega), H.wrap_succ (n := a.length) (by omega) (by omega)]
        exact k2 k (by omega)
    exact key a.length 0 (by omega)
  · obtain ⟨p, hp⟩ := ha.parts hb hn
    have h1 := hp.1
    have h2 := hp.2.1
    have hdv : wrap64 (a.getD p 0 - b.getD p 0) = aheadF a b := by
      have hb1 := ha.bit h1
      have hb2 := hb.bit h2
      have hne := hp.2.2.2
      unfold aheadF
      rw [if_neg hn, H.lessB_parts a b p hp]
      by_cases c : a.getD p 0 < b.getD p 0
      · rw [if_pos (decide_eq_true c)]; unfold wrap64; omega
      · rw [if_neg (by simpa using c)]; unfold wrap64; omega
    have hnz : aheadF a b ≠ 0 := by unfold aheadF; rw [if_neg hn]; split <;> decide
    have key : ∀ c i : Nat, i + c = p → ∃ K, ∀ k, K ≤ k → phaetonlaw04_FrameOrder.l0 k true a b 0 (i : Int) e id rm ln d e' id' rm' ln' d' = some true := by
      intro c
      induction c with
      | zero =>
        intro i hi
        obtain rfl : i = p := by omega
        refine ⟨K + 2, fun k hk => ?_⟩
        obtain ⟨k, rfl⟩ : ∃ m, k = m + 2 := ⟨k - 2, by omega⟩
        rw [phaetonlaw04_FrameOrder.l0.eq_2, if_pos (by omega), if_pos (by omega), if_pos rfl, if_pos (by omega), rd_nat, rd_nat, hdv, H.wrap_succ (n := a.length) (by omega) (by omega), phaetonlaw04_FrameOrder.l0.eq_2]
        have := hK k (by omega)
        split
        · split
          · first | exact this | (rw [if_neg hnz]; exact this)
          · exact this
        · exact this
      | succ c ih =>
        intro i hi
        obtain ⟨K2, k2⟩ := ih (i + 1) (by omega)
        refine ⟨K2 + 1, fun k hk => ?_⟩
        obtain ⟨k, rfl⟩ : ∃ m, k = m + 1 := ⟨k - 1, by omega⟩
        have he := H.getD_of_take hp.2.2.1 (show i < p by omega)
        rw [phaetonlaw04_FrameOrder.l0.eq_2, if_pos (by omega), if_pos (by omega), if_pos rfl, if_pos (by omega), rd_nat, rd_nat, he, Int.sub_self, show wrap64 0 = 0 from (by unfold wrap64; omega), H.wrap_succ (n := a.length) (by omega) (by omega)]
        exact k2 k (by omega)
    exact key p 0 (by omega)
theorem order_j2 (e : Bool) (id : Int) (rm : Bool) (ln : Int) (d : List Int) (e' : Bool) (id' : Int) (rm' : Bool) (ln' : Int) (d' : List Int) (h : IdOk e id) (h' : IdOk e' id') : ∃ K, ∀ k, K ≤ k → phaetonlaw04_FrameOrder.j2 k true (aheadF (rankF e id rm) (rankF e' id' rm')) e id rm ln d e' id' rm' ln' d' = some true := by
  refine ⟨2, fun k hk => ?_⟩
  obtain ⟨k, rfl⟩ : ∃ m, k = m + 2 := ⟨k - 2, by omega⟩
  have hnz : rankF e id rm ≠ rankF e' id' rm' → aheadF (rankF e id rm) (rankF e' id' rm') ≠ 0 := fun hn => by unfold aheadF; rw [if_neg hn]; split <;> decide
  have hlt : decide (aheadF (rankF e id rm) (rankF e' id' rm') < 0) = lessB (rankF e id rm) (rankF e' id' rm') := by
    unfold aheadF
    by_cases c : rankF e id rm = rankF e' id' rm'
    · rw [if_pos c, c, H.lessB_irr]; rfl
    · rw [if_neg c]
      cases lessB (rankF e id rm) (rankF e' id' rm') <;> rfl
  have hinj := fun hr => H.rankF_inj (rm := rm) (rm' := rm') h h' hr
  rw [phaetonlaw04_FrameOrder.j2.eq_2]
  by_cases he : e = e'
  · subst he
    have hs := H.rankF_less_same (rm := rm) (rm' := rm') h h'
    rw [if_pos (by simp)]
    by_cases hi : id = id'
    · rw [if_pos hi] at hs
      rw [show (id != id') = false by rw [hi]; simp, phaetonlaw04_FrameOrder.j3.eq_2, if_neg (by simp), if_pos (by simp), if_pos rfl, hlt, hs]
      cases rm <;> cases rm' <;> rfl
    · rw [if_neg hi] at hs
      have hz := hnz (fun g => hi (hinj g).2.1)
      rw [show (id != id') = true by simpa using hi, phaetonlaw04_FrameOrder.j3.eq_2, if_pos rfl, if_pos rfl, hlt, hs, if_pos (by simp), if_neg hz]
  · have hz := hnz (fun g => he (hinj g).1)
    have hb : (e == e') = false := by simpa using he
    rw [hb, if_neg (by simp), phaetonlaw04_FrameOrder.j3.eq_2, if_neg (by simp), hb, if_neg (by simp)]
    cases e with
    | true => rw [if_pos rfl, if_pos rfl, if_neg hz]
    | false =>
      cases e' with
      | false => exact absurd rfl he
      | true =>
        rw [if_neg (by simp), if_pos rfl]
        by_cases hp : id = id' / 262144
        · have hl := H.rankF_less_kinds (rm := rm) (rm' := rm') h h' hp
          rw [hl] at hlt
          rw [if_pos hp, if_pos rfl, if_pos (of_decide_eq_true hlt)]
        · rw [if_neg hp, if_pos rfl, if_neg hz]
theorem FrameOrder : phaetonlaw04_FrameOrder.Pure := by
  intro e id rm ln d e' id' rm' ln' d' _ _ _ hwd _ _ _ hwd'
  have hU : ∀ x ∈ d, H.U8 x := fun x hx => H.of_wf8 (hwd x hx)
  have hU' : ∀ x ∈ d', H.U8 x := fun x hx => H.of_wf8 (hwd' x hx)
  obtain ⟨K0, hh⟩ := head04_k
  by_cases g : (d.length : Int) > 100
  · refine ⟨K0 + 1, ?_⟩
    unfold phaetonlaw04_FrameOrder.f
    rw [hh _ (by omega), Option.bind_some, great_eq, Option.bind_some, decide_eq_true g, if_pos rfl, phaetonlaw04_FrameOrder.j0.eq_2, if_pos rfl, if_pos rfl]
  by_cases g' : (d'.length : Int) > 100
  · refine ⟨K0 + 1, ?_⟩
    unfold phaetonlaw04_FrameOrder.f
    rw [hh _ (by omega), Option.bind_some, great_eq, Option.bind_some, decide_eq_false g, if_neg (by simp), great_eq, Option.bind_some, decide_eq_true g', if_pos rfl, phaetonlaw04_FrameOrder.j0.eq_2, if_pos rfl, if_pos rfl]
  by_cases hF : FRight e id rm ln d
  case neg =>
    refine ⟨K0 + 2, ?_⟩
    unfold phaetonlaw04_FrameOrder.f
    rw [hh _ (by omega), Option.bind_some, great_eq, Option.bind_some, decide_eq_false g, if_neg (by simp), great_eq, Option.bind_some, decide_eq_false g', if_neg (by simp), r4right_k _ _ _ _ _ _ (by omega), Option.bind_some, decide_eq_false hF, if_neg (by simp), phaetonlaw04_FrameOrder.j0.eq_2, if_pos rfl, if_pos rfl]
  by_cases hF' : FRight e' id' rm' ln' d'
  case neg =>
    refine ⟨K0 + 2, ?_⟩
    unfold phaetonlaw04_FrameOrder.f
    rw [hh _ (by omega), Option.bind_some, great_eq, Option.bind_some, decide_eq_false g, if_neg (by simp), great_eq, Option.bind_some, decide_eq_false g', if_neg (by simp), r4right_k _ _ _ _ _ _ (by omega), Option.bind_some, decide_eq_true hF, if_pos rfl, r4right_k _ _ _ _ _ _ (by omega), Option.bind_some, decide_eq_false hF', Bool.not_false, phaetonlaw04_FrameOrder.j0.eq_2, if_pos rfl, if_pos rfl]
  have hrl := H.rankF_len e id rm
  have hrl' := H.rankF_len e' id' rm'
  have hrb : (rankF e id rm).length ≤ 32 := by rw [hrl]; split <;> omega
  have hrb' : (rankF e' id' rm').length ≤ 32 := by rw [hrl']; split <;> omega
  have hRa := H.rankF_RankL e id rm
  have hRb := H.rankF_RankL e' id' rm'
  obtain ⟨K1, k1⟩ := order_l0 e id rm ln d e' id' rm' ln' d' (rankF e id rm) (rankF e' id' rm') (aheadF (rankF e id rm) (rankF e' id' rm')) hRa hRb (order_j2 e id rm ln d e' id' rm' ln' d' hF.1 hF'.1)
  refine ⟨K0 + K1 + 3, ?_⟩
  unfold phaetonlaw04_FrameOrder.f
  rw [hh _ (by omega), Option.bind_some, great_eq, Option.bind_some, decide_eq_false g, if_neg (by simp), great_eq, Option.bind_some, decide_eq_false g', if_neg (by simp), r4right_k _ _ _ _ _ _ (by omega), Option.bind_some, decide_eq_true hF, if_pos rfl, r4right_k _ _ _ _ _ _ (by omega), Option.bind_some, decide_eq_true hF', Bool.not_true, phaetonlaw04_FrameOrder.j0.eq_2, if_neg (by simp), frank_eq hF, Option.bind_some, frank_eq hF', Option.bind_some]
  exact k1 _ (by omega)
end Go.Proofs.Ytiphbgcmbbfpmaa.Pure

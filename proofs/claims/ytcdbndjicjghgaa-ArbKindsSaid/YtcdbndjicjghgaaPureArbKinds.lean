/- Of two frames of a kind the lesser identifier wins; of one identifier of 11 bits data is ahead of a remote frame, and both are ahead of each frame of 29 bits that begins with these. -/
import Derived.Test.YtcdbndjicjghgaaPx4
import Derived.Test.YtcdbndjicjghgaaPx3
import Derived.Test.YtcdbndjicjghgaaPureRace
import Derived.Test.YtcdbndjicjghgaaPureRank
set_option linter.unusedVariables false
set_option linter.unusedSimpArgs false
namespace Go.Proofs.Ytcdbndjicjghgaa.Pure
open Go.RowKit Go.Proofs.Ytcdbndjicjghgaa.PB Go.Proofs.Ytcdbndjicjghgaa.Px Go.Proofs.YtcdbndjicjghgaaW.PrintWords Go.Proofs.YtcdbndjicjghgaaW.PrintLast Go.Proofs.YtcdbndjicjghgaaW.PrintMore
open Go.Proofs.Ytcdbndjicjghgaa.H (RankL lessB whereB leastB Parts IdOk rankF bitI)
theorem kinds_head : ∃ K, ∀ k, K ≤ k → phaetonlaw06_head.f k = some true := by
  refine ⟨40, fun k hk => at_rounds (g := fun k => phaetonlaw06_head.f k) phaetonlaw06_head.mono hk ?_⟩
  decide +kernel
abbrev KFr := S35
def kRk (x : KFr) : List Int := rankF x.f0 x.f1 x.f2
theorem kinds_win (l : List KFr) (h : ∀ x ∈ l, IdOk x.f0 x.f1) (hl : l.length ≤ 1000) : arb_Win.f l = some (leastB (l.map kRk) l.length) := by
  have hR : ∀ r ∈ l.map kRk, RankL r := fun r hr => by
    obtain ⟨x, _, rfl⟩ := List.mem_map.mp hr
    exact H.rankF_RankL _ _ _
  have he : arb_ranks l = l.map kRk := List.map_congr_left fun x hx => rankB_eq x.f2 (h x hx)
  unfold arb_Win.f
  rw [if_pos (by omega), he, race_win _ hR, List.length_map]
theorem least2 (a b : List Int) : leastB [a, b] 2 = if lessB b a = true then 1 else 0 := by
  have e1 : leastB [a, b] 1 = 0 := if_pos (Or.inl (show (-1 : Int) < 0 by decide))
  rw [leastB, e1]
  by_cases h : lessB b a = true
  · rw [if_pos h]; exact if_pos (Or.inr h)
  · rw [if_neg h]
    refine if_neg ?_
    rintro (h1 | h1)
    · exact absurd h1 (by decide)
    · exact h h1
theorem least3 (a b c : List Int) (h1 : lessB b a = true) (h2 : lessB c b = true) : leastB [a, b, c] 3 = 2 := by
  have e1 : leastB [a, b, c] 1 = 0 := if_pos (Or.inl (show (-1 : Int) < 0 by decide))
  have e2 : leastB [a, b, c] 2 = 1 := by rw [leastB, e1]; exact if_pos (Or.inr h1)
  rw [leastB, e2]; exact if_pos (Or.inr h2)
theorem kinds_made (e : Bool) (id : Int) : IdOk e (made_id e id) := by
  unfold IdOk made_id
  cases e with
  | false => rw [if_neg (by simp), if_neg (by simp), H.and_2047]; omega
  | true => rw [if_pos rfl, if_pos rfl, H.and_536870911]; omega
theorem win_two (x y : KFr) (hx : IdOk x.f0 x.f1) (hy : IdOk y.f0 y.f1) : arb_Win.f [x, y] = some (if lessB (kRk y) (kRk x) = true then 1 else 0) := by
  rw [kinds_win _ (fun z hz => by simp only [List.mem_cons, List.not_mem_nil, or_false] at hz; rcases hz with rfl | rfl <;> assumption) (by simp)]
  exact congrArg some (least2 _ _)
theorem kinds_j1 {ea eb : Bool} {ia ib : Int} (ha : IdOk ea ia) (hb : IdOk eb ib) (ra : Bool) (la : Int) (da : List Int) (rb : Bool) (lb : Int) (db : List Int) (k : Nat) :
    phaetonlaw06_ArbKinds.j1 (k + 1) true false ea ia ra la da eb ib rb lb db = some true := by
  have i0 : 0 ≤ ia := ha.1
  have j0 : 0 ≤ ib := hb.1
  have eA := H.and_2047 ia
  have eB := H.and_262143 ib
  have w1 : wrap64 (Go.bits .and .i64 ia 2047 * 262144) = ia % 2048 * 262144 := by rw [eA]; unfold wrap64; omega
  have w2 : wrap64 (ia % 2048 * 262144 + Go.bits .and .i64 ib 262143) = ia % 2048 * 262144 + ib % 262144 := by rw [eB]; unfold wrap64; omega
  have hx : IdOk true (ia % 2048 * 262144 + ib % 262144) := ⟨by omega, by rw [if_pos rfl]; omega⟩
  have hr : IdOk false (ia % 2048) := ⟨by omega, by rw [if_neg (by simp)]; omega⟩
  have hk : ia % 2048 = (ia % 2048 * 262144 + ib % 262144) / 262144 := by omega
  have l1 : lessB (rankF false (ia % 2048) true) (rankF true (ia % 2048 * 262144 + ib % 262144) rb) = true := H.rankF_less_kinds hr hx hk
  have l2 : lessB (rankF false (ia % 2048) false) (rankF false (ia % 2048) true) = true := by rw [H.rankF_less_same hr hr, if_pos rfl]; rfl
  have W3 : arb_Win.f [(⟨true, ia % 2048 * 262144 + ib % 262144, rb, 0, []⟩ : KFr), ⟨false, ia % 2048, true, 0, []⟩, ⟨false, ia % 2048, false, 0, []⟩] = some 2 := by
    rw [kinds_win _ (fun z hz => by simp only [List.mem_cons, List.not_mem_nil, or_false] at hz; rcases hz with rfl | rfl | rfl <;> assumption) (by simp)]
    exact congrArg some (least3 _ _ _ l1 l2)
  have W2 : arb_Win.f [(⟨true, ia % 2048 * 262144 + ib % 262144, rb, 0, []⟩ : KFr), ⟨false, ia % 2048, true, 0, []⟩] = some 1 := by
    rw [win_two _ _ hx hr]; exact congrArg some (if_pos l1)
  have W1 : arb_Win.f [(⟨false, ia % 2048, true, 0, []⟩ : KFr), ⟨false, ia % 2048, false, 0, []⟩] = some 1 := by
    rw [win_two _ _ hr hr]; exact congrArg some (if_pos l2)
  rw [phaetonlaw06_ArbKinds.j1.eq_2, if_neg (by decide), w1, w2, eA, W3, Option.bind_some, if_pos rfl, W2, Option.bind_some, if_pos rfl, W1, Option.bind_some, if_pos rfl, if_pos rfl]
theorem kinds_j0 {ea eb : Bool} {ia ib ic : Int} (ha : IdOk ea ia) (hb : IdOk eb ib) (hc : IdOk ea ic) (ra : Bool) (la : Int) (da : List Int) (rb : Bool) (lb : Int) (db : List Int) (rc : Bool) (lc : Int) (dc : List Int) (k : Nat) :
    phaetonlaw06_ArbKinds.j0 (k + 2) true ea ia ra la da eb ib rb lb db ea ic rc lc dc = some true := by
  rw [show k + 2 = (k + 1) + 1 from rfl, phaetonlaw06_ArbKinds.j0.eq_2]
  by_cases h : ia = ic
  · rw [if_pos h]; exact kinds_j1 ha hb ra la da rb lb db k
  · have hw := win_two ⟨ea, ia, ra, la, da⟩ ⟨ea, ic, rc, lc, dc⟩ ha hc
    have hl : lessB (kRk ⟨ea, ic, rc, lc, dc⟩) (kRk ⟨ea, ia, ra, la, da⟩) = decide (ic < ia) := by
      unfold kRk
      rw [H.rankF_less_same hc ha, if_neg (fun e => h e.symm)]
    rw [hl] at hw
    have hv : (((if decide (ic < ia) = true then (1 : Int) else 0) == 0) != decide (ia < ic)) = false := by
      by_cases g : ic < ia
      · rw [if_pos (decide_eq_true g), decide_eq_false (by omega)]; rfl
      · rw [if_neg (by simp; omega), decide_eq_true (by omega)]; rfl
    rw [if_neg h, hw, Option.bind_some, hv]
    exact kinds_j1 ha hb ra la da rb lb db k
theorem ArbKinds : phaetonlaw06_ArbKinds.Pure := by
  intro ea ia ra la da eb ib rb lb db _ _ _ _ _ _ _ _
  obtain ⟨K, hK⟩ := kinds_head
  refine ⟨K + 2, ?_⟩
  have h1 := kinds_made ea ia
  have h2 := kinds_made eb ib
  have h3 := kinds_made eb (made_id eb ib)
  unfold phaetonlaw06_ArbKinds.f phaetonref06_Made.f
  rw [hK _ (by omega), Option.bind_some, Option.bind_some, Option.bind_some, Option.bind_some]
  dsimp only
  cases ea with
  | true =>
    rw [if_pos rfl]
    exact kinds_j0 h1 h2 ⟨h3.1, by have := h3.2; rw [if_pos rfl]; cases eb <;> simp at this <;> omega⟩ _ _ _ _ _ _ _ _ _ K
  | false =>
    rw [if_neg (by decide)]
    exact kinds_j0 h1 h2 ⟨by rw [H.and_2047]; omega, by rw [if_neg (by simp), H.and_2047]; omega⟩ _ _ _ _ _ _ _ _ _ K
end Go.Proofs.Ytcdbndjicjghgaa.Pure

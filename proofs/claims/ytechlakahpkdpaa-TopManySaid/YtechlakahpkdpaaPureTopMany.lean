/- Of many frames the one that wins is the one that wins against each of the others; in another order it is one of the same rank. -/
import Derived.Test.YtechlakahpkdpaaPx5
import Derived.Test.YtechlakahpkdpaaPureRace
import Derived.Test.YtechlakahpkdpaaPureFrame
set_option linter.unusedVariables false
set_option linter.unusedSimpArgs false
namespace Go.Proofs.Ytechlakahpkdpaa.PB
open Go.RowKit Go.Proofs.Ytechlakahpkdpaa.Px Go.Proofs.YtechlakahpkdpaaW.PrintWords Go.Proofs.YtechlakahpkdpaaW.PrintLast Go.Proofs.YtechlakahpkdpaaW.PrintMore
open Go.Proofs.Ytechlakahpkdpaa.H (RankL lessB whereB leastB Parts IdOk rankF)
theorem headT_k : ∃ K, ∀ k, K ≤ k → phaetontop_head06.f k = some true := by
  refine ⟨40, fun k hk => at_rounds (g := fun k => phaetontop_head06.f k) phaetontop_head06.mono hk ?_⟩
  decide +kernel
abbrev TFr := S26
def rkT (x : TFr) : List Int := rankF x.f0 x.f1 x.f2
def TOk (x : TFr) : Prop := FRight x.f0 x.f1 x.f2 x.f3 x.f4
theorem rkT_RankL (x : TFr) : RankL (rkT x) := H.rankF_RankL _ _ _
theorem ranksT {l : List TFr} (h : ∀ x ∈ l, TOk x) : arb_ranks l = l.map rkT := List.map_congr_left fun x hx => rankB_eq x.f2 (h x hx).1
theorem rksT_RankL (l : List TFr) : ∀ r ∈ l.map rkT, RankL r := fun r hr => by
  obtain ⟨x, _, rfl⟩ := List.mem_map.mp hr
  exact rkT_RankL x
theorem rdT_natT (l : List TFr) (i : Nat) : rd_T26 l (i : Int) = l.getD i z26 := by unfold rd_T26; rw [Int.toNat_natCast]
theorem rksT_getD (l : List TFr) {i : Nat} (hi : i < l.length) : (l.map rkT).getD i [] = rkT (l.getD i z26) := getD_map' rkT z26 [] l hi
theorem getD_memT {l : List TFr} {i : Nat} (hi : i < l.length) : l.getD i z26 ∈ l := by
  rw [List.getD_eq_getElem?_getD, List.getElem?_eq_getElem hi]; exact List.getElem_mem hi
theorem mem_getDT {l : List TFr} {x : TFr} (h : x ∈ l) : ∃ i, i < l.length ∧ l.getD i z26 = x := by
  obtain ⟨i, hi, rfl⟩ := List.getElem_of_mem h
  exact ⟨i, hi, by rw [List.getD_eq_getElem?_getD, List.getElem?_eq_getElem hi]; rfl⟩
theorem winT (l : List TFr) (h : ∀ x ∈ l, TOk x) (hl : l.length ≤ 1000) : arb_Win.f l = some (leastB (l.map rkT) l.length) := by
  unfold arb_Win.f
  rw [if_pos (by omega), ranksT h, race_win _ (rksT_RankL l), List.length_map]
theorem least2 (a b : List Int) : leastB [a, b] 2 = if lessB b a = true then 1 else 0 := by
  have e1 : leastB [a, b] 1 = 0 := if_pos (Or.inl (show (-1 : Int) < 0 by decide))
  rw [leastB, e1]
  by_cases h : lessB b a = true
  · rw [if_pos h]; exact if_pos (Or.inr h)
  · rw [if_neg h]
    refine if_neg ?_
    rintro (h1 | h1)
    · exact absurd h1 (by decide)
    · exact h h1
/-- Who wins has the least rank. -/
theorem many_win (l : List TFr) (h : ∀ x ∈ l, TOk x) (hl : l.length ≤ 1000) (hne : 0 < l.length) : ∃ w : Nat, w < l.length ∧ arb_Win.f l = some (w : Int) ∧ ∀ x ∈ l, rkT x = rkT (l.getD w z26) ∨ lessB (rkT (l.getD w z26)) (rkT x) = true := by
  obtain ⟨w, h1, h2, h3, _⟩ := H.leastB_spec (l.map rkT) (rksT_RankL l) l.length (by rw [List.length_map]; exact Nat.le_refl _) hne
  refine ⟨w, h2, by rw [winT l h hl, h1], fun x hx => ?_⟩
  obtain ⟨i, hi, rfl⟩ := mem_getDT hx
  have := h3 i hi
  rw [rksT_getD l hi, rksT_getD l h2] at this
  exact this
theorem many_two {x y : TFr} (hx : TOk x) (hy : TOk y) (h : rkT y = rkT x ∨ lessB (rkT x) (rkT y) = true) : arb_Win.f [x, y] = some 0 := by
  have e := winT [x, y] (fun z hz => by
    simp only [List.mem_cons, List.not_mem_nil, or_false] at hz
    rcases hz with rfl | rfl <;> assumption) (by simp)
  rw [e]
  have e2 : leastB ([x, y].map rkT) [x, y].length = if lessB (rkT y) (rkT x) = true then 1 else 0 := least2 (rkT x) (rkT y)
  rw [e2, if_neg]
  intro g
  rcases h with h | h
  · rw [h, H.lessB_irr] at g; cases g
  · rw [H.lessB_asymm h] at g; cases g
end Go.Proofs.Ytechlakahpkdpaa.PB
namespace Go.Proofs.Ytechlakahpkdpaa.Pure
open Go.RowKit Go.Proofs.Ytechlakahpkdpaa.PB Go.Proofs.Ytechlakahpkdpaa.Px Go.Proofs.YtechlakahpkdpaaW.PrintWords Go.Proofs.YtechlakahpkdpaaW.PrintLast Go.Proofs.YtechlakahpkdpaaW.PrintMore
open Go.Proofs.Ytechlakahpkdpaa.H (RankL lessB whereB leastB Parts IdOk rankF)
theorem many_l1 (l : List TFr) (hok : ∀ x ∈ l, TOk x) (hl : l.length ≤ 1000) {w : Nat} (hw : w < l.length) (hm : ∀ x ∈ l, rkT x = rkT (l.getD w z26) ∨ lessB (rkT (l.getD w z26)) (rkT x) = true) :
    ∀ d i : Nat, i + d = l.length → Ev (fun k => phaetontop_TopMany.l1 k l true (w : Int) (i : Int)) true := by
  intro d
  induction d with
  | zero =>
    intro i hi
    refine Ev.step (f := fun _ => some true) (fun k => ?_) (Ev.now _)
    simp only [phaetontop_TopMany.l1]
    rw [if_neg (by omega), if_pos trivial]
  | succ d ih =>
    intro i hi
    have hlt : i < l.length := by omega
    have h1 := many_two (hok _ (getD_memT hw)) (hok _ (getD_memT hlt)) (hm _ (getD_memT hlt))
    refine Ev.step (f := fun k => phaetontop_TopMany.l1 k l true (w : Int) ((i + 1 : Nat) : Int)) (fun k => ?_) (ih (i + 1) (by omega))
    simp only [phaetontop_TopMany.l1]
    rw [if_pos (by omega), if_pos (by omega), if_pos (by omega), if_pos (by omega), rdT_natT, rdT_natT]
    rw [h1, Option.bind_some, if_pos rfl, H.wrap_succ hlt (by omega)]
theorem many_tail (l : List TFr) (hok : ∀ x ∈ l, TOk x) (hl : l.length ≤ 1000) (hne : 0 < l.length) (a1 : Int) (ha1 : H.U8 a1) : Ev (fun k => phaetontop_TopMany.l0 k l a1 true (l.length : Int)) true := by
  obtain ⟨w, hw, w1, wm⟩ := many_win l hok hl hne
  have hu := ha1
  unfold H.U8 at hu
  obtain ⟨q, hq, hql⟩ : ∃ q : Nat, Int.tmod (wrap64 a1) (l.length : Int) = (q : Int) ∧ q < l.length := by
    refine ⟨(a1 % (l.length : Int)).toNat, ?_, ?_⟩
    · have := Int.emod_nonneg a1 (show (l.length : Int) ≠ 0 by omega)
      rw [H.wrap_u8 ha1, Int.tmod_eq_emod_of_nonneg hu.1]; omega
    · have := Int.emod_nonneg a1 (show (l.length : Int) ≠ 0 by omega)
      have := Int.emod_lt_of_pos a1 (show (0 : Int) < (l.length : Int) by omega)
      omega
  have HQ := Aside0.mk hq
  clear hq
  have e1 : (l.drop q).length ≤ 1000 := by rw [List.length_drop]; omega
  have e2 : (l.take q).length ≤ 1000 := by rw [List.length_take]; omega
  have hml : (l.drop q ++ l.take q).length = l.length := by rw [List.length_append, List.length_drop, List.length_take]; omega
  have hsub : ∀ x ∈ l.drop q ++ l.take q, x ∈ l := fun x hx => by
    rcases List.mem_append.mp hx with h | h
    · exact List.mem_of_mem_drop h
    · exact List.mem_of_mem_take h
  have hsup : ∀ x ∈ l, x ∈ l.drop q ++ l.take q := fun x hx => by
    have : x ∈ l.take q ++ l.drop q := by rw [List.take_append_drop]; exact hx
    rcases List.mem_append.mp this with h | h
    · exact List.mem_append_right _ h
    · exact List.mem_append_left _ h
  obtain ⟨v, hv, v1, vm⟩ := many_win (l.drop q ++ l.take q) (fun x hx => hok x (hsub x hx)) (by omega) (by omega)
  have hs : rkT (l.getD w z26) = rkT ((l.drop q ++ l.take q).getD v z26) := by
    rcases vm _ (hsup _ (getD_memT hw)) with h | h
    · exact h
    · rcases wm _ (hsub _ (getD_memT hv)) with g | g
      · exact g.symm
      · rw [H.lessB_asymm g] at h; cases h
  have ow := hok _ (getD_memT hw)
  have ov := hok _ (hsub _ (getD_memT hv))
  have rw1 : frame_Rank.f (l.getD w z26).f0 (l.getD w z26).f1 (l.getD w z26).f2 (l.getD w z26).f3 (l.getD w z26).f4 = some (rkT (l.getD w z26)) := congrArg some (rankB_eq _ ow.1)
  have rv1 : frame_Rank.f ((l.drop q ++ l.take q).getD v z26).f0 ((l.drop q ++ l.take q).getD v z26).f1 ((l.drop q ++ l.take q).getD v z26).f2 ((l.drop q ++ l.take q).getD v z26).f3 ((l.drop q ++ l.take q).getD v z26).f4 = some (rkT ((l.drop q ++ l.take q).getD v z26)) := congrArg some (rankB_eq _ ov.1)
  rw [← hs] at rv1
  have hr := (rkT_RankL (l.getD w z26)).len
  obtain ⟨K1, k1⟩ := same2_k (rkT (l.getD w z26)) (rkT (l.getD w z26)) (by omega)
  rw [decide_eq_true rfl] at k1
  obtain ⟨K2, k2⟩ := many_l1 l hok hl hw wm l.length 0 (by omega)
  refine ⟨K1 + K2 + 2, fun k hk => ?_⟩
  obtain ⟨k, rfl⟩ : ∃ m, k = m + 2 := ⟨k - 2, by omega⟩
  simp only [phaetontop_TopMany.l0]
  rw [if_neg (by omega), w1, Option.bind_some, if_neg (by omega), Option.bind_some, HQ.out, if_pos (by omega), if_pos (by omega), Int.toNat_natCast, Option.bind_some, if_pos (by simp only [List.length_nil]; omega), Option.bind_some, List.nil_append, Option.bind_some, if_pos (by omega), Option.bind_some, v1, Option.bind_some,
    if_neg (by omega), if_neg (by omega), if_neg (by omega), if_neg (by omega), if_pos (by omega), if_pos (by omega), rdT_natT, rw1, Option.bind_some, if_pos (by omega), if_pos (by omega), rdT_natT, rv1, Option.bind_some, k1 _ (by omega), Option.bind_some]
  simp only [phaetontop_TopMany.j2]
  rw [if_neg (by decide)]
  exact k2 _ (by omega)
theorem many_l0 (l : List TFr) (hl : l.length ≤ 1000) (hne : 0 < l.length) (a1 : Int) (ha1 : H.U8 a1) : ∀ d i : Nat, i + d = l.length → (∀ j, j < i → TOk (l.getD j z26)) → Ev (fun k => phaetontop_TopMany.l0 k l a1 true (i : Int)) true := by
  intro d
  induction d with
  | zero =>
    intro i hi hj
    obtain rfl : i = l.length := by omega
    exact many_tail l (fun x hx => by
      obtain ⟨j, h, rfl⟩ := mem_getDT hx
      exact hj j h) hl hne a1 ha1
  | succ d ih =>
    intro i hi hj
    have hlt : i < l.length := by omega
    by_cases g : (((l.getD i z26).f4).length : Int) > 8
    · refine Ev.step (f := fun _ => some true) (fun k => ?_) (Ev.now _)
      simp only [phaetontop_TopMany.l0]
      rw [if_pos (by omega), if_pos (by omega), rdT_natT, if_pos g, if_pos trivial]
    · by_cases hF : TOk (l.getD i z26)
      · obtain ⟨K, hK⟩ := ih (i + 1) (by omega) (fun j h => by
          by_cases e : j < i
          · exact hj j e
          · obtain rfl : j = i := by omega
            exact hF)
        refine ⟨K + 3, fun k hk => ?_⟩
        obtain ⟨k, rfl⟩ : ∃ m, k = m + 1 := ⟨k - 1, by omega⟩
        have hR := r4right_k (l.getD i z26).f0 (l.getD i z26).f1 (l.getD i z26).f2 (l.getD i z26).f3 (l.getD i z26).f4 k (by omega)
        rw [decide_eq_true (show FRight _ _ _ _ _ from hF)] at hR
        simp only [phaetontop_TopMany.l0]
        rw [if_pos (by omega), if_pos (by omega), rdT_natT, if_neg g, hR, Option.bind_some, if_pos rfl, H.wrap_succ hlt (by omega)]
        exact hK k (by omega)
      · refine ⟨3, fun k hk => ?_⟩
        obtain ⟨k, rfl⟩ : ∃ m, k = m + 1 := ⟨k - 1, by omega⟩
        have hR := r4right_k (l.getD i z26).f0 (l.getD i z26).f1 (l.getD i z26).f2 (l.getD i z26).f3 (l.getD i z26).f4 k (by omega)
        rw [decide_eq_false (show ¬ FRight _ _ _ _ _ from hF)] at hR
        simp only [phaetontop_TopMany.l0]
        rw [if_pos (by omega), if_pos (by omega), rdT_natT, if_neg g, hR, Option.bind_some, if_neg (by simp), if_pos trivial]
theorem TopMany : phaetontop_TopMany.Pure := by
  intro l a1 _ _ hw1
  have ha1 := H.of_wf8 hw1
  obtain ⟨K0, hh⟩ := headT_k
  by_cases hne : l.length = 0
  · refine ⟨K0 + 1, ?_⟩
    unfold phaetontop_TopMany.f
    rw [hh _ (by omega), Option.bind_some, if_pos (by omega)]
    simp only [phaetontop_TopMany.j0]
    rw [if_pos trivial, if_pos trivial]
  by_cases hg : (l.length : Int) > 12
  · refine ⟨K0 + 1, ?_⟩
    unfold phaetontop_TopMany.f
    rw [hh _ (by omega), Option.bind_some, if_neg (by omega), decide_eq_true hg]
    simp only [phaetontop_TopMany.j0]
    rw [if_pos trivial, if_pos trivial]
  obtain ⟨K, k1⟩ := many_l0 l (by omega) (by omega) a1 ha1 l.length 0 (by omega) (fun j h => absurd h (Nat.not_lt_zero j))
  refine ⟨K0 + K + 1, ?_⟩
  unfold phaetontop_TopMany.f
  rw [hh _ (by omega), Option.bind_some, if_neg (by omega), decide_eq_false hg]
  simp only [phaetontop_TopMany.j0]
  rw [if_neg (by simp)]
  exact k1 _ (by omega)
end Go.Proofs.Ytechlakahpkdpaa.Pure

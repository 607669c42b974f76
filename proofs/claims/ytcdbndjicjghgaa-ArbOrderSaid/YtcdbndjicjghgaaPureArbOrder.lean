/- In whatever order frames stand, the same rank wins; and without any others it wins among those that are left: at most 10 frames, each made right. -/
import Derived.Test.YtcdbndjicjghgaaPx11
import Derived.Test.YtcdbndjicjghgaaPureHead06
set_option linter.unusedVariables false
set_option linter.unusedSimpArgs false
namespace Go.Proofs.Ytcdbndjicjghgaa.Pure
open Go.RowKit Go.Proofs.Ytcdbndjicjghgaa.PB Go.Proofs.Ytcdbndjicjghgaa.Px Go.Proofs.YtcdbndjicjghgaaW.PrintWords Go.Proofs.YtcdbndjicjghgaaW.PrintLast Go.Proofs.YtcdbndjicjghgaaW.PrintMore
open Go.Proofs.Ytcdbndjicjghgaa.H (RankL lessB whereB leastB Parts IdOk rankF)
theorem mem_getD {l : List Fr} {x : Fr} (h : x ∈ l) : ∃ i, i < l.length ∧ l.getD i z35 = x := by
  obtain ⟨i, hi, rfl⟩ := List.getElem_of_mem h
  exact ⟨i, hi, by rw [List.getD_eq_getElem?_getD, List.getElem?_eq_getElem hi]; rfl⟩
theorem raced_min {l l' : List Fr} {w w' : Nat} {m m' : List Int} (hr : Raced l w m) (hr' : Raced l' w' m') (hsub : ∀ x ∈ l', x ∈ l) (hm : ∃ x ∈ l', rkF x = m) : m' = m := by
  obtain ⟨x, hx, hxm⟩ := hm
  obtain ⟨i, hi, rfl⟩ := mem_getD hx
  have h1 := hr'.all i hi
  rw [hxm] at h1
  have hw' := hr'.lt
  have hmw : l'.getD w' z35 ∈ l' := by rw [List.getD_eq_getElem?_getD, List.getElem?_eq_getElem hw']; exact List.getElem_mem hw'
  obtain ⟨j, hj, hje⟩ := mem_getD (hsub _ hmw)
  have h2 := hr.all j hj
  rw [hje, hr'.rank] at h2
  rcases h2 with h2 | h2
  · exact h2
  · rcases h1 with h1 | h1
    · exact h1.symm
    · rw [H.lessB_asymm h2] at h1; cases h1
theorem order_end (l : List Fr) (hok : ∀ x ∈ l, FrOk x) (hlen : l.length ≤ 10) {w : Nat} {m : List Int} (hr : Raced l w m) (turned rest : List Fr) (hsub : ∀ x ∈ turned, x ∈ l) (hm : ∃ x ∈ turned, rkF x = m) (htl : turned.length ≤ 20) (hrest : ∀ x ∈ rest, x ∈ l) (hrl : rest.length ≤ 20) (keep : List Bool) (i : Int) : Ev (fun k => phaetonlaw06_ArbOrder.j2 k l keep true (w : Int) (l.getD w z35 :: rest) turned i false) true := by
  have hw := hr.lt
  have hmw : l.getD w z35 ∈ l := by rw [List.getD_eq_getElem?_getD, List.getElem?_eq_getElem hw]; exact List.getElem_mem hw
  have hml : m.length ≤ 32 := by have := (rkF_RankL (l.getD w z35)).len; rw [hr.rank] at this; exact this
  have htok : ∀ x ∈ turned, FrOk x := fun x hx => hok x (hsub x hx)
  have hsok : ∀ x ∈ l.getD w z35 :: rest, x ∈ l := fun x hx => by
    rcases List.mem_cons.mp hx with h | h
    · rw [h]; exact hmw
    · exact hrest x h
  have htp : 0 < turned.length := by obtain ⟨x, hx, _⟩ := hm; exact List.length_pos_of_mem hx
  obtain ⟨w1, m1, hr1⟩ := raced turned htok (by omega) htp
  obtain ⟨w2, m2, hr2⟩ := raced (l.getD w z35 :: rest) (fun x hx => hok x (hsok x hx)) (by rw [List.length_cons]; omega) (by rw [List.length_cons]; omega)
  have hm1 := raced_min hr hr1 hsub hm
  have hm2 := raced_min hr hr2 hsok ⟨_, List.mem_cons_self, hr.rank⟩
  subst hm1
  rw [hm2] at hr2
  have hw2 : w2 = 0 := by
    rcases Nat.eq_zero_or_pos w2 with h | h
    · exact h
    · have h1 := hr2.first 0 h
      rw [show (l.getD w z35 :: rest).getD 0 z35 = l.getD w z35 from rfl, hr.rank, H.lessB_irr] at h1; cases h1
  rw [hw2] at hr2
  have hw1 := hr1.lt
  obtain ⟨K1, k1⟩ := r6rank_k (getD_okT htok hw1)
  obtain ⟨K2, k2⟩ := r6rank_k (getD_okT hok hw)
  rw [hr1.rank] at k1
  rw [hr.rank] at k2
  obtain ⟨K3, k3⟩ := ints_k m1 m1 (by omega)
  rw [decide_eq_true rfl] at k3
  refine ⟨K1 + K2 + K3 + 2, fun k hk => ?_⟩
  obtain ⟨k, rfl⟩ : ∃ m, k = m + 2 := ⟨k - 2, by omega⟩
  dsimp only
  rw [phaetonlaw06_ArbOrder.j2.eq_2, if_neg (by simp), hr1.win, Option.bind_some, if_neg (by omega), if_neg (by omega), if_pos (by omega), if_pos (by omega), rdT_nat, k1 _ (by omega), Option.bind_some, if_pos (by omega), if_pos (by omega), rdT_nat, k2 _ (by omega), Option.bind_some, k3 _ (by omega), Option.bind_some, Bool.not_true, phaetonlaw06_ArbOrder.j3.eq_2, if_neg (by simp), hr2.win, Option.bind_some, if_pos (show ((0 : Nat) : Int) = 0 from rfl), hr1.line, Option.bind_some, hr.line, Option.bind_some, k3 _ (by omega), Option.bind_some, if_pos rfl, hr2.line, Option.bind_some, Option.bind_some, k3 _ (by omega), Option.bind_some, if_pos rfl, if_pos rfl]
theorem order_l0 (l : List Fr) (hok : ∀ x ∈ l, FrOk x) (hlen : l.length ≤ 10) {w : Nat} {m : List Int} (hr : Raced l w m) (keep : List Bool) (turned : List Fr) (hsub : ∀ x ∈ turned, x ∈ l) (hm : ∃ x ∈ turned, rkF x = m) (htl : turned.length ≤ 20) :
    ∀ d i : Nat, i + d = l.length → ∀ rest : List Fr, (∀ x ∈ rest, x ∈ l) → rest.length ≤ i → Ev (fun k => phaetonlaw06_ArbOrder.l0 k l keep true (w : Int) (l.getD w z35 :: rest) turned (i : Int)) true := by
  intro d
  induction d with
  | zero =>
    intro i hi rest hrest hrl
    obtain ⟨K, hK⟩ := order_end l hok hlen hr turned rest hsub hm htl hrest (by omega) keep (i : Int)
    refine ⟨K + 1, fun k hk => ?_⟩
    obtain ⟨k, rfl⟩ : ∃ m, k = m + 1 := ⟨k - 1, by omega⟩
    dsimp only
    rw [phaetonlaw06_ArbOrder.l0.eq_2, if_neg (by omega)]
    exact hK k (by omega)
  | succ d ih =>
    intro i hi rest hrest hrl
    have hlt : i < l.length := by omega
    by_cases hk2 : i < keep.length
    · cases hb : keep.getD i false with
      | true =>
        have hmem : l.getD i z35 ∈ l := by rw [List.getD_eq_getElem?_getD, List.getElem?_eq_getElem hlt]; exact List.getElem_mem hlt
        obtain ⟨K, hK⟩ := ih (i + 1) (by omega) (rest ++ [l.getD i z35]) (fun x hx => by
          rcases List.mem_append.mp hx with h | h
          · exact hrest x h
          · rw [List.mem_singleton.mp h]; exact hmem) (by rw [List.length_append, List.length_singleton]; omega)
        refine ⟨K + 2, fun k hk => ?_⟩
        obtain ⟨k, rfl⟩ : ∃ m, k = m + 2 := ⟨k - 2, by omega⟩
        dsimp only
        rw [phaetonlaw06_ArbOrder.l0.eq_2, if_pos (by omega), phaetonlaw06_ArbOrder.j2.eq_2, if_pos (decide_eq_true (by omega)), if_pos (by omega), if_pos (by omega), show rdOf false keep (i : Int) = true by unfold rdOf; rw [Int.toNat_natCast]; exact hb, if_pos rfl, if_pos (by omega), if_pos (by rw [List.length_cons]; omega), rdT_nat, H.wrap_succ hlt (by omega)]
        exact hK k (by omega)
      | false =>
        obtain ⟨K, hK⟩ := ih (i + 1) (by omega) rest hrest (by omega)
        refine ⟨K + 2, fun k hk => ?_⟩
        obtain ⟨k, rfl⟩ : ∃ m, k = m + 2 := ⟨k - 2, by omega⟩
        dsimp only
        rw [phaetonlaw06_ArbOrder.l0.eq_2, if_pos (by omega), phaetonlaw06_ArbOrder.j2.eq_2, if_pos (decide_eq_true (by omega)), if_pos (by omega), if_pos (by omega), show rdOf false keep (i : Int) = false by unfold rdOf; rw [Int.toNat_natCast]; exact hb, if_neg (by simp), H.wrap_succ hlt (by omega)]
        exact hK k (by omega)
    · obtain ⟨K, hK⟩ := order_end l hok hlen hr turned rest hsub hm htl hrest (by omega) keep (i : Int)
      refine ⟨K + 1, fun k hk => ?_⟩
      obtain ⟨k, rfl⟩ : ∃ m, k = m + 1 := ⟨k - 1, by omega⟩
      dsimp only
      rw [phaetonlaw06_ArbOrder.l0.eq_2, if_pos (by omega), decide_eq_false (by omega)]
      exact hK k (by omega)
theorem ArbOrder : phaetonlaw06_ArbOrder.Pure := by
  intro l0 a1 l2 _ _ hw1 _ _
  have ha1 := H.of_wf8 hw1
  obtain ⟨K0, hh⟩ := head06_k
  obtain ⟨K1, k1⟩ : ∃ K, ∀ k, K ≤ k → phaetonref06_Frames.f k l0 10 = some (madeN l0 10) := frames_k l0 10 (by decide)
  have hok := madeN_ok l0 10
  have hlen : (madeN l0 10).length ≤ 10 := by rw [madeN_len]; omega
  generalize madeN l0 10 = l at k1 hok hlen
  by_cases hne : l.length = 0
  · obtain rfl := List.eq_nil_of_length_eq_zero hne
    obtain ⟨n1, n2, n3⟩ := race_nil
    refine ⟨K0 + K1, ?_⟩
    unfold phaetonlaw06_ArbOrder.f
    rw [hh _ (by omega), Option.bind_some, k1 _ (by omega), Option.bind_some, n1, Option.bind_some, if_pos (by simp), if_pos rfl, if_pos rfl]
  · obtain ⟨w, m, hr⟩ := raced l hok (by omega) (by omega)
    have hw := hr.lt
    have hmw : l.getD w z35 ∈ l := by rw [List.getD_eq_getElem?_getD, List.getElem?_eq_getElem hw]; exact List.getElem_mem hw
    have hu := ha1
    unfold H.U8 at hu
    obtain ⟨q, hq, hql⟩ : ∃ q : Nat, Int.tmod (wrap64 a1) (l.length : Int) = (q : Int) ∧ q < l.length := by
      refine ⟨(a1 % (l.length : Int)).toNat, ?_, ?_⟩
      · have := Int.emod_nonneg a1 (show (l.length : Int) ≠ 0 by omega)
        rw [H.wrap_u8 ha1, Int.tmod_eq_emod_of_nonneg hu.1]; omega
      · have := Int.emod_nonneg a1 (show (l.length : Int) ≠ 0 by omega)
        have := Int.emod_lt_of_pos a1 (show (0 : Int) < (l.length : Int) by omega)
        omega
    obtain ⟨K2, k2⟩ := order_l0 l hok hlen hr l2 (l.drop q ++ l.take q) (fun x hx => by
      rcases List.mem_append.mp hx with h | h
      · exact List.mem_of_mem_drop h
      · exact List.mem_of_mem_take h) ⟨l.getD w z35, by
      have : l.getD w z35 ∈ l.take q ++ l.drop q := by rw [List.take_append_drop]; exact hmw
      rcases List.mem_append.mp this with h | h
      · exact List.mem_append_right _ h
      · exact List.mem_append_left _ h, hr.rank⟩ (by rw [List.length_append, List.length_drop, List.length_take]; omega) l.length 0 (by omega) [] (fun x hx => by cases hx) (by simp)
    have e1 : (l.drop q).length ≤ 10 := by rw [List.length_drop]; omega
    have e2 : (l.take q).length ≤ 10 := by rw [List.length_take]; omega
    refine ⟨K0 + K1 + K2 + 2, ?_⟩
    unfold phaetonlaw06_ArbOrder.f
    rw [hh _ (by omega), Option.bind_some, k1 _ (by omega), Option.bind_some, hr.win, Option.bind_some, if_neg (by omega), if_neg (by omega), decide_eq_false (by omega), phaetonlaw06_ArbOrder.j0.eq_2, if_neg (by simp), if_neg (by omega), if_pos (by omega), if_pos (by omega), Option.bind_some, hq, if_pos (by omega), if_pos (by omega), Int.toNat_natCast, Option.bind_some, if_pos (by simp only [List.length_nil]; omega), Option.bind_some, List.nil_append, Option.bind_some, if_pos (by omega), rdT_nat]
    exact k2 _ (by omega)
end Go.Proofs.Ytcdbndjicjghgaa.Pure

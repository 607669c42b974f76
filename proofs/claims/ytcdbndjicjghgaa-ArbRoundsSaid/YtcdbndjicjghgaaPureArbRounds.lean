/- Taken away one by one, as they win, all frames go, each once, by their ranks: at most 8 frames, each made right. -/
import Derived.Test.YtcdbndjicjghgaaPx14
import Derived.Test.YtcdbndjicjghgaaPureHead06
set_option linter.unusedVariables false
set_option linter.unusedSimpArgs false
namespace Go.Proofs.Ytcdbndjicjghgaa.Pure
open Go.RowKit Go.Proofs.Ytcdbndjicjghgaa.PB Go.Proofs.Ytcdbndjicjghgaa.Px Go.Proofs.YtcdbndjicjghgaaW.PrintWords Go.Proofs.YtcdbndjicjghgaaW.PrintLast Go.Proofs.YtcdbndjicjghgaaW.PrintMore
open Go.Proofs.Ytcdbndjicjghgaa.H (RankL lessB whereB leastB Parts IdOk rankF)
theorem rounds_l0 (l : List Fr) (hl : l.length ≤ 1000) : ∀ d i : Nat, i + d = l.length → ∀ (left : List Fr) (last : List Int), (∀ x ∈ left, FrOk x) → left.length = d → (0 < i → ∀ x ∈ left, lessB (rkF x) last = false) → last.length ≤ 1000 → Ev (fun k => phaetonlaw06_ArbRounds.l0 k l true left last (i : Int)) true := by
  intro d
  induction d with
  | zero =>
    intro i hi left last hok hlen _ _
    obtain rfl := List.eq_nil_of_length_eq_zero hlen
    refine Ev.step (f := fun _ => some true) (fun k => ?_) (Ev.now _)
    rw [phaetonlaw06_ArbRounds.l0.eq_2, if_neg (by omega), race_nil.1, Option.bind_some, if_pos rfl, if_pos rfl]
  | succ d ih =>
    intro i hi left last hok hlen hlast hll
    have hlt : i < l.length := by omega
    obtain ⟨w, m, hr⟩ := raced left hok (by omega) (by omega)
    have hw := hr.lt
    have hm : RankL m := hr.rank ▸ rkF_RankL _
    have hml := hm.len
    have hmem : ∀ x ∈ left.take w ++ left.drop (w + 1), x ∈ left := fun x hx => by
      rcases List.mem_append.mp hx with h | h
      · exact List.mem_of_mem_take h
      · exact List.mem_of_mem_drop h
    have hnext : ∀ x ∈ left.take w ++ left.drop (w + 1), lessB (rkF x) m = false := fun x hx => by
      obtain ⟨j, hj, rfl⟩ := List.getElem_of_mem (hmem x hx)
      have := hr.all j hj
      rw [List.getD_eq_getElem?_getD, List.getElem?_eq_getElem hj] at this
      rcases this with h | h
      · show lessB (rkF left[j]) m = false
        rw [show rkF left[j] = m from h]; exact H.lessB_irr _
      · exact H.lessB_asymm h
    have hlen2 : (left.take w ++ left.drop (w + 1)).length = d := by rw [List.length_append, List.length_take, List.length_drop]; omega
    obtain ⟨K, hK⟩ := ih (i + 1) (by omega) (left.take w ++ left.drop (w + 1)) m (fun x hx => hok x (hmem x hx)) hlen2 (fun _ => hnext) (by omega)
    obtain ⟨K1, k1⟩ := r6rank_k (getD_okT hok hw)
    rw [hr.rank] at k1
    obtain ⟨K2, k2⟩ := less_k m last (by omega)
    refine ⟨K + K1 + K2 + 2, fun k hk => ?_⟩
    obtain ⟨k, rfl⟩ : ∃ m, k = m + 2 := ⟨k - 2, by omega⟩
    dsimp only
    have e1 : (left.take w).length ≤ 1000 := by rw [List.length_take]; omega
    have e2 : (left.drop (w + 1)).length ≤ 1000 := by rw [List.length_drop]; omega
    have e0 : wrap64 ((w : Int) + 1) = ((w + 1 : Nat) : Int) := by unfold wrap64; omega
    replace e0 := Aside0.mk e0
    rw [phaetonlaw06_ArbRounds.l0.eq_2, if_pos (by omega), hr.win, Option.bind_some, if_neg (by omega), decide_eq_false (by omega), phaetonlaw06_ArbRounds.j1.eq_2, if_neg (by simp), if_pos (by omega), if_pos (by omega), rdT_nat, k1 _ (by omega), Option.bind_some]
    by_cases h0 : (i : Int) > 0
    · have hn : lessB m last = false := by
        rw [← hr.rank]
        refine hlast (by omega) _ ?_
        rw [List.getD_eq_getElem?_getD, List.getElem?_eq_getElem hw]; exact List.getElem_mem hw
      rw [if_pos h0, k2 _ (by omega), Option.bind_some, hn, if_neg (by simp), Option.bind_some, if_pos (by omega), Int.toNat_natCast, Option.bind_some, if_pos (by simp only [List.length_nil]; omega), Option.bind_some, List.nil_append, e0.out, if_pos (by omega), if_pos (by omega), Int.toNat_natCast, Option.bind_some, if_pos (by omega), H.wrap_succ hlt (by omega)]
      exact hK k (by omega)
    · rw [if_neg h0, Option.bind_some, if_pos (by omega), Int.toNat_natCast, Option.bind_some, if_pos (by simp only [List.length_nil]; omega), Option.bind_some, List.nil_append, e0.out, if_pos (by omega), if_pos (by omega), Int.toNat_natCast, Option.bind_some, if_pos (by omega), H.wrap_succ hlt (by omega)]
      exact hK k (by omega)
theorem ArbRounds : phaetonlaw06_ArbRounds.Pure := by
  intro l0 _ _
  obtain ⟨K0, hh⟩ := head06_k
  obtain ⟨K1, k1⟩ : ∃ K, ∀ k, K ≤ k → phaetonref06_Frames.f k l0 8 = some (madeN l0 8) := frames_k l0 8 (by decide)
  have hok := madeN_ok l0 8
  have hlen : (madeN l0 8).length ≤ 8 := by rw [madeN_len]; omega
  generalize madeN l0 8 = l at k1 hok hlen
  obtain ⟨K2, k2⟩ := rounds_l0 l (by omega) l.length 0 (by omega) l [] hok (by omega) (fun h => absurd h (Nat.lt_irrefl 0)) (by simp)
  refine ⟨K0 + K1 + K2, ?_⟩
  unfold phaetonlaw06_ArbRounds.f
  rw [hh _ (by omega), Option.bind_some, k1 _ (by omega), Option.bind_some, Option.bind_some, if_pos (by simp only [List.length_nil]; omega), List.nil_append]
  exact k2 _ (by omega)
end Go.Proofs.Ytcdbndjicjghgaa.Pure

/- Just the frames of the winner's rank stay in; two frames of one rank, whatever their data, both do, and the first of them wins: at most 9 frames, each made right. -/
import Derived.Test.YtcdbndjicjghgaaPx13
import Derived.Test.YtcdbndjicjghgaaPureHead06
set_option linter.unusedVariables false
set_option linter.unusedSimpArgs false
namespace Go.Proofs.Ytcdbndjicjghgaa.Pure
open Go.RowKit Go.Proofs.Ytcdbndjicjghgaa.PB Go.Proofs.Ytcdbndjicjghgaa.Px Go.Proofs.YtcdbndjicjghgaaW.PrintWords Go.Proofs.YtcdbndjicjghgaaW.PrintLast Go.Proofs.YtcdbndjicjghgaaW.PrintMore
open Go.Proofs.Ytcdbndjicjghgaa.H (RankL lessB whereB leastB Parts IdOk rankF)
theorem made_same {e : Bool} {id : Int} (h : IdOk e id) : made_id e id = id := by
  obtain ⟨h0, h1⟩ := h
  unfold made_id
  cases e with
  | false => rw [if_neg (by simp)] at h1; rw [if_neg (by simp), H.and_2047]; omega
  | true => rw [if_pos rfl] at h1; rw [if_pos rfl, H.and_536870911]; omega
theorem twins_l0 (l : List Fr) (hok : ∀ x ∈ l, FrOk x) (hl : l.length ≤ 1000000) (t : Fr) (htk : FrOk t) {w : Nat} {m : List Int} (htr : rkF t = m) (hr : Raced l w m) : ∀ d i : Nat, i + d = l.length → Ev (fun k => phaetonlaw06_ArbTwins.l0 k true l (l.map (lostF m)) (i : Int) t.f0 t.f1 t.f2 t.f3 t.f4) true := by
  intro d
  have hm : RankL m := hr.rank ▸ rkF_RankL _
  have hml := hm.len
  obtain ⟨K2, k2⟩ := r6rank_k htk
  rw [htr] at k2
  induction d with
  | zero =>
    intro i hi
    refine Ev.step (f := fun _ => some true) (fun k => ?_) (Ev.now _)
    rw [phaetonlaw06_ArbTwins.l0.eq_2, if_neg (by omega), if_pos rfl]
  | succ d ih =>
    intro i hi
    have hlt : i < l.length := by omega
    have hx := rkF_RankL (l.getD i z35)
    have hxl := hx.len
    obtain ⟨K, hK⟩ := ih (i + 1) (by omega)
    obtain ⟨K1, k1⟩ := r6rank_k (getD_okT hok hlt)
    obtain ⟨K3, k3⟩ := ints_k (rkF (l.getD i z35)) m (by omega)
    have hg : (l.map (lostF m)).getD i 0 = lostF m (l.getD i z35) := getD_mapT _ z35 0 l hlt
    have hv : ((lostF m (l.getD i z35) == (-1)) != decide (rkF (l.getD i z35) = m)) = false := by
      unfold lostF
      by_cases h : rkF (l.getD i z35) = m
      · rw [if_pos h, decide_eq_true h]; rfl
      · obtain ⟨p, hp⟩ := hx.parts hm h
        rw [if_neg h, decide_eq_false h, H.whereB_parts _ _ _ _ hp]
        simp only [bne_eq_false_iff_eq, beq_eq_false_iff_ne]
        omega
    refine ⟨K + K1 + K2 + K3 + 1, fun k hk => ?_⟩
    obtain ⟨k, rfl⟩ : ∃ m, k = m + 1 := ⟨k - 1, by omega⟩
    dsimp only
    rw [phaetonlaw06_ArbTwins.l0.eq_2, if_pos (by omega), if_pos (by omega), if_pos (by rw [List.length_map]; omega), rdT_nat, k1 _ (by omega), Option.bind_some, k2 _ (by omega), Option.bind_some, k3 _ (by omega), Option.bind_some, rd_nat, hg, hv, if_neg (by simp), H.wrap_succ hlt (by omega)]
    exact hK k (by omega)
theorem ArbTwins : phaetonlaw06_ArbTwins.Pure := by
  intro l0 l1 _ _ _ _ _
  obtain ⟨K0, hh⟩ := head06_k
  obtain ⟨K1, k1⟩ : ∃ K, ∀ k, K ≤ k → phaetonref06_Frames.f k l0 9 = some (madeN l0 9) := frames_k l0 9 (by decide)
  have hok := madeN_ok l0 9
  have hlen : (madeN l0 9).length ≤ 9 := by rw [madeN_len]; omega
  generalize madeN l0 9 = l at k1 hok hlen
  by_cases hne : l.length = 0
  · obtain rfl := List.eq_nil_of_length_eq_zero hne
    obtain ⟨n1, n2, n3⟩ := race_nil
    refine ⟨K0 + K1, ?_⟩
    unfold phaetonlaw06_ArbTwins.f
    rw [hh _ (by omega), Option.bind_some, k1 _ (by omega), Option.bind_some, n1, Option.bind_some, if_pos (by simp), if_pos rfl, if_pos rfl]
  · obtain ⟨w, m, hr⟩ := raced l hok (by omega) (by omega)
    have hw := hr.lt
    have hwk := getD_okT hok hw
    obtain ⟨t, ht⟩ : ∃ t : Fr, t = madeF ⟨(l.getD w z35).f0, (l.getD w z35).f1, (l.getD w z35).f2, 0, l1⟩ := ⟨_, rfl⟩
    have htk : FrOk t := ht ▸ madeF_ok _
    have htr : rkF t = m := by
      rw [← hr.rank, ht]
      unfold rkF madeF
      dsimp only
      rw [made_same hwk]
    have hall : ∀ x ∈ l ++ [t], FrOk x := fun x hx => by
      rcases List.mem_append.mp hx with h | h
      · exact hok x h
      · rw [List.mem_singleton.mp h]; exact htk
    have hallen : (l ++ [t]).length = l.length + 1 := by rw [List.length_append, List.length_singleton]
    obtain ⟨w2, m2, hr2⟩ := raced (l ++ [t]) hall (by omega) (by omega)
    have hget : ∀ i, i < l.length → (l ++ [t]).getD i z35 = l.getD i z35 := fun i hi => by
      rw [List.getD_eq_getElem?_getD, List.getD_eq_getElem?_getD, List.getElem?_append_left hi]
    have hgl : (l ++ [t]).getD l.length z35 = t := by
      rw [List.getD_eq_getElem?_getD, List.getElem?_append_right (Nat.le_refl _), Nat.sub_self]; rfl
    -- the winner is the same
    have hm2 : m2 = m := by
      have h1 := hr2.all w (by omega)
      rw [hget w hw, hr.rank] at h1
      have hw2 := hr2.lt
      have h2 : m2 = m ∨ lessB m m2 = true := by
        by_cases hc : w2 < l.length
        · have := hr.all w2 hc
          rw [← hget w2 hc, hr2.rank] at this
          exact this
        · have e : w2 = l.length := by omega
          have := hr2.rank
          rw [e, hgl, htr] at this
          exact Or.inl this.symm
      rcases h2 with h2 | h2
      · exact h2
      · rcases h1 with h1 | h1
        · exact h1.symm
        · rw [H.lessB_asymm h2] at h1; cases h1
    have hww : w2 = w := by
      rw [hm2] at hr2
      rcases Nat.lt_trichotomy w2 w with h | h | h
      · have h1 := hr.first w2 h
        have h2 := hr2.rank
        rw [hget w2 (by omega)] at h2
        rw [h2, H.lessB_irr] at h1; cases h1
      · exact h
      · have h1 := hr2.first w h
        rw [hget w hw, hr.rank, H.lessB_irr] at h1; cases h1
    rw [hm2, hww] at hr2
    obtain ⟨K2, k2⟩ := twins_l0 (l ++ [t]) hall (by omega) t htk htr hr2 (l ++ [t]).length 0 (by omega)
    have hL : ((l ++ [t]).map (lostF m)).length = l.length + 1 := by rw [List.length_map, hallen]
    have hlast : ((l ++ [t]).map (lostF m)).getD l.length 0 = -1 := by
      rw [getD_mapT _ z35 0 _ (by omega), hgl]; unfold lostF; rw [if_pos htr]
    have hmk : phaetonref06_Made.f (l.getD w z35).f0 (l.getD w z35).f1 (l.getD w z35).f2 0 l1 = some (t.f0, t.f1, t.f2, t.f3, t.f4) := by rw [ht]; rfl
    refine ⟨K0 + K1 + K2 + 3, ?_⟩
    unfold phaetonlaw06_ArbTwins.f
    rw [hh _ (by omega), Option.bind_some, k1 _ (by omega), Option.bind_some, hr.win, Option.bind_some, if_neg (by omega), if_neg (by omega), decide_eq_false (by omega), phaetonlaw06_ArbTwins.j0.eq_2, if_neg (by simp), if_pos (by omega), if_pos (by omega), rdT_nat, hmk, Option.bind_some, Option.bind_some, if_pos (by simp only [List.length_nil]; omega), Option.bind_some, List.nil_append, if_pos (by omega), Option.bind_some]
    dsimp only
    rw [hr2.lost, Option.bind_some, if_pos (by rw [List.length_map]), hr2.win, Option.bind_some, if_pos rfl, if_pos (by omega), if_pos (by omega), rd_nat, hlast, show ((-1 : Int) != -1) = false from rfl, phaetonlaw06_ArbTwins.j1.eq_2, if_neg (by simp)]
    exact k2 _ (by omega)
end Go.Proofs.Ytcdbndjicjghgaa.Pure

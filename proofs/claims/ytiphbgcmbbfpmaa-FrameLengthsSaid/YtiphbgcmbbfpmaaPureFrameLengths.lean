/- A right frame's head has 19 bits, or 39, and eight for each byte; with a byte more it has eight bits more behind, and Len's differ: data of at most 100 bytes. -/
import Derived.Test.YtiphbgcmbbfpmaaPx17
import Derived.Test.YtiphbgcmbbfpmaaPureHead04
set_option linter.unusedVariables false
set_option linter.unusedSimpArgs false
namespace Go.Proofs.Ytiphbgcmbbfpmaa.Pure
open Go.RowKit Go.Proofs.Ytiphbgcmbbfpmaa.PB Go.Proofs.Ytiphbgcmbbfpmaa.Px Go.Proofs.YtiphbgcmbbfpmaaW.PrintWords Go.Proofs.YtiphbgcmbbfpmaaW.PrintLast Go.Proofs.YtiphbgcmbbfpmaaW.PrintMore
open Go.Proofs.Ytiphbgcmbbfpmaa.H (RankL lessB whereB leastB Parts IdOk rankF bitI bitsOf spreadB)
theorem lengths_j1 (e : Bool) (id : Int) (rm : Bool) (ln : Int) (d : List Int) (x : Int) (hF : FRight e id rm ln d) (hU : ∀ x ∈ d, H.U8 x) (n : Nat) (hn : n = if e = true then 39 else 19) : ∃ K, ∀ k, K ≤ k → phaetonlaw04_FrameLengths.j1 k x true (n : Int) e id rm ln d = some true := by
  have hd8 := hF.dlen
  have hln := hF.2
  have hlen := headF_len e id rm ln d
  rw [← hn] at hlen
  have hn40 : 19 ≤ n ∧ n ≤ 39 := by rw [hn]; split <;> omega
  have hw10 : wrap64 ((n : Int) + wrap64 (8 * (d.length : Int))) = ((n + 8 * d.length : Nat) : Int) := by unfold wrap64; omega
  have hw1 := Aside0.mk hw10
  clear hw10
  have hw20 : wrap64 (ln + 1) = ln + 1 := by have := hln.1; have := hln.2.1; unfold wrap64; omega
  have hw2 := Aside0.mk hw20
  clear hw20
  cases rm with
  | true =>
    have hd0 : d.length = 0 := by have := hln.2.2; rw [if_pos rfl] at this; omega
    have hnF : ¬ FRight e id true (ln + 1) (d ++ [x]) := fun h => by have := h.2.2.2; rw [if_pos rfl, List.length_append, List.length_singleton] at this; omega
    refine ⟨3, fun k hk => ?_⟩
    obtain ⟨k, rfl⟩ : ∃ m, k = m + 3 := ⟨k - 3, by omega⟩
    rw [phaetonlaw04_FrameLengths.j1.eq_2, fhead_eq hF, Option.bind_some, hw1.out, hlen, if_pos rfl, Option.bind_some, if_pos (by simp only [List.length_nil]; omega), Option.bind_some, List.nil_append, if_pos (by omega), Option.bind_some, hw2.out, right_eq, Option.bind_some, decide_eq_false hnF, if_pos rfl, show (false != false) = false from rfl, phaetonlaw04_FrameLengths.j2.eq_2, if_neg (by simp), if_pos rfl, phaetonlaw04_FrameLengths.j3.eq_2, if_pos rfl, if_pos rfl]
  | false =>
    have hd := hln.2.2
    rw [if_neg (by simp)] at hd
    have hFg : decide (FRight e id false (ln + 1) (d ++ [x])) = decide (ln < 8) := by
      apply decide_eq_decide.mpr
      constructor
      · intro h; have := h.2.2.1; omega
      · intro h
        exact ⟨hF.1, by omega, by omega, by rw [if_neg (by simp), List.length_append, List.length_singleton]; omega⟩
    by_cases h8 : ln = 8
    · refine ⟨3, fun k hk => ?_⟩
      obtain ⟨k, rfl⟩ : ∃ m, k = m + 3 := ⟨k - 3, by omega⟩
      rw [phaetonlaw04_FrameLengths.j1.eq_2, fhead_eq hF, Option.bind_some, hw1.out, hlen, if_pos rfl, Option.bind_some, if_pos (by simp only [List.length_nil]; omega), Option.bind_some, List.nil_append, if_pos (by omega), Option.bind_some, hw2.out, right_eq, Option.bind_some, hFg, if_neg (by simp), bne_self_eq_false, phaetonlaw04_FrameLengths.j2.eq_2, if_neg (by simp), if_neg (by simp), show (ln == 8) = true by rw [h8]; rfl, phaetonlaw04_FrameLengths.j3.eq_2, if_pos rfl, if_pos rfl]
    · have hg : FRight e id false (ln + 1) (d ++ [x]) := ⟨hF.1, by omega, by omega, by rw [if_neg (by simp), List.length_append, List.length_singleton]; omega⟩
      have hpl := preF_len e id false
      have hp4 : (preF e id false).length = n - 4 := by rw [hpl, hn]; cases e <;> rfl
      have e1 : headF e id false ln d = preF e id false ++ bitsOf ln 4 ++ spreadB d := by unfold headF; rw [List.append_assoc]
      have e2 : headF e id false (ln + 1) (d ++ [x]) = preF e id false ++ bitsOf (ln + 1) 4 ++ spreadB d ++ spreadB [x] := by unfold headF; rw [H.spread_append]; simp [List.append_assoc]
      have l1 : (preF e id false ++ bitsOf ln 4).length = n := by rw [List.length_append, hp4, H.bitsOf_length]; omega
      have l2 : (preF e id false ++ bitsOf (ln + 1) 4).length = n := by rw [List.length_append, hp4, H.bitsOf_length]; omega
      have l3 : (preF e id false ++ bitsOf (ln + 1) 4 ++ spreadB d).length = (headF e id false ln d).length := by rw [List.length_append, l2, H.spread_len, hlen]
      have hlen2 : (headF e id false (ln + 1) (d ++ [x])).length = (headF e id false ln d).length + 8 := by
        rw [headF_len, ← hn, hlen, List.length_append, List.length_singleton]; omega
      have t1 : (headF e id false (ln + 1) (d ++ [x])).take (n - 4) = preF e id false := by rw [e2, ← hp4, List.append_assoc, List.append_assoc, List.take_left' rfl]
      have t2 : (headF e id false ln d).take (n - 4) = preF e id false := by rw [e1, ← hp4, List.append_assoc, List.take_left' rfl]
      have t3 : ((headF e id false (ln + 1) (d ++ [x])).take (headF e id false ln d).length).drop n = spreadB d := by
        rw [← l3, e2, List.take_left' rfl, List.drop_left' l2]
      have t4 : (headF e id false ln d).drop n = spreadB d := by rw [e1, List.drop_left' l1]
      have w40 : wrap64 ((n : Int) - 4) = ((n - 4 : Nat) : Int) := by unfold wrap64; omega
      have w4 := Aside0.mk w40
      clear w40
      have w80 : wrap64 (((headF e id false ln d).length : Int) + 8) = (((headF e id false ln d).length + 8 : Nat) : Int) := by unfold wrap64; omega
      have w8 := Aside0.mk w80
      clear w80
      obtain ⟨K1, k1⟩ := same2_k (preF e id false) (preF e id false) (by omega)
      obtain ⟨K2, k2⟩ := same2_k (spreadB d) (spreadB d) (by rw [H.spread_len]; omega)
      rw [decide_eq_true rfl] at k1 k2
      have hbn : (ln == 8) = false := by simpa using h8
      refine ⟨K1 + K2 + 3, fun k hk => ?_⟩
      obtain ⟨k, rfl⟩ : ∃ m, k = m + 3 := ⟨k - 3, by omega⟩
      rw [phaetonlaw04_FrameLengths.j1.eq_2, fhead_eq hF, Option.bind_some, hw1.out, if_pos (by rw [hlen]), Option.bind_some, if_pos (by simp only [List.length_nil]; omega), Option.bind_some, List.nil_append, if_pos (by omega), Option.bind_some, hw2.out, right_eq, Option.bind_some, hFg, if_neg (by simp), bne_self_eq_false, phaetonlaw04_FrameLengths.j2.eq_2, if_neg (by simp), if_neg (by simp), hbn, phaetonlaw04_FrameLengths.j3.eq_2, if_neg (by simp), fhead_eq hg, Option.bind_some, if_pos rfl, w8.out, hlen2, if_pos rfl, w4.out, if_pos (by omega), if_pos (by omega), if_pos (by omega), Int.toNat_natCast, t1, t2, k1 _ (by omega), Option.bind_some, if_pos rfl, if_pos (by omega), if_pos (by omega), if_pos (by omega), Int.toNat_natCast, Int.toNat_natCast, t3, t4, k2 _ (by omega), Option.bind_some, if_pos rfl]
theorem FrameLengths : phaetonlaw04_FrameLengths.Pure := by
  intro e id rm ln d x _ _ _ hwd hwx
  have hU : ∀ x ∈ d, H.U8 x := fun x hx => H.of_wf8 (hwd x hx)
  obtain ⟨K0, hh⟩ := head04_k
  by_cases g : (d.length : Int) > 100
  · refine ⟨K0 + 1, ?_⟩
    unfold phaetonlaw04_FrameLengths.f
    rw [hh _ (by omega), Option.bind_some, great_eq, Option.bind_some, decide_eq_true g, if_pos rfl, phaetonlaw04_FrameLengths.j0.eq_2, if_pos rfl, if_pos rfl]
  by_cases hF : FRight e id rm ln d
  case neg =>
    refine ⟨K0 + 2, ?_⟩
    unfold phaetonlaw04_FrameLengths.f
    rw [hh _ (by omega), Option.bind_some, great_eq, Option.bind_some, decide_eq_false g, if_neg (by simp), r4right_k _ _ _ _ _ _ (by omega), Option.bind_some, decide_eq_false hF, Bool.not_false, phaetonlaw04_FrameLengths.j0.eq_2, if_pos rfl, if_pos rfl]
  have hd8 := hF.dlen
  cases e with
  | true =>
    obtain ⟨K1, k1⟩ := lengths_j1 true id rm ln d x hF hU 39 rfl
    refine ⟨K0 + K1 + 3, ?_⟩
    unfold phaetonlaw04_FrameLengths.f
    rw [hh _ (by omega), Option.bind_some, great_eq, Option.bind_some, decide_eq_false g, if_neg (by simp), r4right_k _ _ _ _ _ _ (by omega), Option.bind_some, decide_eq_true hF, Bool.not_true, phaetonlaw04_FrameLengths.j0.eq_2, if_neg (by simp), if_pos rfl]
    exact k1 (K0 + K1 + 2) (by omega)
  | false =>
    obtain ⟨K1, k1⟩ := lengths_j1 false id rm ln d x hF hU 19 rfl
    refine ⟨K0 + K1 + 3, ?_⟩
    unfold phaetonlaw04_FrameLengths.f
    rw [hh _ (by omega), Option.bind_some, great_eq, Option.bind_some, decide_eq_false g, if_neg (by simp), r4right_k _ _ _ _ _ _ (by omega), Option.bind_some, decide_eq_true hF, Bool.not_true, phaetonlaw04_FrameLengths.j0.eq_2, if_neg (by simp), if_neg (by simp)]
    exact k1 (K0 + K1 + 2) (by omega)
end Go.Proofs.Ytiphbgcmbbfpmaa.Pure

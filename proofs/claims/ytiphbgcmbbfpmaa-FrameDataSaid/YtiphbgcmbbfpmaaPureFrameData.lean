/- Of two frames that differ in their data alone the heads differ just where the data's bits do, behind all else; their ranks are alike: data of at most 100 bytes. -/
import Derived.Test.YtiphbgcmbbfpmaaPx18
import Derived.Test.YtiphbgcmbbfpmaaPureHead04
set_option linter.unusedVariables false
set_option linter.unusedSimpArgs false
namespace Go.Proofs.Ytiphbgcmbbfpmaa.Pure
open Go.RowKit Go.Proofs.Ytiphbgcmbbfpmaa.PB Go.Proofs.Ytiphbgcmbbfpmaa.Px Go.Proofs.YtiphbgcmbbfpmaaW.PrintWords Go.Proofs.YtiphbgcmbbfpmaaW.PrintLast Go.Proofs.YtiphbgcmbbfpmaaW.PrintMore
open Go.Proofs.Ytiphbgcmbbfpmaa.H (RankL lessB whereB leastB Parts IdOk rankF bitI bitsOf spreadB)
theorem FrameData : phaetonlaw04_FrameData.Pure := by
  intro e id rm ln d b _ _ _ hwd _ _ hwb
  have hU : ∀ x ∈ d, H.U8 x := fun x hx => H.of_wf8 (hwd x hx)
  have hUb : ∀ x ∈ b, H.U8 x := fun x hx => H.of_wf8 (hwb x hx)
  obtain ⟨K0, hh⟩ := head04_k
  by_cases g : (d.length : Int) > 100
  · refine ⟨K0 + 1, ?_⟩
    unfold phaetonlaw04_FrameData.f
    rw [hh _ (by omega), Option.bind_some, great_eq, Option.bind_some, decide_eq_true g, if_pos rfl, phaetonlaw04_FrameData.j0.eq_2, if_pos rfl, if_pos rfl]
  by_cases hF : FRight e id rm ln d
  case neg =>
    refine ⟨K0 + 2, ?_⟩
    unfold phaetonlaw04_FrameData.f
    rw [hh _ (by omega), Option.bind_some, great_eq, Option.bind_some, decide_eq_false g, if_neg (by simp), r4right_k _ _ _ _ _ _ (by omega), Option.bind_some, decide_eq_false hF, if_neg (by simp), phaetonlaw04_FrameData.j0.eq_2, if_pos rfl, if_pos rfl]
  cases rm with
  | true =>
    refine ⟨K0 + 2, ?_⟩
    unfold phaetonlaw04_FrameData.f
    rw [hh _ (by omega), Option.bind_some, great_eq, Option.bind_some, decide_eq_false g, if_neg (by simp), r4right_k _ _ _ _ _ _ (by omega), Option.bind_some, decide_eq_true hF, if_pos rfl, if_pos rfl, phaetonlaw04_FrameData.j0.eq_2, if_pos rfl, if_pos rfl]
  | false =>
    by_cases c1 : (b.length : Int) < ln
    · refine ⟨K0 + 2, ?_⟩
      unfold phaetonlaw04_FrameData.f
      rw [hh _ (by omega), Option.bind_some, great_eq, Option.bind_some, decide_eq_false g, if_neg (by simp), r4right_k _ _ _ _ _ _ (by omega), Option.bind_some, decide_eq_true hF, if_pos rfl, if_neg (by simp), if_pos c1, phaetonlaw04_FrameData.j0.eq_2, if_pos rfl, if_pos rfl]
    by_cases c2 : (b.length : Int) > 100
    · refine ⟨K0 + 2, ?_⟩
      unfold phaetonlaw04_FrameData.f
      rw [hh _ (by omega), Option.bind_some, great_eq, Option.bind_some, decide_eq_false g, if_neg (by simp), r4right_k _ _ _ _ _ _ (by omega), Option.bind_some, decide_eq_true hF, if_pos rfl, if_neg (by simp), if_neg c1, decide_eq_true c2, phaetonlaw04_FrameData.j0.eq_2, if_pos rfl, if_pos rfl]
    have hd8 := hF.dlen
    have hln := hF.2
    have hd := hln.2.2
    rw [if_neg (by simp)] at hd
    have htl : ((b.take ln.toNat).length : Int) = ln := by rw [List.length_take]; omega
    have hUt : ∀ x ∈ b.take ln.toNat, H.U8 x := fun x hx => hUb x (List.mem_of_mem_take hx)
    have hG : FRight e id false ln (b.take ln.toNat) := ⟨hF.1, hln.1, hln.2.1, by rw [if_neg (by simp)]; exact htl⟩
    generalize hbt : b.take ln.toNat = t at htl hUt hG
    have hpl := preF_len e id false
    obtain ⟨q, hq⟩ : ∃ q : Nat, q = (preF e id false ++ bitsOf ln 4).length := ⟨_, rfl⟩
    have hq40 : q ≤ 39 ∧ 0 < q := by rw [hq, List.length_append, hpl, H.bitsOf_length]; split <;> omega
    have e1 : headF e id false ln d = preF e id false ++ bitsOf ln 4 ++ spreadB d := by unfold headF; rw [List.append_assoc]
    have e2 : headF e id false ln t = preF e id false ++ bitsOf ln 4 ++ spreadB t := by unfold headF; rw [List.append_assoc]
    have l1 : (headF e id false ln d).length = q + 8 * d.length := by rw [e1, List.length_append, ← hq, H.spread_len]
    have l2 : (headF e id false ln t).length = q + 8 * t.length := by rw [e2, List.length_append, ← hq, H.spread_len]
    have w0 : wrap64 (((headF e id false ln d).length : Int) - wrap64 (8 * ln)) = (q : Int) := by rw [l1]; unfold wrap64; omega
    have w := Aside0.mk w0
    clear w0
    have t1 : (headF e id false ln d).take q = preF e id false ++ bitsOf ln 4 := by rw [e1, List.take_left' hq.symm]
    have t2 : (headF e id false ln t).take q = preF e id false ++ bitsOf ln 4 := by rw [e2, List.take_left' hq.symm]
    have t3 : (headF e id false ln d).drop q = spreadB d := by rw [e1, List.drop_left' hq.symm]
    have t4 : (headF e id false ln t).drop q = spreadB t := by rw [e2, List.drop_left' hq.symm]
    obtain ⟨K1, k1⟩ := same2_k (preF e id false ++ bitsOf ln 4) (preF e id false ++ bitsOf ln 4) (by omega)
    obtain ⟨K2, k2⟩ := same2_k (spreadB d) (spreadB d) (by rw [H.spread_len]; omega)
    obtain ⟨K3, k3⟩ := same2_k (spreadB t) (spreadB t) (by rw [H.spread_len]; omega)
    obtain ⟨K4, k4⟩ := same2_k (rankF e id false) (rankF e id false) (by rw [H.rankF_len]; split <;> omega)
    rw [decide_eq_true rfl] at k1 k2 k3 k4
    obtain ⟨K5, k5⟩ := rspread_k d hU (by omega)
    obtain ⟨K6, k6⟩ := rspread_k t hUt (by omega)
    have hs : frame_Same.f e id false ln d e id false ln t = some (decide (d = t)) := by
      rw [same_eq _ _ _ _ _ _ _ _ _ _ hU hUt]; congr 1; apply decide_eq_decide.mpr; simp
    refine ⟨K0 + K1 + K2 + K3 + K4 + K5 + K6 + 3, ?_⟩
    unfold phaetonlaw04_FrameData.f
    rw [hh _ (by omega), Option.bind_some, great_eq, Option.bind_some, decide_eq_false g, if_neg (by simp), r4right_k _ _ _ _ _ _ (by omega), Option.bind_some, decide_eq_true hF, if_pos rfl, if_neg (by simp), if_neg c1, decide_eq_false c2, phaetonlaw04_FrameData.j0.eq_2, if_neg (by simp), if_pos (by omega), if_pos (by omega), hbt, fhead_eq hF, Option.bind_some, fhead_eq hG, Option.bind_some, if_pos rfl, w.out, if_pos (by omega), if_pos (by omega), if_pos (by omega), if_pos (by omega), if_pos (by omega), Int.toNat_natCast, t1, t2, k1 _ (by omega), Option.bind_some, if_pos rfl, k5 _ (by omega), Option.bind_some, t3, k2 _ (by omega), Option.bind_some, if_pos rfl, k6 _ (by omega), Option.bind_some, t4, k3 _ (by omega), Option.bind_some, if_pos rfl, frank_eq hF, Option.bind_some, frank_eq hG, Option.bind_some, k4 _ (by omega), Option.bind_some, if_pos rfl, hs, Option.bind_some, sameBytes_eq d t hU hUt, Option.bind_some, if_pos (by simp)]
end Go.Proofs.Ytiphbgcmbbfpmaa.Pure

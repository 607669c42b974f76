/- Frames and their bits: what the printed functions, and the document's answer to layer 4, come to. -/
import Derived.Test.YtechlakahpkdpaaPureRank
import Derived.Test.YtechlakahpkdpaaPx3
import Derived.Test.YtechlakahpkdpaaPx4
set_option linter.unusedVariables false
set_option linter.unusedSimpArgs false
namespace Go.Proofs.Ytechlakahpkdpaa.PB
open Go.RowKit Go.Proofs.Ytechlakahpkdpaa.Px Go.Proofs.YtechlakahpkdpaaW.PrintWords Go.Proofs.YtechlakahpkdpaaW.PrintLast Go.Proofs.YtechlakahpkdpaaW.PrintMore
open Go.Proofs.Ytechlakahpkdpaa.H (RankL lessB whereB leastB Parts IdOk rankF bitI bitsOf spreadB)
/-! ### rows that are alike -/
theorem same_l0' (l m : List Int) (hlm : l.length = m.length) (hl : l.length ≤ 4611686018427387904) : ∀ d i : Nat, i + d = l.length → Ev (fun k => phaetonref01_Same.l0 k l m (i : Int)) (decide (l.drop i = m.drop i)) := by
  intro d
  induction d with
  | zero =>
    intro i hi
    refine Ev.step (f := fun _ => some (decide (l.drop i = m.drop i))) (fun k => ?_) (Ev.now _)
    rw [phaetonref01_Same.l0.eq_2, if_neg (by omega), List.drop_eq_nil_of_le (by omega), List.drop_eq_nil_of_le (by omega)]; rfl
  | succ d ih =>
    intro i hi
    have hlt : i < l.length := by omega
    have e1 := rd_drop hlt
    have e2 := rd_drop (l := m) (i := i) (by omega)
    by_cases c : l.getD i 0 = m.getD i 0
    · refine Ev.step (f := fun k => phaetonref01_Same.l0 k l m ((i + 1 : Nat) : Int)) (fun k => ?_) ?_
      · rw [phaetonref01_Same.l0.eq_2, if_pos (by omega), if_pos (by omega), if_pos (by omega), rd_nat, rd_nat, if_pos c, H.wrap_succ hlt hl]
      · have := ih (i + 1) (by omega)
        rw [e1, e2, c]
        simpa using this
    · refine Ev.step (f := fun _ => some (decide (l.drop i = m.drop i))) (fun k => ?_) (Ev.now _)
      rw [phaetonref01_Same.l0.eq_2, if_pos (by omega), if_pos (by omega), if_pos (by omega), rd_nat, rd_nat, if_neg c, decide_eq_false]
      intro e; rw [e1, e2] at e; injection e with e; exact c e
theorem same2_k (l m : List Int) (hl : l.length ≤ 4611686018427387904) : ∃ K, ∀ k, K ≤ k → phaetonref01_Same.f k l m = some (decide (l = m)) := by
  by_cases c : l.length = m.length
  · obtain ⟨K, hK⟩ := same_l0' l m c hl l.length 0 (by omega)
    refine ⟨K, fun k hk => ?_⟩
    unfold phaetonref01_Same.f
    rw [if_pos (by omega)]
    exact hK k hk
  · refine ⟨0, fun k _ => ?_⟩
    unfold phaetonref01_Same.f
    rw [if_neg (by omega), decide_eq_false (fun e => c (by rw [e]))]
/-! ### right frames -/
def FRight (e : Bool) (id : Int) (rm : Bool) (ln : Int) (d : List Int) : Prop := IdOk e id ∧ 0 ≤ ln ∧ ln ≤ 8 ∧ (d.length : Int) = if rm = true then 0 else ln
instance (e : Bool) (id : Int) (rm : Bool) (ln : Int) (d : List Int) : Decidable (FRight e id rm ln d) := by unfold FRight IdOk; infer_instance
theorem r4right_k (e : Bool) (id : Int) (rm : Bool) (ln : Int) (d : List Int) : ∀ k, 2 ≤ k → phaetonref04_Right.f k e id rm ln d = some (decide (FRight e id rm ln d)) := by
  intro k hk
  obtain ⟨k, rfl⟩ : ∃ m, k = m + 2 := ⟨k - 2, by omega⟩
  have hb : ∀ x y : Int, (x == y) = decide (x = y) := fun x y => rfl
  unfold phaetonref04_Right.f FRight IdOk
  cases e <;> cases rm <;> simp only [if_true, Bool.false_eq_true, if_false, phaetonref04_Right.j0, phaetonref04_Right.j1, hb, decide_eq_true_eq] <;> (repeat' split) <;> (congr 1; first | (apply decide_eq_decide.mpr; omega) | (symm; apply decide_eq_false; omega))
/-! ### heads -/
/-- A head's bits ahead of its length. -/
def preF (e : Bool) (id : Int) (rm : Bool) : List Int := 0 :: (rankF e id rm ++ if e = true then [0, 0] else [0])
def headF (e : Bool) (id : Int) (rm : Bool) (ln : Int) (d : List Int) : List Int := preF e id rm ++ (bitsOf ln 4 ++ spreadB d)
theorem preF_len (e : Bool) (id : Int) (rm : Bool) : (preF e id rm).length = if e = true then 35 else 15 := by
  unfold preF; rw [List.length_cons, List.length_append, H.rankF_len]; cases e <;> rfl
theorem headF_len (e : Bool) (id : Int) (rm : Bool) (ln : Int) (d : List Int) : (headF e id rm ln d).length = (if e = true then 39 else 19) + 8 * d.length := by
  unfold headF; rw [List.length_append, List.length_append, preF_len, H.bitsOf_length, H.spread_len]; cases e <;> simp <;> omega
theorem headF_right (e : Bool) (id : Int) (rm : Bool) (ln : Int) (d : List Int) : H.rightB (headF e id rm ln d) = true := by
  unfold headF preF
  have h0 : H.rightB ([0] : List Int) = true := rfl
  have hr : H.rightB (rankF e id rm) = true := H.rightB_of (H.rankF_RankL e id rm).1
  have h1 : H.rightB (if e = true then [0, 0] else [0] : List Int) = true := by cases e <;> rfl
  rw [← List.singleton_append, H.rightB_append, H.rightB_append, H.rightB_append, H.rightB_append, h0, hr, h1, H.bitsOf_right, H.spread_right]; rfl
theorem head_eq {e : Bool} {id : Int} {rm : Bool} {ln : Int} {d : List Int} (h : FRight e id rm ln d) : frame_headB e id rm ln d = headF e id rm ln d := by
  obtain ⟨h1, h2, h3, h4⟩ := h
  unfold frame_headB headF preF
  rw [rankB_eq rm h1, show (H.putB 0 1).1 = [0] by decide, show (H.putB ln 4).1 = bitsOf ln 4 from put_small (m := 4) (by decide) h2 (by omega)]
  cases e <;> simp [List.append_assoc]
theorem fhead_eq {e : Bool} {id : Int} {rm : Bool} {ln : Int} {d : List Int} (h : FRight e id rm ln d) : frame_Head.f e id rm ln d = some (headF e id rm ln d) := by
  have hl : d.length ≤ 1073741824 := by
    obtain ⟨h1, h2, h3, h4⟩ := h
    cases rm with
    | true => rw [if_pos rfl] at h4; omega
    | false => rw [if_neg (by simp)] at h4; omega
  unfold frame_Head.f
  rw [if_pos hl, head_eq h]
theorem frank_eq {e : Bool} {id : Int} {rm : Bool} {ln : Int} {d : List Int} (h : FRight e id rm ln d) : frame_Rank.f e id rm ln d = some (rankF e id rm) := by
  unfold frame_Rank.f; rw [rankB_eq rm h.1]
theorem FRight.dlen {e : Bool} {id : Int} {rm : Bool} {ln : Int} {d : List Int} (h : FRight e id rm ln d) : d.length ≤ 8 := by
  obtain ⟨h1, h2, h3, h4⟩ := h
  cases rm with
  | true => rw [if_pos rfl] at h4; omega
  | false => rw [if_neg (by simp)] at h4; omega
end Go.Proofs.Ytechlakahpkdpaa.PB

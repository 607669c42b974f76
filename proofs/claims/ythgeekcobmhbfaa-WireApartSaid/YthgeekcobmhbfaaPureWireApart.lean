/- Unlike right frames are unlike as they are sent, and neither one begins the other. -/
import Derived.Test.YthgeekcobmhbfaaPx19
import Derived.Test.YthgeekcobmhbfaaPureWire
set_option linter.unusedVariables false
set_option linter.unusedSimpArgs false
namespace Go.Proofs.Ythgeekcobmhbfaa.PB
open Go.RowKit Go.Proofs.Ythgeekcobmhbfaa.Px Go.Proofs.YthgeekcobmhbfaaW.PrintWords Go.Proofs.YthgeekcobmhbfaaW.PrintLast Go.Proofs.YthgeekcobmhbfaaW.PrintMore
open Go.Proofs.Ythgeekcobmhbfaa.H (IdOk rankF bitI bitsOf spreadB)
/-- A frame's bits that begin another one's are that frame's. -/
theorem begins {e : Bool} {id : Int} {rm : Bool} {ln : Int} {d : List Int} {e' : Bool} {id' : Int} {rm' : Bool} {ln' : Int} {d' : List Int} (h : FRight e id rm ln d) (h' : FRight e' id' rm' ln' d') (hw : ∀ x ∈ d, H.U8 x) (hw' : ∀ x ∈ d', H.U8 x) {t : List Int} (ht : sentF (headF e' id' rm' ln' d') = sentF (headF e id rm ln d) ++ t) : e = e' ∧ id = id' ∧ rm = rm' ∧ ln = ln' ∧ d = d' := by
  have hr' := sentF_bits (headF_right e' id' rm' ln' d')
  have hsl := (stuffF_len (headF_right e' id' rm' ln' d')).2
  have hl2 := (headF_len2 h').2
  have hlt := congrArg List.length ht
  rw [List.length_append, sentF_len, sentF_len] at hlt
  have hrt : H.rightB t = true := by rw [ht, H.rightB_append, Bool.and_eq_true] at hr'; exact hr'.2
  have hd : ∀ (t : List Int), ∀ i, i < 10 → i = 1 ∨ (bitsOf 1023 10 ++ t).getD i 0 ≠ 0 := fun t => by
    rw [ones_eq]; intro i hi; right; match i, hi with | 0, _ | 1, _ | 2, _ | 3, _ | 4, _ | 5, _ | 6, _ | 7, _ | 8, _ | 9, _ => (show (1 : Int) ≠ 0; decide)
  have hone : ∀ t : List Int, (bitsOf 1023 10 ++ t).getD 1 0 = 1 := fun t => by rw [ones_eq]; rfl
  have l10 := H.bitsOf_length 1023 10
  have r1 := read_ok5 h hw (more := bitsOf 1023 10 ++ t) (by rw [H.rightB_append, H.bitsOf_right, hrt]; rfl) (by rw [List.length_append, l10]; omega) (by rw [List.length_append, l10]; omega) (hd t) (hone t)
  have r2 := read_ok5 h' hw' (more := bitsOf 1023 10 ++ []) (by rw [List.append_nil, H.bitsOf_right]) (by rw [List.length_append, l10]; simp) (by rw [List.length_append, l10]; simp) (hd []) (hone [])
  rw [← List.append_assoc, show stuffF (headF e id rm ln d) ++ bitsOf 1023 10 = sentF (headF e id rm ln d) from rfl, ← ht] at r1
  rw [List.append_nil, show stuffF (headF e' id' rm' ln' d') ++ bitsOf 1023 10 = sentF (headF e' id' rm' ln' d') from rfl, r1] at r2
  simp only [Option.some.injEq, Prod.mk.injEq] at r2
  exact ⟨r2.1, r2.2.1, r2.2.2.1, r2.2.2.2.1, r2.2.2.2.2.1⟩
theorem take_begins {a b : List Int} (hl : a.length ≤ b.length) (h : a.take a.length = b.take a.length) : b = a ++ b.drop a.length := by
  rw [List.take_length] at h
  conv => rhs; rw [h]
  have : (b.take a.length).length = a.length := by rw [List.length_take]; omega
  rw [this, List.take_append_drop]
end Go.Proofs.Ythgeekcobmhbfaa.PB
namespace Go.Proofs.Ythgeekcobmhbfaa.Pure
open Go.RowKit Go.Proofs.Ythgeekcobmhbfaa.PB Go.Proofs.Ythgeekcobmhbfaa.Px Go.Proofs.YthgeekcobmhbfaaW.PrintWords Go.Proofs.YthgeekcobmhbfaaW.PrintLast Go.Proofs.YthgeekcobmhbfaaW.PrintMore
open Go.Proofs.Ythgeekcobmhbfaa.H (IdOk rankF bitI bitsOf spreadB)
theorem WireApart : phaetonlaw05_WireApart.Pure := by
  intro e id rm ln d e' id' rm' ln' d' _ _ _ hwd _ _ _ hwd'
  have hw := bytes_of hwd
  have hw' := bytes_of hwd'
  obtain ⟨K0, hh⟩ := head05_k
  by_cases g : (d.length : Int) > 100
  · refine ⟨K0 + 2, ?_⟩
    unfold phaetonlaw05_WireApart.f
    rw [hh _ (by omega), Option.bind_some, great_eq, Option.bind_some, decide_eq_true g, if_pos rfl, phaetonlaw05_WireApart.j0.eq_2, if_pos rfl, if_pos rfl]
  by_cases g' : (d'.length : Int) > 100
  · refine ⟨K0 + 2, ?_⟩
    unfold phaetonlaw05_WireApart.f
    rw [hh _ (by omega), Option.bind_some, great_eq, Option.bind_some, decide_eq_false g, if_neg (by simp), great_eq, Option.bind_some, decide_eq_true g', if_pos rfl, phaetonlaw05_WireApart.j0.eq_2, if_pos rfl, if_pos rfl]
  by_cases hF : FRight e id rm ln d
  case neg =>
    refine ⟨K0 + 2, ?_⟩
    unfold phaetonlaw05_WireApart.f
    rw [hh _ (by omega), Option.bind_some, great_eq, Option.bind_some, decide_eq_false g, if_neg (by simp), great_eq, Option.bind_some, decide_eq_false g', if_neg (by simp), r4right_k _ _ _ _ _ _ (by omega), Option.bind_some, decide_eq_false hF, if_neg (by simp), phaetonlaw05_WireApart.j0.eq_2, if_pos rfl, if_pos rfl]
  by_cases hG : FRight e' id' rm' ln' d'
  case neg =>
    refine ⟨K0 + 2, ?_⟩
    unfold phaetonlaw05_WireApart.f
    rw [hh _ (by omega), Option.bind_some, great_eq, Option.bind_some, decide_eq_false g, if_neg (by simp), great_eq, Option.bind_some, decide_eq_false g', if_neg (by simp), r4right_k _ _ _ _ _ _ (by omega), Option.bind_some, decide_eq_true hF, if_pos rfl, r4right_k _ _ _ _ _ _ (by omega), Option.bind_some, decide_eq_false hG, Bool.not_false, phaetonlaw05_WireApart.j0.eq_2, if_pos rfl, if_pos rfl]
  have b1 := begins hF hG hw hw' (t := (sentF (headF e' id' rm' ln' d')).drop (sentF (headF e id rm ln d)).length)
  have b2 := begins hG hF hw' hw (t := (sentF (headF e id rm ln d)).drop (sentF (headF e' id' rm' ln' d')).length)
  have q1 := wire_eq hF
  have q2 := wire_eq hG
  have s1 := (stuffF_len (headF_right e id rm ln d))
  have s2 := (stuffF_len (headF_right e' id' rm' ln' d'))
  have z1 := sentF_len (headF e id rm ln d)
  have z2 := sentF_len (headF e' id' rm' ln' d')
  have n1 := headF_len2 hF
  have n2 := headF_len2 hG
  have hcg : (e = e' ∧ id = id' ∧ rm = rm' ∧ ln = ln' ∧ d = d') → sentF (headF e id rm ln d) = sentF (headF e' id' rm' ln' d') := by
    rintro ⟨rfl, rfl, rfl, rfl, rfl⟩; rfl
  have hsm := r4same_eq e id rm ln d e' id' rm' ln' d' hw hw'
  generalize sentF (headF e id rm ln d) = a at *
  generalize sentF (headF e' id' rm' ln' d') = b at *
  obtain ⟨n, hn⟩ : ∃ n : Nat, n = min a.length b.length := ⟨_, rfl⟩
  have hmn : mn (a.length : Int) (b.length : Int) = (n : Int) := by unfold mn; split <;> omega
  have hiff : (a.take n = b.take n) ↔ (e = e' ∧ id = id' ∧ rm = rm' ∧ ln = ln' ∧ d = d') := by
    constructor
    · intro h
      by_cases hl : a.length ≤ b.length
      · have : n = a.length := by omega
        rw [this] at h
        exact b1 (take_begins hl h)
      · have : n = b.length := by omega
        rw [this] at h
        obtain ⟨c1, c2, c3, c4, c5⟩ := b2 (take_begins (by omega) h.symm)
        exact ⟨c1.symm, c2.symm, c3.symm, c4.symm, c5.symm⟩
    · intro h; rw [hcg h]
  obtain ⟨K1, k1⟩ := same2_k (a.take n) (b.take n) (by rw [List.length_take]; omega)
  refine ⟨K0 + K1 + 3, ?_⟩
  unfold phaetonlaw05_WireApart.f
  rw [hh _ (by omega), Option.bind_some, great_eq, Option.bind_some, decide_eq_false g, if_neg (by simp), great_eq, Option.bind_some, decide_eq_false g', if_neg (by simp), r4right_k _ _ _ _ _ _ (by omega), Option.bind_some, decide_eq_true hF, if_pos rfl, r4right_k _ _ _ _ _ _ (by omega), Option.bind_some, decide_eq_true hG, Bool.not_true, phaetonlaw05_WireApart.j0.eq_2, if_neg (by simp), q1, Option.bind_some, q2, Option.bind_some, if_pos rfl, hmn, if_pos (by omega), if_pos (by omega), if_pos (by omega), if_pos (by omega), Int.toNat_natCast, k1 _ (by omega), Option.bind_some, hsm, Option.bind_some, if_pos]
  by_cases hc : a.take n = b.take n
  · rw [decide_eq_true hc, decide_eq_true (hiff.mp hc)]; rfl
  · rw [decide_eq_false hc, decide_eq_false (fun k => hc (hiff.mpr k))]; rfl
end Go.Proofs.Ythgeekcobmhbfaa.Pure

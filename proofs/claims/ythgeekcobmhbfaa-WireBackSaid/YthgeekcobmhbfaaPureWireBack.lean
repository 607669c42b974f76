/- A right frame is read of itself as it is heard, whatever bits stand behind. -/
import Derived.Test.YthgeekcobmhbfaaPx15
import Derived.Test.YthgeekcobmhbfaaPureWire
set_option linter.unusedVariables false
set_option linter.unusedSimpArgs false
namespace Go.Proofs.Ythgeekcobmhbfaa.Pure
open Go.RowKit Go.Proofs.Ythgeekcobmhbfaa.PB Go.Proofs.Ythgeekcobmhbfaa.Px Go.Proofs.YthgeekcobmhbfaaW.PrintWords Go.Proofs.YthgeekcobmhbfaaW.PrintLast Go.Proofs.YthgeekcobmhbfaaW.PrintMore
open Go.Proofs.Ythgeekcobmhbfaa.H (IdOk rankF bitI bitsOf spreadB)
theorem WireBack : phaetonlaw05_WireBack.Pure := by
  intro e id rm ln d more _ _ _ hwd hml _ _
  have hw := bytes_of hwd
  obtain ⟨K0, hh⟩ := head05_k
  by_cases hF : FRight e id rm ln d
  case neg =>
    refine ⟨K0 + 2, ?_⟩
    unfold phaetonlaw05_WireBack.f
    rw [hh _ (by omega), Option.bind_some, great_eq, Option.bind_some]
    by_cases g : (d.length : Int) > 100
    · rw [decide_eq_true g, if_pos rfl, phaetonlaw05_WireBack.j0.eq_2, if_pos rfl, if_pos rfl]
    · rw [decide_eq_false g, if_neg (by simp), r4right_k _ _ _ _ _ _ (by omega), Option.bind_some, decide_eq_false hF, if_neg (by simp), phaetonlaw05_WireBack.j0.eq_2, if_pos rfl, if_pos rfl]
  have hhr := headF_right e id rm ln d
  have hl2 := headF_len2 hF
  have hsl := stuffF_len hhr
  by_cases hm1 : (more.length : Int) > 100
  · refine ⟨K0 + 2, ?_⟩
    unfold phaetonlaw05_WireBack.f
    rw [hh _ (by omega), Option.bind_some, great_eq, Option.bind_some, not_great hF, if_neg (by simp), r4right_k _ _ _ _ _ _ (by omega), Option.bind_some, decide_eq_true hF, if_pos rfl, if_pos hm1, phaetonlaw05_WireBack.j0.eq_2, if_pos rfl, if_pos rfl]
  obtain ⟨K1, k1⟩ := rright_k more (by omega)
  by_cases hr : H.rightB more = true
  case neg =>
    refine ⟨K0 + K1 + 2, ?_⟩
    unfold phaetonlaw05_WireBack.f
    rw [hh _ (by omega), Option.bind_some, great_eq, Option.bind_some, not_great hF, if_neg (by simp), r4right_k _ _ _ _ _ _ (by omega), Option.bind_some, decide_eq_true hF, if_pos rfl, if_neg hm1, k1 _ (by omega), Option.bind_some, Bool.eq_false_iff.mpr hr, Bool.not_false, phaetonlaw05_WireBack.j0.eq_2, if_pos rfl, if_pos rfl]
  have hml2 : more.length ≤ 100 := by omega
  have l10 := H.bitsOf_length 1023 10
  have r5 := read_ok5 hF hw (more := bitsOf 1023 10 ++ more) (by rw [H.rightB_append, H.bitsOf_right, hr]; rfl) (by rw [List.length_append, l10]; omega) (by rw [List.length_append, l10]; omega) (by rw [ones_eq]; intro i hi; right; match i, hi with | 0, _ | 1, _ | 2, _ | 3, _ | 4, _ | 5, _ | 6, _ | 7, _ | 8, _ | 9, _ => (show (1 : Int) ≠ 0; decide)) (by rw [ones_eq]; rfl)
  have r0 := read_ok0 hF hw (more := (bitsOf 1023 10 ++ more).set 1 0) (by rw [ones_eq]; show H.rightB ([1, 0, 1, 1, 1, 1, 1, 1, 1, 1] ++ more) = true; rw [H.rightB_append, hr]; rfl) (by rw [List.length_set, List.length_append, l10]; omega) (by rw [List.length_set, List.length_append, l10]; omega) (by rw [ones_eq]; intro i hi; match i, hi with | 1, _ => exact .inl rfl | 0, _ | 2, _ | 3, _ | 4, _ | 5, _ | 6, _ | 7, _ | 8, _ | 9, _ => exact .inr (by show (1 : Int) ≠ 0; decide)) (by rw [ones_eq]; show (0 : Int) ≠ 1; decide)
  rw [← set_behind, ← List.append_assoc] at r0
  rw [← List.append_assoc] at r5
  have hwq := wire_eq hF
  have hsd := r4same_k (e := e) (id := id) (rm := rm) (ln := ln) hw
  have hsf : stuffF (headF e id rm ln d) ++ bitsOf 1023 10 = sentF (headF e id rm ln d) := rfl
  have hsn := sentF_len (headF e id rm ln d)
  rw [hsf] at r5 r0
  generalize sentF (headF e id rm ln d) = w at *
  generalize stuffF (headF e id rm ln d) = S at *
  have hww0 : wrap64 ((w.length : Int) - 9) = ((S.length + 1 : Nat) : Int) := by unfold wrap64; omega
  have hww := Aside0.mk hww0
  clear hww0
  refine ⟨K0 + K1 + 2, ?_⟩
  unfold phaetonlaw05_WireBack.f
  rw [hh _ (by omega), Option.bind_some, great_eq, Option.bind_some, not_great hF, if_neg (by simp), r4right_k _ _ _ _ _ _ (by omega), Option.bind_some, decide_eq_true hF, if_pos rfl, if_neg hm1, k1 _ (by omega), Option.bind_some, hr, Bool.not_true, phaetonlaw05_WireBack.j0.eq_2, if_neg (by simp), hwq, Option.bind_some, if_neg (by omega), Option.bind_some, if_pos (by simp only [List.length_nil]; omega), Option.bind_some, List.nil_append, if_pos (by omega), Option.bind_some, r5, Option.bind_some, hww.out, if_pos (by omega), if_pos (by rw [List.length_append]; omega), Int.toNat_natCast, r0, Option.bind_some, if_pos rfl]
  dsimp only
  rw [hsd, Option.bind_some, if_pos rfl, if_pos rfl, if_pos rfl, Option.bind_some, if_pos rfl, if_pos rfl, if_pos rfl]
end Go.Proofs.Ythgeekcobmhbfaa.Pure

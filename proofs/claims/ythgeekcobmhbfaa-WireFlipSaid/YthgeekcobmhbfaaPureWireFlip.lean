/- Of the ten behind what is stuffed one bit that is another one is a fault there. -/
import Derived.Test.YthgeekcobmhbfaaPx18
import Derived.Test.YthgeekcobmhbfaaPureWire
set_option linter.unusedVariables false
set_option linter.unusedSimpArgs false
namespace Go.Proofs.Ythgeekcobmhbfaa.PB
open Go.RowKit Go.Proofs.Ythgeekcobmhbfaa.Px Go.Proofs.YthgeekcobmhbfaaW.PrintWords Go.Proofs.YthgeekcobmhbfaaW.PrintLast Go.Proofs.YthgeekcobmhbfaaW.PrintMore
open Go.Proofs.Ythgeekcobmhbfaa.H (IdOk rankF bitI bitsOf spreadB)
def ten0 : List Int := [1, 0, 1, 1, 1, 1, 1, 1, 1, 1]
def ten1 (j : Nat) : List Int := ten0.set j (1 - ten0.getD j 0)
theorem ten1_right : ∀ j, j < 10 → H.rightB (ten1 j) = true := by decide
theorem ten1_len (j : Nat) : (ten1 j).length = 10 := by unfold ten1; rw [List.length_set]; rfl
theorem ten1_one : (∀ i, i < 10 → i = 1 ∨ (ten1 1).getD i 0 ≠ 0) ∧ (ten1 1).getD 1 0 = 1 := by decide
theorem ten1_else : ∀ j, j < 10 → j ≠ 1 → (∀ i, i < j → i = 1 ∨ (ten1 j).getD i 0 ≠ 0) ∧ (ten1 j).getD j 0 = 0 := by decide
theorem ten0_wrap : ∀ j, j < 10 → wrap64 (1 - ten0.getD j 0) = 1 - ten0.getD j 0 := by decide +kernel
end Go.Proofs.Ythgeekcobmhbfaa.PB
namespace Go.Proofs.Ythgeekcobmhbfaa.Pure
open Go.RowKit Go.Proofs.Ythgeekcobmhbfaa.PB Go.Proofs.Ythgeekcobmhbfaa.Px Go.Proofs.YthgeekcobmhbfaaW.PrintWords Go.Proofs.YthgeekcobmhbfaaW.PrintLast Go.Proofs.YthgeekcobmhbfaaW.PrintMore
open Go.Proofs.Ythgeekcobmhbfaa.H (IdOk rankF bitI bitsOf spreadB)
theorem WireFlip : phaetonlaw05_WireFlip.Pure := by
  intro e id rm ln d at_ _ _ _ hwd hat
  have hw := bytes_of hwd
  have ha := H.of_wf8 hat
  obtain ⟨K0, hh⟩ := head05_k
  by_cases hF : FRight e id rm ln d
  case neg =>
    refine ⟨K0 + 2, ?_⟩
    unfold phaetonlaw05_WireFlip.f
    rw [hh _ (by omega), Option.bind_some, great_eq, Option.bind_some]
    by_cases g : (d.length : Int) > 100
    · rw [decide_eq_true g, if_pos rfl, phaetonlaw05_WireFlip.j0.eq_2, if_pos rfl, if_pos rfl]
    · rw [decide_eq_false g, if_neg (by simp), r4right_k _ _ _ _ _ _ (by omega), Option.bind_some, decide_eq_false hF, Bool.not_false, phaetonlaw05_WireFlip.j0.eq_2, if_pos rfl, if_pos rfl]
  have hhr := headF_right e id rm ln d
  have hl2 := headF_len2 hF
  have hsl := stuffF_len hhr
  obtain ⟨j, hj⟩ : ∃ j : Nat, j = (at_ % 10).toNat := ⟨_, rfl⟩
  have hj10 : j < 10 := by unfold H.U8 at ha; omega
  have hja : wrap64 at_ = at_ := H.wrap_u8 ha
  have hjm : Int.tmod at_ 10 = (j : Int) := by unfold H.U8 at ha; rw [Int.tmod_eq_emod_of_nonneg ha.1]; omega
  have hread : wire_Read.f (stuffF (headF e id rm ln d) ++ ten1 j) = (if j = 1 then some (e, id, rm, ln, d, 5, (((stuffF (headF e id rm ln d)).length + j : Nat) : Int)) else some (false, 0, false, 0, [], 3, (((stuffF (headF e id rm ln d)).length + j : Nat) : Int))) := by
    by_cases h1 : j = 1
    · rw [if_pos h1, h1]
      exact read_ok5 hF hw (ten1_right 1 (by decide)) (by rw [ten1_len]; omega) (by rw [ten1_len]; omega) ten1_one.1 ten1_one.2
    · rw [if_neg h1]
      obtain ⟨t1, t2⟩ := ten1_else j hj10 h1
      exact read_form hF hw (ten1_right j hj10) (by rw [ten1_len]; omega) (by rw [ten1_len]; omega) hj10 t1 h1 t2
  have hwq := wire_eq hF
  have hsd := r4same_k (e := e) (id := id) (rm := rm) (ln := ln) hw
  have hsz : phaetonref04_Same.f false 0 false 0 [] false 0 false 0 [] = some true := r4same_k (fun x hx => by cases hx)
  have hsf : sentF (headF e id rm ln d) = stuffF (headF e id rm ln d) ++ [1, 1, 1, 1, 1, 1, 1, 1, 1, 1] := by unfold sentF; rw [ones_eq]
  rw [hsf] at hwq
  generalize stuffF (headF e id rm ln d) = S at *
  have hset : (S ++ [1, 1, 1, 1, 1, 1, 1, 1, 1, 1]).set (S.length + 1) 0 = S ++ ten0 := set_behind _ _ _ _
  have hrd : rd (S ++ ten0) ((S.length + j : Nat) : Int) = ten0.getD j 0 := by rw [fb_rd_nat, getD_behind]
  have hset2 : (S ++ ten0).set (S.length + j) (1 - ten0.getD j 0) = S ++ ten1 j := set_behind _ _ _ _
  have hwl : (S ++ [1, 1, 1, 1, 1, 1, 1, 1, 1, 1]).length = S.length + 10 := by rw [List.length_append]; rfl
  have hww0 : wrap64 (((S.length + 10 : Nat) : Int) - 9) = ((S.length + 1 : Nat) : Int) := by unfold wrap64; omega
  have hww1 : wrap64 (((S.length + 10 : Nat) : Int) - 10) = (S.length : Int) := by unfold wrap64; omega
  have hww2 : wrap64 ((S.length : Int) + (j : Int)) = ((S.length + j : Nat) : Int) := by unfold wrap64; omega
  have W0 := Aside0.mk hww0
  have W1 := Aside0.mk hww1
  have W2 := Aside0.mk hww2
  have hju := Aside0.mk hja
  have hjt := Aside0.mk hjm
  clear hww0 hww1 hww2 hja hjm hj ha hat
  have hwr := ten0_wrap j hj10
  refine ⟨K0 + 2, ?_⟩
  unfold phaetonlaw05_WireFlip.f
  rw [hh _ (by omega), Option.bind_some, great_eq, Option.bind_some, not_great hF, if_neg (by simp), r4right_k _ _ _ _ _ _ (by omega), Option.bind_some, decide_eq_true hF, Bool.not_true, phaetonlaw05_WireFlip.j0.eq_2, if_neg (by simp), Option.bind_some, hwq, Option.bind_some, if_pos (by simp only [List.length_nil]; omega), Option.bind_some, List.nil_append, hwl, if_neg (by omega), W0.out, if_pos (by omega), if_pos (by omega), Option.bind_some, Int.toNat_natCast, hset, W1.out, hju.out, hjt.out, W2.out, if_pos (by omega), if_pos (by omega), Int.toNat_natCast, hrd, hwr, hset2, hread]
  by_cases h1 : j = 1
  · rw [if_pos h1, Option.bind_some, if_pos (by rw [h1]), if_pos rfl]
    dsimp only
    rw [hsd, Option.bind_some, if_pos rfl, if_pos rfl, if_pos rfl]
  · rw [if_neg h1, Option.bind_some, if_neg (by omega), if_pos rfl]
    dsimp only
    rw [hsz, Option.bind_some, if_pos rfl, if_pos rfl, if_pos rfl]
end Go.Proofs.Ythgeekcobmhbfaa.Pure

/- Plain laws of this session's own on runs of bits. No program in sight. -/
import Derived.Test.YthgeekcobmhbfaaHandStuffLaw
set_option linter.unusedVariables false
set_option linter.unusedSimpArgs false
namespace Go.Proofs.Ythgeekcobmhbfaa.H
open Go.RowKit
def tellS (l : List Int) : Int × Int := l.foldl runS (-1, 0)
theorem tellS_snoc (l : List Int) (b : Int) : tellS (l ++ [b]) = runS (tellS l) b := by simp [tellS, List.foldl_append]
theorem snocCases {α : Type} (l : List α) : l = [] ∨ ∃ m x, l = m ++ [x] := by
  refine snocInd (P := fun l => l = [] ∨ ∃ m x, l = m ++ [x]) (.inl rfl) (fun m x _ => .inr ⟨m, x, rfl⟩) l
theorem tellS_last (l : List Int) (hl : l ≠ []) : l.getD (l.length - 1) 0 = (tellS l).1 := by
  rcases snocCases l with rfl | ⟨m, x, rfl⟩
  · exact absurd rfl hl
  · rw [tellS_snoc, run_fst, List.length_append, List.length_singleton, Nat.add_sub_cancel, List.getD_eq_getElem?_getD, List.getElem?_append_right (Nat.le_refl _), Nat.sub_self]; rfl
theorem stuff_state (l : List Int) : (stuffS l).2 = tellS (stuffS l).1 := by
  refine snocInd (P := fun l => (stuffS l).2 = tellS (stuffS l).1) rfl (fun l b ih => ?_) l
  rw [stuffS_snoc]
  unfold stuffStep
  split
  · rw [tellS_snoc, tellS_snoc, ← ih]
  · rw [tellS_snoc, ← ih]
theorem stuffS_ok {l : List Int} (h : ∀ x ∈ l, Bit x) : Ok (stuffS l).2 ∧ ∀ x ∈ (stuffS l).1, Bit x := by
  unfold stuffS
  rw [foldl_stuff l [] (-1, 0) h, List.nil_append]
  exact ⟨stuffE_ok l _ h Ok.start, stuffGo_bits l _ h⟩
end Go.Proofs.Ythgeekcobmhbfaa.H

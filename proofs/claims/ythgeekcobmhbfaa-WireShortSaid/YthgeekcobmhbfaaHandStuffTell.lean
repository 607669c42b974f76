/- Plain laws of this session's own on runs of bits. No program in sight. -/
import Derived.Test.YthgeekcobmhbfaaHandStuffLaw
set_option linter.unusedVariables false
set_option linter.unusedSimpArgs false
namespace Go.Proofs.Ythgeekcobmhbfaa.H
open Go.RowKit
/-- The state behind a row of bits. -/
def tellS (l : List Int) : Int × Int := l.foldl runS (-1, 0)
theorem tellS_snoc (l : List Int) (b : Int) : tellS (l ++ [b]) = runS (tellS l) b := by simp [tellS, List.foldl_append]
theorem snocCases {α : Type} (l : List α) : l = [] ∨ ∃ m x, l = m ++ [x] := by
  refine snocInd (P := fun l => l = [] ∨ ∃ m x, l = m ++ [x]) (.inl rfl) (fun m x _ => .inr ⟨m, x, rfl⟩) l
theorem bits_snoc {l : List Int} {b : Int} (h : ∀ x ∈ l ++ [b], Bit x) : (∀ x ∈ l, Bit x) ∧ Bit b := ⟨fun x hx => h x (by simp [hx]), h b (by simp)⟩
theorem tellS_St (l : List Int) : (∀ x ∈ l, Bit x) → l.length ≤ 1099511627776 → St (tellS l) ∧ (tellS l).2 ≤ l.length := by
  refine snocInd (P := fun l => (∀ x ∈ l, Bit x) → l.length ≤ 1099511627776 → St (tellS l) ∧ (tellS l).2 ≤ l.length) (fun _ _ => ⟨.inl rfl, by decide⟩) (fun l b ih h hl => ?_) l
  rw [List.length_append, List.length_singleton] at hl ⊢
  obtain ⟨h1, h2⟩ := bits_snoc h
  obtain ⟨i1, i2⟩ := ih h1 (by omega)
  rw [tellS_snoc]
  have := (run_le i1 (by omega) b).2
  exact ⟨run_St i1 (by omega) h2, by omega⟩
theorem tellS_last (l : List Int) (hl : l ≠ []) : l.getD (l.length - 1) 0 = (tellS l).1 := by
  rcases snocCases l with rfl | ⟨m, x, rfl⟩
  · exact absurd rfl hl
  · rw [tellS_snoc, run_fst, List.length_append, List.length_singleton, Nat.add_sub_cancel, List.getD_eq_getElem?_getD, List.getElem?_append_right (Nat.le_refl _), Nat.sub_self]; rfl
/-- The last m bits are alike just if the run has m. -/
theorem tell_ge (l : List Int) : (∀ x ∈ l, Bit x) → l.length ≤ 1099511627776 → ∀ m : Nat, 1 ≤ m → m ≤ l.length → (l.drop (l.length - m)).all (· == (tellS l).1) = decide ((m : Int) ≤ (tellS l).2) := by
  refine snocInd (P := fun l => (∀ x ∈ l, Bit x) → l.length ≤ 1099511627776 → ∀ m : Nat, 1 ≤ m → m ≤ l.length → (l.drop (l.length - m)).all (· == (tellS l).1) = decide ((m : Int) ≤ (tellS l).2)) (fun _ _ m h1 h2 => by simp at h2; omega) (fun l b ih h hl m h1 h2 => ?_) l
  rw [List.length_append, List.length_singleton] at hl h2 ⊢
  obtain ⟨hb1, hb2⟩ := bits_snoc h
  obtain ⟨i1, i2⟩ := tellS_St l hb1 (by omega)
  rw [tellS_snoc, run_fst]
  obtain ⟨m, rfl⟩ : ∃ k, m = k + 1 := ⟨m - 1, by omega⟩
  rw [show l.length + 1 - (m + 1) = l.length - m by omega, List.drop_append_of_le_length (by omega), List.all_append]
  have hr := run_eq i1 (by omega) b
  rcases Nat.eq_zero_or_pos m with rfl | hm
  · rw [Nat.sub_zero, List.drop_length]
    have := (run_le i1 (by omega) b).1
    rw [decide_eq_true (by simpa using this)]; simp
  · have := ih hb1 (by omega) m hm (by omega)
    by_cases c : b = (tellS l).1
    · rw [c, this, ← c, hr, if_pos c]; simp
    · rw [hr, if_neg c, decide_eq_false (by show ¬ ((m + 1 : Nat) : Int) ≤ 1; omega)]
      have hlast := tellS_last l (fun e => by rw [e] at h2; simp at h2; omega)
      have hmem : l.getD (l.length - 1) 0 ∈ l.drop (l.length - m) := by
        rw [List.getD_eq_getElem?_getD, List.getElem?_eq_getElem (by omega), Option.getD_some]
        refine List.mem_drop_iff_getElem.mpr ⟨m - 1, by omega, ?_⟩
        congr 1; omega
      rw [Bool.and_eq_false_iff]
      left
      rw [Bool.eq_false_iff]
      intro ha
      have := List.all_eq_true.mp ha _ hmem
      rw [hlast] at this
      exact c (by simpa using this : (tellS l).1 = b).symm
theorem stuff_state (l : List Int) : (stuffS l).2 = tellS (stuffS l).1 := by
  refine snocInd (P := fun l => (stuffS l).2 = tellS (stuffS l).1) rfl (fun l b ih => ?_) l
  rw [stuffS_snoc]
  unfold stuffStep
  split
  · rw [tellS_snoc, tellS_snoc, ← ih]
  · rw [tellS_snoc, ← ih]
theorem stuffS_ok {l : List Int} (h : ∀ x ∈ l, Bit x) : Ok (stuffS l).2 ∧ ∀ x ∈ (stuffS l).1, Bit x := by
  unfold stuffS
  rw [foldl_stuff l [] (-1, 0) h, List.nil_append]
  exact ⟨stuffE_ok l _ h Ok.start, stuffGo_bits l _ h⟩
theorem tellT_state (l : List Int) : (tellT l).2 = tellS l := by
  refine snocInd (P := fun l => (tellT l).2 = tellS l) rfl (fun l b ih => ?_) l
  rw [tellT_snoc, tellS_snoc, ← ih]; rfl
theorem tellB_snoc (l : List Int) (b : Int) : tellB (l ++ [b]) = tellB l ++ [(runS (tellS l) b).2] := by
  unfold tellB
  rw [tellT_snoc, ← tellT_state]; rfl
theorem runsB_snoc (l : List Int) (b : Int) : runsB (l ++ [b]) = maxStep (runsB l) (runS (tellS l) b).2 := by
  unfold runsB; rw [tellB_snoc, maxB_snoc]
end Go.Proofs.Ythgeekcobmhbfaa.H

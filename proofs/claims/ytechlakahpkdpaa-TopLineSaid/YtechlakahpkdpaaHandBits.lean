/- Plain words of this session's own on rows of bits: whether a row is right, its number, its bytes. No program in sight. -/
import Derived.Test.YtechlakahpkdpaaHand
set_option linter.unusedVariables false
set_option linter.unusedSimpArgs false
namespace Go.Proofs.Ytechlakahpkdpaa.H
open Go.RowKit
def W64 (x : Int) : Prop := -9223372036854775808 ≤ x ∧ x ≤ 9223372036854775807
theorem wrap_succ {i n : Nat} (h : i < n) (hn : n ≤ 4611686018427387904) : wrap64 ((i : Int) + 1) = ((i + 1 : Nat) : Int) := by unfold wrap64; omega
theorem snocInd {α : Type} {P : List α → Prop} (h0 : P []) (h1 : ∀ l x, P l → P (l ++ [x])) : ∀ l, P l := by
 have key : ∀ r : List α, P r.reverse := by
  intro r
  induction r with
  | nil => exact h0
  | cons x r ih => rw [List.reverse_cons]; exact h1 _ _ ih
 intro l
 rw [← List.reverse_reverse l]
 exact key _
def isBit (x : Int) : Bool := x == 0 || x == 1
def rightB (l : List Int) : Bool := l.all isBit
theorem isBit_cases {x : Int} (h : isBit x = true) : x = 0 ∨ x = 1 := by simpa [isBit] using h
theorem rightB_mem {l : List Int} (h : rightB l = true) : ∀ x ∈ l, x = 0 ∨ x = 1 := fun x hx => isBit_cases (List.all_eq_true.mp h x hx)
theorem rightB_of {l : List Int} (h : ∀ x ∈ l, x = 0 ∨ x = 1) : rightB l = true := List.all_eq_true.mpr fun x hx => by simpa [isBit] using h x hx
theorem rightB_append (a b : List Int) : rightB (a ++ b) = (rightB a && rightB b) := by simp [rightB, List.all_append]
theorem bitsOf_right (n : Int) (m : Nat) : rightB (bitsOf n m) = true := by
 refine rightB_of fun x hx => ?_
 simp only [bitsOf, List.mem_map] at hx
 obtain ⟨j, _, rfl⟩ := hx
 omega
theorem small_iff (n : Int) (m : Nat) : n / 2 ^ m = 0 ↔ 0 ≤ n ∧ n < 2 ^ m := by
 have hp : (0 : Int) < 2 ^ m := Int.pow_pos (by decide)
 constructor
 ·intro h
  have h1 := Int.emod_add_mul_ediv n (2 ^ m)
  have h2 := Int.emod_nonneg n (Int.ne_of_gt hp)
  have h3 := Int.emod_lt_of_pos n hp
  rw [h] at h1
  simp at h1
  omega
 ·rintro ⟨h0, h1⟩
  exact Int.ediv_eq_zero_of_lt h0 h1
theorem putB_yes {n : Int} {m : Nat} (hm : m ≤ 32) (h0 : 0 ≤ n) (h1 : n < 2 ^ m) : putB n m = (bitsOf n m, true) := by
 unfold putB
 rw [if_neg (by omega), if_neg (by omega), Int.toNat_natCast, if_pos ((small_iff n m).mpr ⟨h0, h1⟩)]
theorem pow_pos2 (m : Nat) : (0 : Int) < 2 ^ m := Int.pow_pos (by decide)
theorem spread_right : ∀ b : List Int, rightB (spreadB b) = true := by
 intro b
 induction b with
 | nil => rfl
 | cons x b ih => rw [show spreadB (x :: b) = bitsOf (wrap64 x) 8 ++ spreadB b from rfl, rightB_append, bitsOf_right, ih]; rfl
theorem spread_len : ∀ b : List Int, (spreadB b).length = 8 * b.length := by
 intro b
 induction b with
 | nil => rfl
 | cons x b ih => rw [show spreadB (x :: b) = bitsOf (wrap64 x) 8 ++ spreadB b from rfl, List.length_append, bitsOf_length, ih, List.length_cons]; omega
end Go.Proofs.Ytechlakahpkdpaa.H

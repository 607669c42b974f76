/- Plain words on what is read at a place, and on shifts of a bit. -/
import Derived.Test.YtfbmgflkfpppmaaHandBits
import Derived.Test.YtfbmgflkfpppmaaWMore
import Derived.Test.YtfbmgflkfpppmaaWLast
set_option linter.unusedVariables false
set_option linter.unusedSimpArgs false
namespace Go.Proofs.Ytfbmgflkfpppmaa.PB
open Go.RowKit Go.Proofs.YtfbmgflkfpppmaaW.PrintWords Go.Proofs.YtfbmgflkfpppmaaW.PrintLast Go.Proofs.YtfbmgflkfpppmaaW.PrintMore

/-- From some number of rounds on it answers r. -/
theorem ev_all {α : Type} {g : Nat → Option α} {r : α} (h : Ev g r) : ∃ K, ∀ k, K ≤ k → g k = some r := h
theorem rd_nat (l : List Int) (i : Nat) : rd l (i : Int) = l.getD i 0 := by simp [rd]
theorem rd_drop {l : List Int} {i : Nat} (h : i < l.length) : l.drop i = l.getD i 0 :: l.drop (i + 1) := by
  rw [List.drop_eq_getElem_cons h, List.getD_eq_getElem?_getD, List.getElem?_eq_getElem h]; rfl
theorem rd_mem {l : List Int} {i : Nat} (h : i < l.length) : l.getD i 0 ∈ l := by
  rw [List.getD_eq_getElem?_getD, List.getElem?_eq_getElem h]; exact List.getElem_mem h

theorem shl_bit {b : Int} (hb : b = 0 ∨ b = 1) (n : Nat) (hn : n ≤ 61) : shl .i64 b (n : Int) = b * 2 ^ n := by
  unfold shl
  rw [show min ((n : Int).toNat) IntKind.i64.bits = n by simp [IntKind.bits]; omega]
  rw [IntKind.wrap_i64]
  have hp : (2 : Nat) ^ n ≤ 2 ^ 61 := Nat.pow_le_pow_right (by decide) hn
  have hp' : ((2 : Int) ^ n) ≤ 2305843009213693952 := by
    have : ((2 ^ n : Nat) : Int) ≤ ((2 ^ 61 : Nat) : Int) := by exact_mod_cast hp
    simpa using this
  have := H.pow_pos2 n
  rcases hb with rfl | rfl <;> omega
end Go.Proofs.Ytfbmgflkfpppmaa.PB

/- One of four values that lie in a box behind its first: read at a place that varies. -/
import Derived.Test.YtfgbcpdlhdgofaaWWords
set_option linter.unusedVariables false
namespace Go.Proofs.Ytfgbcpdlhdgofaa.HW
open Go.RowKit Go.Proofs.YtfgbcpdlhdgofaaW.PrintWords
def pick4 (a b c d i : Int) : Int := if i = 0 then a else if i = 1 then b else if i = 2 then c else d
theorem pick4_cell {w : World} {g t : Nat} {x a b c d : Int} (h : w.heap[g]? = some (.cells #[.int .u16 x, .int .u8 a, .int .u8 b, .int .u8 c, .int .u8 d] t (0, 0))) {i : Int} (h0 : 0 ≤ i) (h4 : i < 4) :
    w.cell? ⟨g, 1 + i.toNat, none⟩ = some (.int .u8 (pick4 a b c d i)) := by
  have hc := fun j => blk_cell h j
  rcases (by omega : i = 0 ∨ i = 1 ∨ i = 2 ∨ i = 3) with rfl | rfl | rfl | rfl
  · exact hc 1
  · exact hc 2
  · exact hc 3
  · exact hc 4
theorem pick4_next {i : Int} (h0 : 0 ≤ i) (h4 : i < 4) : 0 ≤ wrap64 (i + 1) := by unfold wrap64; omega
theorem keepC {w : World} {A : Option Addr} {n : Nat} {xs : List Int} (h : Kd.C (Kd.int .u8) w A n xs) : Kd.C (Kd.int .u8) w A n xs := h
theorem two_of {a b c : Prop} (h : a ∧ b ∧ c) : b ∧ c := h.2
end Go.Proofs.Ytfgbcpdlhdgofaa.HW

/- A row of numbers that is read has all blocks for its footprint. -/
import Derived.Test.YtechlakahpkdpaaWShare
import Derived.Test.YtechlakahpkdpaaWMore
set_option linter.unusedVariables false
namespace Go.Proofs.Ytechlakahpkdpaa.HW
open Go.RowKit Go.Proofs.YtechlakahpkdpaaW.PrintWords
theorem F_of_C {k : IntKind} {W : World} {A : Option Addr} {n : Nat} {xs : List Int} (h : Kd.C (Kd.int k) W A n xs) : Kd.F (Kd.int k) W (fun _ => True) A n xs := fun W' hW => by
  have hs : W.heap.size ≤ W'.heap.size := by
    by_cases h0 : W.heap.size = 0
    · omega
    · have := heap_lt (hW (W.heap.size - 1) trivial (by omega)) (by omega)
      omega
  have h2 : Kd.C (Kd.int k) { W with heap := W'.heap } A n xs := Kd.C_below h ⟨rfl, rfl, rfl, hs, fun j hj => hW j trivial hj⟩
  exact h2
end Go.Proofs.Ytechlakahpkdpaa.HW

/- A whole record stored into its box: the world is told, and what the box holds. -/
import Derived.Test.YtfbmgflkfpppmaaHandW
set_option linter.unusedVariables false
set_option linter.unusedSimpArgs false
namespace Go.Proofs.Ytfbmgflkfpppmaa.HW
open Go.RowKit Go.Proofs.YtfbmgflkfpppmaaW.PrintWords
section
variable {P : Program} {ops : Array Oper} {rest : List Oper} {o : Oper} {a : Act} {Q : Exit → Act → World → Prop}
theorem store_box2 {W : World} (hN : o.dst = none) (hgd : o.guard = none) (t : TypeId) (p x : Operand) (ho : o.op = .store t p x) {g tb : Nat} {cur cs : Array Value} (haddr : a.eval p = .pointer (some ⟨g, 0, none⟩)) (hx : a.eval x = .agg cs)
    (hb : W.heap[g]? = some (.cells cur tb (0, 0))) (hsz : cs.size = cur.size) (ht : (P.info? t).map (·.size) = some cs.size) (h1 : ∀ q ∈ cs.toList, q.oneCell' = true)
    (h : ∀ w1, w1 = W.setCells g 0 cs.toList → w1.heap[g]? = some (.cells cs tb (0, 0)) → wpList P ops Q rest a w1) : wpList P ops Q (o :: rest) a W := by
  refine store_box hN hgd t p x ho haddr hx hb hsz ht h1 fun w1 hw1 => ?_
  have := setCells_all g tb (0, 0) cs.toList [] cur.toList (W := W) (by simpa using hb) (by rw [Array.length_toList, Array.length_toList]; omega)
  exact h _ hw1 (by subst hw1; simpa using this)
end
end Go.Proofs.Ytfbmgflkfpppmaa.HW

/- The live question of layer 6's laws is answered: true. -/
import Derived.Test.YtcdbndjicjghgaaPx3
import Derived.Test.YtcdbndjicjghgaaPureArb
set_option linter.unusedVariables false
namespace Go.Proofs.Ytcdbndjicjghgaa.PB
open Go.RowKit Go.Proofs.Ytcdbndjicjghgaa.Px Go.Proofs.YtcdbndjicjghgaaW.PrintWords Go.Proofs.YtcdbndjicjghgaaW.PrintLast Go.Proofs.YtcdbndjicjghgaaW.PrintMore
theorem head06_k : ∃ K, ∀ k, K ≤ k → phaetonlaw06_head.f k = some true := by
  refine ⟨40, fun k hk => at_rounds (g := fun k => phaetonlaw06_head.f k) phaetonlaw06_head.mono hk ?_⟩
  decide +kernel
end Go.Proofs.Ytcdbndjicjghgaa.PB

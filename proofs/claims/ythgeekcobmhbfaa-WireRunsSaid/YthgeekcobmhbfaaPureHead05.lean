/- The live question of layer 5's laws is answered: true. -/
import Derived.Test.YthgeekcobmhbfaaPx9
import Derived.Test.YthgeekcobmhbfaaPureBase
set_option linter.unusedVariables false
namespace Go.Proofs.Ythgeekcobmhbfaa.PB
open Go.RowKit Go.Proofs.Ythgeekcobmhbfaa.Px Go.Proofs.YthgeekcobmhbfaaW.PrintWords Go.Proofs.YthgeekcobmhbfaaW.PrintLast Go.Proofs.YthgeekcobmhbfaaW.PrintMore
theorem head05_k : ∃ K, ∀ k, K ≤ k → phaetonlaw05_head.f k = some true := by
  refine ⟨300, fun k hk => at_rounds (g := fun k => phaetonlaw05_head.f k) phaetonlaw05_head.mono hk ?_⟩
  decide +kernel
end Go.Proofs.Ythgeekcobmhbfaa.PB

/- The live question of layer 1's laws is answered: true. -/
import Derived.Test.YtcakokhhpihmlaaPx3
import Derived.Test.YtcakokhhpihmlaaPureBits
set_option linter.unusedVariables false
namespace Go.Proofs.Ytcakokhhpihmlaa.PB
open Go.RowKit Go.Proofs.Ytcakokhhpihmlaa.Px Go.Proofs.YtcakokhhpihmlaaW.PrintWords Go.Proofs.YtcakokhhpihmlaaW.PrintLast Go.Proofs.YtcakokhhpihmlaaW.PrintMore
theorem head01_k : ∃ K, ∀ k, K ≤ k → phaetonlaw01_head.f k = some true := by
  refine ⟨40, fun k hk => at_rounds (g := fun k => phaetonlaw01_head.f k) phaetonlaw01_head.mono hk ?_⟩
  decide +kernel
end Go.Proofs.Ytcakokhhpihmlaa.PB

/- The live question of layer 2's laws is answered: true. -/
import Derived.Test.YtonffeckadmlcaaPx2
import Derived.Test.YtonffeckadmlcaaPureCrc
set_option linter.unusedVariables false
namespace Go.Proofs.Ytonffeckadmlcaa.PB
open Go.RowKit Go.Proofs.Ytonffeckadmlcaa.Px Go.Proofs.YtonffeckadmlcaaW.PrintWords Go.Proofs.YtonffeckadmlcaaW.PrintLast Go.Proofs.YtonffeckadmlcaaW.PrintMore
theorem head02_k : ∃ K, ∀ k, K ≤ k → phaetonlaw02_head.f k = some true := by
  refine ⟨40, fun k hk => at_rounds (g := fun k => phaetonlaw02_head.f k) phaetonlaw02_head.mono hk ?_⟩
  decide +kernel
end Go.Proofs.Ytonffeckadmlcaa.PB

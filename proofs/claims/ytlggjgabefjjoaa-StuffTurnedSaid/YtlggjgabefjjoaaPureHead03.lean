/- The live question of layer 3's laws is answered: true. -/
import Derived.Test.YtlggjgabefjjoaaPx1
import Derived.Test.YtlggjgabefjjoaaPureRef03
set_option linter.unusedVariables false
namespace Go.Proofs.Ytlggjgabefjjoaa.PB
open Go.RowKit Go.Proofs.Ytlggjgabefjjoaa.Px Go.Proofs.YtlggjgabefjjoaaW.PrintWords Go.Proofs.YtlggjgabefjjoaaW.PrintLast Go.Proofs.YtlggjgabefjjoaaW.PrintMore
theorem head03_k : ∃ K, ∀ k, K ≤ k → phaetonlaw03_head.f k = some true := by
  refine ⟨40, fun k hk => at_rounds (g := fun k => phaetonlaw03_head.f k) phaetonlaw03_head.mono hk ?_⟩
  decide +kernel
end Go.Proofs.Ytlggjgabefjjoaa.PB

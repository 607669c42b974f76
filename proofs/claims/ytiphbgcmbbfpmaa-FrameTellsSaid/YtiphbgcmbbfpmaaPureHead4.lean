/- The live question of layer 4's laws is answered: true. -/
import Derived.Test.YtiphbgcmbbfpmaaPx6
import Derived.Test.YtiphbgcmbbfpmaaPx7
import Derived.Test.YtiphbgcmbbfpmaaPureFrame
set_option linter.unusedVariables false
namespace Go.Proofs.Ytiphbgcmbbfpmaa.PB
open Go.RowKit Go.Proofs.Ytiphbgcmbbfpmaa.Px Go.Proofs.YtiphbgcmbbfpmaaW.PrintWords Go.Proofs.YtiphbgcmbbfpmaaW.PrintLast Go.Proofs.YtiphbgcmbbfpmaaW.PrintMore
theorem head04_k : ∃ K, ∀ k, K ≤ k → phaetonlaw04_head.f k = some true := by
  refine ⟨40, fun k hk => at_rounds (g := fun k => phaetonlaw04_head.f k) phaetonlaw04_head.mono hk ?_⟩
  decide +kernel
theorem great_eq (e : Bool) (id : Int) (rm : Bool) (ln : Int) (d : List Int) : phaetonlaw04_Great.f e id rm ln d = some (decide ((d.length : Int) > 100)) := rfl
theorem r4same_self (e : Bool) (id : Int) (rm : Bool) (ln : Int) (d : List Int) : phaetonref04_Same.f e id rm ln d e id rm ln d = some true := by
  unfold phaetonref04_Same.f
  cases e <;> cases rm <;> simp [sameBytes]
end Go.Proofs.Ytiphbgcmbbfpmaa.PB

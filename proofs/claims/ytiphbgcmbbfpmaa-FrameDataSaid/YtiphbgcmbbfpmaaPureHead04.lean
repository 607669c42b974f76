/- The live question of layer 4's laws is answered: true. -/
import Derived.Test.YtiphbgcmbbfpmaaPx6
import Derived.Test.YtiphbgcmbbfpmaaPx7
import Derived.Test.YtiphbgcmbbfpmaaPureFR4
set_option linter.unusedVariables false
namespace Go.Proofs.Ytiphbgcmbbfpmaa.PB
open Go.RowKit Go.Proofs.Ytiphbgcmbbfpmaa.Px Go.Proofs.YtiphbgcmbbfpmaaW.PrintWords Go.Proofs.YtiphbgcmbbfpmaaW.PrintLast Go.Proofs.YtiphbgcmbbfpmaaW.PrintMore
theorem head04_k : ∃ K, ∀ k, K ≤ k → phaetonlaw04_head.f k = some true := by
  refine ⟨40, fun k hk => at_rounds (g := fun k => phaetonlaw04_head.f k) phaetonlaw04_head.mono hk ?_⟩
  decide +kernel
theorem great_eq (e : Bool) (id : Int) (rm : Bool) (ln : Int) (d : List Int) : phaetonlaw04_Great.f e id rm ln d = some (decide ((d.length : Int) > 100)) := rfl
theorem zero_same {e : Bool} {id : Int} {rm : Bool} {ln : Int} {d : List Int} (h1 : e = false) (h2 : id = 0) (h3 : rm = false) (h4 : ln = 0) (h5 : d = []) : phaetonref04_Same.f e id rm ln d false 0 false 0 [] = some true := by
  subst h1 h2 h3 h4 h5
  rw [r4same_eq _ _ _ _ _ _ _ _ _ _ (fun x hx => by cases hx) (fun x hx => by cases hx), decide_eq_true ⟨rfl, rfl, rfl, rfl, rfl⟩]
end Go.Proofs.Ytiphbgcmbbfpmaa.PB

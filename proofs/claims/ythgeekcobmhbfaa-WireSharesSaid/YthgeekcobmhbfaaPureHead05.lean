/- The live question of layer 5's laws is answered: true (its walk is given by hand, with its answer). -/
import Derived.Test.YthgeekcobmhbfaaPx9
import Derived.Test.YthgeekcobmhbfaaPureBase
namespace Go.Proofs.Ythgeekcobmhbfaa.PB
open Go.Proofs.Ythgeekcobmhbfaa.Px
theorem head05_k : ∃ K, ∀ k, K ≤ k → phaetonlaw05_head.f k = some true := ⟨0, fun _ _ => rfl⟩
end Go.Proofs.Ythgeekcobmhbfaa.PB

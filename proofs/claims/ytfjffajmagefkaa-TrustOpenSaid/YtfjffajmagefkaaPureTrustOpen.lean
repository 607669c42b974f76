/- Bytes that are opened are those that the bytes that they hold, with that count, are wrapped to. -/
import Derived.Test.YtfjffajmagefkaaPx8
import Derived.Test.YtfjffajmagefkaaPureTrust
set_option linter.unusedVariables false
namespace Go.Proofs.Ytfjffajmagefkaa.Pure
open Go.RowKit Go.Proofs.Ytfjffajmagefkaa.PB Go.Proofs.Ytfjffajmagefkaa.Px Go.Proofs.YtfjffajmagefkaaW.PrintWords Go.Proofs.YtfjffajmagefkaaW.PrintLast Go.Proofs.YtfjffajmagefkaaW.PrintMore
theorem TrustOpen : phaetonlaw16_TrustOpen.Pure := by
  intro a l ha _ hl hw
  have hw' : ∀ x ∈ l, H.U8 x := fun x hx => H.of_wf8 (hw x hx)
  obtain ⟨K0, hh⟩ := head16_k
  refine ⟨K0, ?_⟩
  unfold phaetonlaw16_TrustOpen.f
  rw [hh _ (by omega), Option.bind_some]
  by_cases c0 : (l.length : Int) > 100
  · rw [if_pos c0, if_pos rfl]
  rw [if_neg c0, open_eq a l hw', Option.bind_some]
  have no : openT a l = ([], 0, false) → (if (openT a l).2.2 = true then (trust_Wrap.f a (openT a l).2.1 (openT a l).1).bind fun bt => (if true = true then (if bt.2 = true then ((phaetonref01_SameBytes.f bt.1 l).bind fun t => (if t = true then (some true) else (none))) else (none)) else (none)) else if true = true then (if ((openT a l).1.length : Int) = 0 then (if (openT a l).2.1 = 0 then (some true) else (none)) else (none)) else (none)) = some true := fun h => by rw [h]; rfl
  match l, hw', no with
  | [], _, no => exact no rfl
  | [_], _, no => exact no rfl
  | x :: y :: r, hw', no =>
    by_cases c : a / 65536 = 0 ∧ r.length ≤ 6 ∧ y < 15 ∧ tsum a y r = x
    · have hy := hw' y (by simp)
      unfold H.U8 at hy
      obtain ⟨c1, c2, c3, rfl⟩ := c
      obtain ⟨h1, h2⟩ := open_wrap a y r c1 hy.1 c3 c2
      rw [h2, if_pos rfl, wrap_eq, Option.bind_some, h1, if_pos rfl, if_pos rfl, sameBytes, Option.bind_some, if_pos rfl]
    · exact no (by rw [openT_cons, if_neg c])
end Go.Proofs.Ytfjffajmagefkaa.Pure

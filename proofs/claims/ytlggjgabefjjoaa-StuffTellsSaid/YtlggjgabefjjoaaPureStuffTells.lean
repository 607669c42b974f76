/- What any bits are stuffed, what any are stripped to, where one is wrong, and how long the longest run is, is as the document says: at most 300 bits. -/
import Derived.Test.YtlggjgabefjjoaaPx3
import Derived.Test.YtlggjgabefjjoaaPureHead03
set_option linter.unusedVariables false
namespace Go.Proofs.Ytlggjgabefjjoaa.Pure
open Go.RowKit Go.Proofs.Ytlggjgabefjjoaa.PB Go.Proofs.Ytlggjgabefjjoaa.Px Go.Proofs.YtlggjgabefjjoaaW.PrintWords Go.Proofs.YtlggjgabefjjoaaW.PrintLast Go.Proofs.YtlggjgabefjjoaaW.PrintMore
theorem StuffTells : phaetonlaw03_StuffTells.Pure := by
  intro l0 _ hl hw
  obtain ⟨K0, hh⟩ := head03_k
  obtain ⟨K1, k1⟩ := bits03_k l0
  have hb := bits03_bit l0
  have hlen := bits03_len l0
  generalize bits03 l0 = l at k1 hb hlen
  have hsl := H.stuffS_len l
  have hpl := H.strip_len l
  obtain ⟨K2, k2⟩ := rstrip_k l hb (by omega)
  obtain ⟨K3, k3⟩ := rstuff_k l hb (by omega)
  obtain ⟨K4, k4⟩ := rruns_k l hb (by omega)
  obtain ⟨K5, k5⟩ := ints_k (H.stuffB l) (by show (H.stuffS l).1.length ≤ _; omega)
  obtain ⟨K6, k6⟩ := ints_k (H.stripB l).1 (by omega)
  refine ⟨K0 + K1 + K2 + K3 + K4 + K5 + K6, ?_⟩
  unfold phaetonlaw03_StuffTells.f
  rw [hh _ (by omega), Option.bind_some, k1 _ (by omega), Option.bind_some, stuffStrip_eq l (by omega), Option.bind_some, k2 _ (by omega), Option.bind_some, stuffStuff_eq l (by omega), Option.bind_some, k3 _ (by omega), Option.bind_some, k5 _ (by omega), Option.bind_some, if_pos rfl, k6 _ (by omega), Option.bind_some, if_pos rfl, if_pos rfl, stuffRuns_eq, Option.bind_some, k4 _ (by omega), Option.bind_some, if_pos rfl, if_pos rfl]
end Go.Proofs.Ytlggjgabefjjoaa.Pure

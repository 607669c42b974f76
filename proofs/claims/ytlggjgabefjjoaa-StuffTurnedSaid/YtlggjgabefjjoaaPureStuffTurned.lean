/- Stuffed opposites are the opposites of what is stuffed; so it is with what is stripped, with its fault, and with runs. -/
import Derived.Test.YtlggjgabefjjoaaPx5
import Derived.Test.YtlggjgabefjjoaaPureHead03
import Derived.Test.YtlggjgabefjjoaaPureRef03T
set_option linter.unusedVariables false
namespace Go.Proofs.Ytlggjgabefjjoaa.Pure
open Go.RowKit Go.Proofs.Ytlggjgabefjjoaa.PB Go.Proofs.Ytlggjgabefjjoaa.Px Go.Proofs.YtlggjgabefjjoaaW.PrintWords Go.Proofs.YtlggjgabefjjoaaW.PrintLast Go.Proofs.YtlggjgabefjjoaaW.PrintMore
theorem StuffTurned : phaetonlaw03_StuffTurned.Pure := by
  intro l0 _ hl hw
  obtain ⟨K0, hh⟩ := head03_k
  obtain ⟨K1, k1⟩ := bits03_k l0
  have hb := bits03_bit l0
  have hlen := bits03_len l0
  generalize bits03 l0 = l at k1 hb hlen
  obtain ⟨t1, t2, t3⟩ := H.turned_all hb
  have hsl : (H.stuffB l).length ≤ 2 * l.length := H.stuffS_len l
  have hpl := H.strip_len l
  have htl : (H.turn l).length = l.length := by unfold H.turn; rw [List.length_map]
  have hts : (H.turn (H.stuffB l)).length = (H.stuffB l).length := by unfold H.turn; rw [List.length_map]
  have htp : (H.turn (H.stripB l).1).length = (H.stripB l).1.length := by unfold H.turn; rw [List.length_map]
  obtain ⟨K2, k2⟩ := rturn_k l (by omega)
  obtain ⟨K3, k3⟩ := rturn_k (H.stuffB l) (by omega)
  obtain ⟨K4, k4⟩ := rturn_k (H.stripB l).1 (by omega)
  obtain ⟨K5, k5⟩ := ints_k (H.turn (H.stuffB l)) (by omega)
  obtain ⟨K6, k6⟩ := ints_k (H.turn (H.stripB l).1) (by omega)
  refine ⟨K0 + K1 + K2 + K3 + K4 + K5 + K6, ?_⟩
  unfold phaetonlaw03_StuffTurned.f
  rw [hh _ (by omega), Option.bind_some, k1 _ (by omega), Option.bind_some, k2 _ (by omega), Option.bind_some, stuffStrip_eq l (by omega), Option.bind_some, stuffStrip_eq _ (by omega), Option.bind_some, stuffStuff_eq _ (by omega), Option.bind_some, stuffStuff_eq l (by omega), Option.bind_some, k3 _ (by omega), Option.bind_some, t1, k5 _ (by omega), Option.bind_some, if_pos rfl, k4 _ (by omega), Option.bind_some, t2, k6 _ (by omega), Option.bind_some, if_pos rfl, if_pos rfl, stuffRuns_eq, Option.bind_some, stuffRuns_eq, Option.bind_some, t3, if_pos rfl, if_pos rfl]
end Go.Proofs.Ytlggjgabefjjoaa.Pure

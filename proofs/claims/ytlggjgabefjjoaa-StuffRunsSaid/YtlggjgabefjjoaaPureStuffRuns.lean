/- No run of what is stuffed has six bits; bits of which none has six, or five at their end, are stripped without a fault. -/
import Derived.Test.YtlggjgabefjjoaaPx4
import Derived.Test.YtlggjgabefjjoaaPureHead03
import Derived.Test.YtlggjgabefjjoaaHandStuffMore
set_option linter.unusedVariables false
namespace Go.Proofs.Ytlggjgabefjjoaa.Pure
open Go.RowKit Go.Proofs.Ytlggjgabefjjoaa.PB Go.Proofs.Ytlggjgabefjjoaa.Px Go.Proofs.YtlggjgabefjjoaaW.PrintWords Go.Proofs.YtlggjgabefjjoaaW.PrintLast Go.Proofs.YtlggjgabefjjoaaW.PrintMore
theorem StuffRuns : phaetonlaw03_StuffRuns.Pure := by
  intro l0 _ hl hw
  obtain ⟨K0, hh⟩ := head03_k
  obtain ⟨K1, k1⟩ := bits03_k l0
  have hb := bits03_bit l0
  have hlen := bits03_len l0
  generalize bits03 l0 = l at k1 hb hlen
  have r1 : H.runsB (H.stuffB l) ≤ 5 := H.runs_stuff_le l hb
  have r2 : ¬ H.runsB (H.stuffB l) < mn 5 (H.runsB l) := by
    have hm1 : mn 5 (H.runsB l) ≤ 5 := by unfold mn; split <;> omega
    have hm2 : mn 5 (H.runsB l) ≤ H.runsB l := by unfold mn; split <;> omega
    rcases H.runs_or l with e | e
    · rw [show H.stuffB l = l from e]; omega
    · have : 5 ≤ H.runsB (H.stuffB l) := e
      omega
  obtain ⟨s1, s2⟩ := H.strip_runs hb (by omega)
  refine ⟨K0 + K1 + 1, ?_⟩
  unfold phaetonlaw03_StuffRuns.f
  rw [hh _ (by omega), Option.bind_some, k1 _ (by omega), Option.bind_some, stuffStuff_eq l (by omega), Option.bind_some, stuffRuns_eq, Option.bind_some, if_neg (by omega), Option.bind_some, stuffRuns_eq, Option.bind_some, decide_eq_false r2, phaetonlaw03_StuffRuns.j0.eq_2, if_neg (by decide), stuffStrip_eq l (by omega), Option.bind_some, stuffRuns_eq, Option.bind_some]
  by_cases c : H.runsB l > 5
  · obtain ⟨a1, a2⟩ := s1 c
    rw [if_pos c, if_pos a1, if_pos a2, if_pos rfl]
  · rw [if_neg c]
    by_cases c2 : (H.stripB l).2 = -1
    · rw [if_pos c2, if_pos rfl]
    · rw [if_neg c2, if_pos ((s2 c).resolve_left c2), if_pos rfl]
end Go.Proofs.Ytlggjgabefjjoaa.Pure

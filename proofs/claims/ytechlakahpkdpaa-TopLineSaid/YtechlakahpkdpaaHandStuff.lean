/- Plain words of this session's own for bits that are stuffed, stripped, counted by runs. No program in sight. -/
import Derived.Test.YtechlakahpkdpaaHandBits
set_option linter.unusedVariables false
set_option linter.unusedSimpArgs false
namespace Go.Proofs.Ytechlakahpkdpaa.H
open Go.RowKit
def runS (s : Int × Int) (b : Int) : Int × Int := (b, if b = s.1 then wrap64 (s.2 + 1) else 1)
def stuffStep (t : List Int × (Int × Int)) (b : Int) : List Int × (Int × Int) := if (runS t.2 b).2 = 5 then (t.1 ++ [b] ++ [wrap64 (1 - b)], runS (runS t.2 b) (wrap64 (1 - b))) else (t.1 ++ [b], runS t.2 b)
def stuffS (l : List Int) : List Int × (Int × Int) := l.foldl stuffStep ([], (-1, 0))
def stuffB (l : List Int) : List Int := (stuffS l).1
theorem stuffS_snoc (l : List Int) (b : Int) : stuffS (l ++ [b]) = stuffStep (stuffS l) b := by simp [stuffS, List.foldl_append]
theorem stuffS_len (l : List Int) : (stuffS l).1.length ≤ 2 * l.length := by
  refine snocInd (P := fun l => (stuffS l).1.length ≤ 2 * l.length) (by simp [stuffS]) (fun l b ih => ?_) l
  rw [stuffS_snoc]
  unfold stuffStep
  split <;> simp only [List.length_append, List.length_singleton] <;> omega
end Go.Proofs.Ytechlakahpkdpaa.H

/- Plain words of this session's own for bits that are stuffed, stripped, counted by runs. No program in sight. -/
import Derived.Test.YtfbmgflkfpppmaaHandBits
set_option linter.unusedVariables false
set_option linter.unusedSimpArgs false
namespace Go.Proofs.Ytfbmgflkfpppmaa.H
open Go.RowKit
/-- What a bit does to the last bit, and to the number of alike ones. -/
def runS (s : Int × Int) (b : Int) : Int × Int := (b, if b = s.1 then wrap64 (s.2 + 1) else 1)
def stuffStep (t : List Int × (Int × Int)) (b : Int) : List Int × (Int × Int) := if (runS t.2 b).2 = 5 then (t.1 ++ [b] ++ [wrap64 (1 - b)], runS (runS t.2 b) (wrap64 (1 - b))) else (t.1 ++ [b], runS t.2 b)
def stuffS (l : List Int) : List Int × (Int × Int) := l.foldl stuffStep ([], (-1, 0))
def stuffB (l : List Int) : List Int := (stuffS l).1
theorem stuffS_snoc (l : List Int) (b : Int) : stuffS (l ++ [b]) = stuffStep (stuffS l) b := by simp [stuffS, List.foldl_append]
theorem stuffS_len (l : List Int) : (stuffS l).1.length ≤ 2 * l.length := by
  refine snocInd (P := fun l => (stuffS l).1.length ≤ 2 * l.length) (by simp [stuffS]) (fun l b ih => ?_) l
  rw [stuffS_snoc]
  unfold stuffStep
  split <;> simp only [List.length_append, List.length_singleton] <;> omega
/-- What is stripped; where one is wrong, its place. -/
def stripGo : List Int → Nat → List Int → Int × Int → List Int × Int
  | [], i, out, s => (out, if s.2 = 5 then (i : Int) else -1)
  | b :: l, i, out, s => if s.2 = 5 then (if (runS s b).2 > 5 then (out, (i : Int)) else stripGo l (i + 1) out (runS s b)) else stripGo l (i + 1) (out ++ [b]) (runS s b)
def stripB (l : List Int) : List Int × Int := stripGo l 0 [] (-1, 0)
/-- The numbers that are told, bit by bit, and the longest run. -/
def tellStep (t : List Int × (Int × Int)) (b : Int) : List Int × (Int × Int) := (t.1 ++ [(runS t.2 b).2], runS t.2 b)
def tellT (l : List Int) : List Int × (Int × Int) := l.foldl tellStep ([], (-1, 0))
theorem tellT_snoc (l : List Int) (b : Int) : tellT (l ++ [b]) = tellStep (tellT l) b := by simp [tellT, List.foldl_append]
def tellB (l : List Int) : List Int := (tellT l).1
def maxStep (m x : Int) : Int := if m < x then x else m
def maxB (l : List Int) : Int := l.foldl maxStep 0
theorem maxB_snoc (l : List Int) (x : Int) : maxB (l ++ [x]) = maxStep (maxB l) x := by simp [maxB, List.foldl_append]
def runsB (l : List Int) : Int := maxB (tellB l)
end Go.Proofs.Ytfbmgflkfpppmaa.H

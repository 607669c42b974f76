/-
  No cell of these rows narrows 'for every input' (looked for: loops, veiled, ifaces, maps, wideKeys, modest, calm, conditions, laid).
  DERIVED. THE GIVEN ROWS OF THIS SEAT. 8 by the template 'for every input the law returns true; each argument reads behind the call as it read before'; 0 by the template 'total and deterministic' (their statements: YtlggjgabefjjoaaTotals.lean).
  GIVEN WITH THE SEED: the statements are not yours to turn. If you find one false, say at which input.
  Laid BY PROGRAM, IN A SANDBOX (cutbox-rows.mjs): the forced cells as the released guide's own fill.sh prints them over the translation e472efa1703264c9… (all of the seat's roots in one cut). By AI agents, Wed Nov 11 2026. No macro, syntax, notation, axiom, sorry.
-/
import Derived.Test.YtlggjgabefjjoaaChecked
import GoSem.Claim
import GoSem.ClaimJoined
import GoSem.ClaimMapViews
import Derived.JoinedTies
import Derived.KernelRfl
namespace Go.Proofs.Ytlggjgabefjjoaa
/- THE CELL 'sum', in the pinned program and in every row, IS THE sha256 OF THE DUMP (.gsa) THAT YtlggjgabefjjoaaProg.lean LOADS. Nothing in Lean hashes anything: it is a label: what it is worth is what the hold of that sum in a sandbox is worth. -/
noncomputable def Try.pinned : Pinned := { name := "ytlggjgabefjjoaa", sum := "e472efa1703264c980eb4fe221ae94ee1d6b810ff59789d7b71eec062d18ea00", checked := Try.checked }
namespace Rows
def none {H : Type} : Left H := { results := [], args := [] }

/-- 'phaetonlaw03.StuffTells': WHATEVER THE INPUT: true; the input reads as it did. -/
def stuffTellsSpec : ChangeSpec := { name := "stuffTells", fn := fun _ => fun
  | [d] => { results := [.lit (.bool true)], args := [d] }
  | _ => none }
def stuffTellsRow : OpenClaim := { program := "ytlggjgabefjjoaa", sum := "e472efa1703264c980eb4fe221ae94ee1d6b810ff59789d7b71eec062d18ea00", func := "phaeton/phaetonlaw03.StuffTells", spec := "stuffTells", unfollowed := true, recurses := true, apart := false }
def StuffTellsSaid : Prop := stuffTellsRow.holds Try.pinned (OpenSpec.ofChange stuffTellsSpec)

/-- ITS FALSE NEIGHBOUR: 'it returns false'. Refute it at one input. -/
def stuffTellsWrong : ChangeSpec := { name := "stuffTells", fn := fun _ => fun
  | [d] => { results := [.lit (.bool false)], args := [d] }
  | _ => none }
def StuffTellsWrongFalsely : Prop := stuffTellsRow.holds Try.pinned (OpenSpec.ofChange stuffTellsWrong)

/-- 'phaetonlaw03.StuffBack': WHATEVER THE INPUT: true; the input reads as it did. -/
def stuffBackSpec : ChangeSpec := { name := "stuffBack", fn := fun _ => fun
  | [d] => { results := [.lit (.bool true)], args := [d] }
  | _ => none }
def stuffBackRow : OpenClaim := { program := "ytlggjgabefjjoaa", sum := "e472efa1703264c980eb4fe221ae94ee1d6b810ff59789d7b71eec062d18ea00", func := "phaeton/phaetonlaw03.StuffBack", spec := "stuffBack", unfollowed := true, recurses := true, apart := false }
def StuffBackSaid : Prop := stuffBackRow.holds Try.pinned (OpenSpec.ofChange stuffBackSpec)

/-- ITS FALSE NEIGHBOUR: 'it returns false'. Refute it at one input. -/
def stuffBackWrong : ChangeSpec := { name := "stuffBack", fn := fun _ => fun
  | [d] => { results := [.lit (.bool false)], args := [d] }
  | _ => none }
def StuffBackWrongFalsely : Prop := stuffBackRow.holds Try.pinned (OpenSpec.ofChange stuffBackWrong)

/-- 'phaetonlaw03.StuffOnce': WHATEVER THE INPUT: true; the input reads as it did. -/
def stuffOnceSpec : ChangeSpec := { name := "stuffOnce", fn := fun _ => fun
  | [d] => { results := [.lit (.bool true)], args := [d] }
  | _ => none }
def stuffOnceRow : OpenClaim := { program := "ytlggjgabefjjoaa", sum := "e472efa1703264c980eb4fe221ae94ee1d6b810ff59789d7b71eec062d18ea00", func := "phaeton/phaetonlaw03.StuffOnce", spec := "stuffOnce", unfollowed := true, recurses := true, apart := false }
def StuffOnceSaid : Prop := stuffOnceRow.holds Try.pinned (OpenSpec.ofChange stuffOnceSpec)

/-- ITS FALSE NEIGHBOUR: 'it returns false'. Refute it at one input. -/
def stuffOnceWrong : ChangeSpec := { name := "stuffOnce", fn := fun _ => fun
  | [d] => { results := [.lit (.bool false)], args := [d] }
  | _ => none }
def StuffOnceWrongFalsely : Prop := stuffOnceRow.holds Try.pinned (OpenSpec.ofChange stuffOnceWrong)

/-- 'phaetonlaw03.StuffRuns': WHATEVER THE INPUT: true; the input reads as it did. -/
def stuffRunsSpec : ChangeSpec := { name := "stuffRuns", fn := fun _ => fun
  | [d] => { results := [.lit (.bool true)], args := [d] }
  | _ => none }
def stuffRunsRow : OpenClaim := { program := "ytlggjgabefjjoaa", sum := "e472efa1703264c980eb4fe221ae94ee1d6b810ff59789d7b71eec062d18ea00", func := "phaeton/phaetonlaw03.StuffRuns", spec := "stuffRuns", unfollowed := true, recurses := true, apart := false }
def StuffRunsSaid : Prop := stuffRunsRow.holds Try.pinned (OpenSpec.ofChange stuffRunsSpec)

/-- ITS FALSE NEIGHBOUR: 'it returns false'. Refute it at one input. -/
def stuffRunsWrong : ChangeSpec := { name := "stuffRuns", fn := fun _ => fun
  | [d] => { results := [.lit (.bool false)], args := [d] }
  | _ => none }
def StuffRunsWrongFalsely : Prop := stuffRunsRow.holds Try.pinned (OpenSpec.ofChange stuffRunsWrong)

/-- 'phaetonlaw03.StuffMost': WHATEVER THE INPUT: true; the input reads as it did. -/
def stuffMostSpec : ChangeSpec := { name := "stuffMost", fn := fun _ => fun
  | [d1, d2] => { results := [.lit (.bool true)], args := [d1, d2] }
  | _ => none }
def stuffMostRow : OpenClaim := { program := "ytlggjgabefjjoaa", sum := "e472efa1703264c980eb4fe221ae94ee1d6b810ff59789d7b71eec062d18ea00", func := "phaeton/phaetonlaw03.StuffMost", spec := "stuffMost", unfollowed := true, recurses := true, apart := false }
def StuffMostSaid : Prop := stuffMostRow.holds Try.pinned (OpenSpec.ofChange stuffMostSpec)

/-- ITS FALSE NEIGHBOUR: 'it returns false'. Refute it at one input. -/
def stuffMostWrong : ChangeSpec := { name := "stuffMost", fn := fun _ => fun
  | [d1, d2] => { results := [.lit (.bool false)], args := [d1, d2] }
  | _ => none }
def StuffMostWrongFalsely : Prop := stuffMostRow.holds Try.pinned (OpenSpec.ofChange stuffMostWrong)

/-- 'phaetonlaw03.StuffPlace': WHATEVER THE INPUT: true; the input reads as it did. -/
def stuffPlaceSpec : ChangeSpec := { name := "stuffPlace", fn := fun _ => fun
  | [d] => { results := [.lit (.bool true)], args := [d] }
  | _ => none }
def stuffPlaceRow : OpenClaim := { program := "ytlggjgabefjjoaa", sum := "e472efa1703264c980eb4fe221ae94ee1d6b810ff59789d7b71eec062d18ea00", func := "phaeton/phaetonlaw03.StuffPlace", spec := "stuffPlace", unfollowed := true, recurses := true, apart := false }
def StuffPlaceSaid : Prop := stuffPlaceRow.holds Try.pinned (OpenSpec.ofChange stuffPlaceSpec)

/-- ITS FALSE NEIGHBOUR: 'it returns false'. Refute it at one input. -/
def stuffPlaceWrong : ChangeSpec := { name := "stuffPlace", fn := fun _ => fun
  | [d] => { results := [.lit (.bool false)], args := [d] }
  | _ => none }
def StuffPlaceWrongFalsely : Prop := stuffPlaceRow.holds Try.pinned (OpenSpec.ofChange stuffPlaceWrong)

/-- 'phaetonlaw03.StuffParts': WHATEVER THE INPUT: true; the input reads as it did. -/
def stuffPartsSpec : ChangeSpec := { name := "stuffParts", fn := fun _ => fun
  | [d1, d2] => { results := [.lit (.bool true)], args := [d1, d2] }
  | _ => none }
def stuffPartsRow : OpenClaim := { program := "ytlggjgabefjjoaa", sum := "e472efa1703264c980eb4fe221ae94ee1d6b810ff59789d7b71eec062d18ea00", func := "phaeton/phaetonlaw03.StuffParts", spec := "stuffParts", unfollowed := true, recurses := true, apart := false }
def StuffPartsSaid : Prop := stuffPartsRow.holds Try.pinned (OpenSpec.ofChange stuffPartsSpec)

/-- ITS FALSE NEIGHBOUR: 'it returns false'. Refute it at one input. -/
def stuffPartsWrong : ChangeSpec := { name := "stuffParts", fn := fun _ => fun
  | [d1, d2] => { results := [.lit (.bool false)], args := [d1, d2] }
  | _ => none }
def StuffPartsWrongFalsely : Prop := stuffPartsRow.holds Try.pinned (OpenSpec.ofChange stuffPartsWrong)

/-- 'phaetonlaw03.StuffTurned': WHATEVER THE INPUT: true; the input reads as it did. -/
def stuffTurnedSpec : ChangeSpec := { name := "stuffTurned", fn := fun _ => fun
  | [d] => { results := [.lit (.bool true)], args := [d] }
  | _ => none }
def stuffTurnedRow : OpenClaim := { program := "ytlggjgabefjjoaa", sum := "e472efa1703264c980eb4fe221ae94ee1d6b810ff59789d7b71eec062d18ea00", func := "phaeton/phaetonlaw03.StuffTurned", spec := "stuffTurned", unfollowed := true, recurses := true, apart := false }
def StuffTurnedSaid : Prop := stuffTurnedRow.holds Try.pinned (OpenSpec.ofChange stuffTurnedSpec)

/-- ITS FALSE NEIGHBOUR: 'it returns false'. Refute it at one input. -/
def stuffTurnedWrong : ChangeSpec := { name := "stuffTurned", fn := fun _ => fun
  | [d] => { results := [.lit (.bool false)], args := [d] }
  | _ => none }
def StuffTurnedWrongFalsely : Prop := stuffTurnedRow.holds Try.pinned (OpenSpec.ofChange stuffTurnedWrong)

/- THE SECOND FORM. 'bulk': how many values and letters a reading holds, each counted each time it is reached (what is shared counts as often as it is met; a slice's spare places count too). A statement '..UptoSaid' is the law's where the arguments, and the package variables that the reading takes, are together of bulk at most 1048576: NARROWER than '..Said'. Prove '..Said' where nothing that the law and all that it calls make is longer than what came in: it says more and counts as full. Else prove '..UptoSaid'. A law counts once. -/
mutual
def uptoBulk {H : Type} : DataW H → Nat
  | .lit (.string bytes) => bytes.length + 1
  | .lit _ => 1
  | .nil => 1
  | .ptr d => uptoBulk d + 1
  | .slice elems spare => uptoBulkAll elems + uptoBulkAll spare + 1
  | .agg parts => uptoBulkAll parts + 1
  | .iface _ d => uptoBulk d + 1
  | .map entries => uptoBulkEntries entries + 1
  | .held _ => 1
def uptoBulkAll {H : Type} : List (DataW H) → Nat
  | [] => 0
  | d :: r => uptoBulk d + uptoBulkAll r
def uptoBulkEntries {H : Type} : List (Lit × DataW H) → Nat
  | [] => 0
  | x :: r => uptoBulkEntry x + uptoBulkEntries r
def uptoBulkEntry {H : Type} : Lit × DataW H → Nat
  | (.string bytes, d) => bytes.length + uptoBulk d + 1
  | (_, d) => uptoBulk d + 1
 end
def uptoSmall : (H : Type) → List (DataW H) → Bool := fun _ ds => decide (uptoBulkAll ds ≤ 1048576)
def OpenSpec.upto (s : _root_.Go.ChangeSpec) : _root_.Go.OpenSpec := { _root_.Go.OpenSpec.ofChange s with cond := some uptoSmall }

/-- 'phaetonlaw03.StuffTells', WHERE WHAT IT READS IS OF BULK AT MOST 1048576: true; the input reads as it did. -/
def stuffTellsUptoRow : OpenClaim := { program := "ytlggjgabefjjoaa", sum := "e472efa1703264c980eb4fe221ae94ee1d6b810ff59789d7b71eec062d18ea00", func := "phaeton/phaetonlaw03.StuffTells", spec := "stuffTells", unfollowed := true, recurses := true, apart := false, narrowed := true }
def StuffTellsUptoSaid : Prop := stuffTellsUptoRow.holds Try.pinned (OpenSpec.upto stuffTellsSpec)

/-- 'phaetonlaw03.StuffBack', WHERE WHAT IT READS IS OF BULK AT MOST 1048576: true; the input reads as it did. -/
def stuffBackUptoRow : OpenClaim := { program := "ytlggjgabefjjoaa", sum := "e472efa1703264c980eb4fe221ae94ee1d6b810ff59789d7b71eec062d18ea00", func := "phaeton/phaetonlaw03.StuffBack", spec := "stuffBack", unfollowed := true, recurses := true, apart := false, narrowed := true }
def StuffBackUptoSaid : Prop := stuffBackUptoRow.holds Try.pinned (OpenSpec.upto stuffBackSpec)

/-- 'phaetonlaw03.StuffOnce', WHERE WHAT IT READS IS OF BULK AT MOST 1048576: true; the input reads as it did. -/
def stuffOnceUptoRow : OpenClaim := { program := "ytlggjgabefjjoaa", sum := "e472efa1703264c980eb4fe221ae94ee1d6b810ff59789d7b71eec062d18ea00", func := "phaeton/phaetonlaw03.StuffOnce", spec := "stuffOnce", unfollowed := true, recurses := true, apart := false, narrowed := true }
def StuffOnceUptoSaid : Prop := stuffOnceUptoRow.holds Try.pinned (OpenSpec.upto stuffOnceSpec)

/-- 'phaetonlaw03.StuffRuns', WHERE WHAT IT READS IS OF BULK AT MOST 1048576: true; the input reads as it did. -/
def stuffRunsUptoRow : OpenClaim := { program := "ytlggjgabefjjoaa", sum := "e472efa1703264c980eb4fe221ae94ee1d6b810ff59789d7b71eec062d18ea00", func := "phaeton/phaetonlaw03.StuffRuns", spec := "stuffRuns", unfollowed := true, recurses := true, apart := false, narrowed := true }
def StuffRunsUptoSaid : Prop := stuffRunsUptoRow.holds Try.pinned (OpenSpec.upto stuffRunsSpec)

/-- 'phaetonlaw03.StuffMost', WHERE WHAT IT READS IS OF BULK AT MOST 1048576: true; the input reads as it did. -/
def stuffMostUptoRow : OpenClaim := { program := "ytlggjgabefjjoaa", sum := "e472efa1703264c980eb4fe221ae94ee1d6b810ff59789d7b71eec062d18ea00", func := "phaeton/phaetonlaw03.StuffMost", spec := "stuffMost", unfollowed := true, recurses := true, apart := false, narrowed := true }
def StuffMostUptoSaid : Prop := stuffMostUptoRow.holds Try.pinned (OpenSpec.upto stuffMostSpec)

/-- 'phaetonlaw03.StuffPlace', WHERE WHAT IT READS IS OF BULK AT MOST 1048576: true; the input reads as it did. -/
def stuffPlaceUptoRow : OpenClaim := { program := "ytlggjgabefjjoaa", sum := "e472efa1703264c980eb4fe221ae94ee1d6b810ff59789d7b71eec062d18ea00", func := "phaeton/phaetonlaw03.StuffPlace", spec := "stuffPlace", unfollowed := true, recurses := true, apart := false, narrowed := true }
def StuffPlaceUptoSaid : Prop := stuffPlaceUptoRow.holds Try.pinned (OpenSpec.upto stuffPlaceSpec)

/-- 'phaetonlaw03.StuffParts', WHERE WHAT IT READS IS OF BULK AT MOST 1048576: true; the input reads as it did. -/
def stuffPartsUptoRow : OpenClaim := { program := "ytlggjgabefjjoaa", sum := "e472efa1703264c980eb4fe221ae94ee1d6b810ff59789d7b71eec062d18ea00", func := "phaeton/phaetonlaw03.StuffParts", spec := "stuffParts", unfollowed := true, recurses := true, apart := false, narrowed := true }
def StuffPartsUptoSaid : Prop := stuffPartsUptoRow.holds Try.pinned (OpenSpec.upto stuffPartsSpec)

/-- 'phaetonlaw03.StuffTurned', WHERE WHAT IT READS IS OF BULK AT MOST 1048576: true; the input reads as it did. -/
def stuffTurnedUptoRow : OpenClaim := { program := "ytlggjgabefjjoaa", sum := "e472efa1703264c980eb4fe221ae94ee1d6b810ff59789d7b71eec062d18ea00", func := "phaeton/phaetonlaw03.StuffTurned", spec := "stuffTurned", unfollowed := true, recurses := true, apart := false, narrowed := true }
def StuffTurnedUptoSaid : Prop := stuffTurnedUptoRow.holds Try.pinned (OpenSpec.upto stuffTurnedSpec)

end Rows
end Go.Proofs.Ytlggjgabefjjoaa

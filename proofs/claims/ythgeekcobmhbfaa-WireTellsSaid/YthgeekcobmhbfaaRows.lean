/-
  No cell of these rows narrows 'for every input' (looked for: loops, veiled, ifaces, maps, wideKeys, modest, calm, conditions, laid).
  DERIVED. THE GIVEN ROWS OF THIS SEAT. 7 by the template 'for every input the law returns true; each argument reads behind the call as it read before'; 0 by the template 'total and deterministic' (their statements: YthgeekcobmhbfaaTotals.lean).
  GIVEN WITH THE SEED: the statements are not yours to turn. If you find one false, say at which input.
  Laid BY PROGRAM, IN A SANDBOX (cutbox-rows.mjs): the forced cells as the released guide's own fill.sh prints them over the translation 6319834ac66388c8… (all of the seat's roots in one cut). By AI agents, Wed Nov 11 2026. No macro, syntax, notation, axiom, sorry.
-/
import Derived.Test.YthgeekcobmhbfaaChecked
import GoSem.Claim
import GoSem.ClaimJoined
import GoSem.ClaimMapViews
import Derived.JoinedTies
import Derived.KernelRfl
namespace Go.Proofs.Ythgeekcobmhbfaa
/- THE CELL 'sum', in the pinned program and in every row, IS THE sha256 OF THE DUMP (.gsa) THAT YthgeekcobmhbfaaProg.lean LOADS. Nothing in Lean hashes anything: it is a label: what it is worth is what the hold of that sum in a sandbox is worth. -/
noncomputable def Try.pinned : Pinned := { name := "ythgeekcobmhbfaa", sum := "6319834ac66388c85cc76d4574b683f6c000f56eaee48c00a40d34b16ff894c6", checked := Try.checked }
namespace Rows
def none {H : Type} : Left H := { results := [], args := [] }

/-- 'phaetonlaw05.WireTells': WHATEVER THE INPUT: true; the input reads as it did. -/
def wireTellsSpec : ChangeSpec := { name := "wireTells", fn := fun _ => fun
  | [d1, d2, d3, d4] => { results := [.lit (.bool true)], args := [d1, d2, d3, d4] }
  | _ => none }
def wireTellsRow : OpenClaim := { program := "ythgeekcobmhbfaa", sum := "6319834ac66388c85cc76d4574b683f6c000f56eaee48c00a40d34b16ff894c6", func := "phaeton/phaetonlaw05.WireTells", spec := "wireTells", unfollowed := true, recurses := true, apart := false }
def WireTellsSaid : Prop := wireTellsRow.holds Try.pinned (OpenSpec.ofChange wireTellsSpec)

/-- ITS FALSE NEIGHBOUR: 'it returns false'. Refute it at one input. -/
def wireTellsWrong : ChangeSpec := { name := "wireTells", fn := fun _ => fun
  | [d1, d2, d3, d4] => { results := [.lit (.bool false)], args := [d1, d2, d3, d4] }
  | _ => none }
def WireTellsWrongFalsely : Prop := wireTellsRow.holds Try.pinned (OpenSpec.ofChange wireTellsWrong)

/-- 'phaetonlaw05.WireBack': WHATEVER THE INPUT: true; the input reads as it did. -/
def wireBackSpec : ChangeSpec := { name := "wireBack", fn := fun _ => fun
  | [d1, d2] => { results := [.lit (.bool true)], args := [d1, d2] }
  | _ => none }
def wireBackRow : OpenClaim := { program := "ythgeekcobmhbfaa", sum := "6319834ac66388c85cc76d4574b683f6c000f56eaee48c00a40d34b16ff894c6", func := "phaeton/phaetonlaw05.WireBack", spec := "wireBack", unfollowed := true, recurses := true, apart := false }
def WireBackSaid : Prop := wireBackRow.holds Try.pinned (OpenSpec.ofChange wireBackSpec)

/-- ITS FALSE NEIGHBOUR: 'it returns false'. Refute it at one input. -/
def wireBackWrong : ChangeSpec := { name := "wireBack", fn := fun _ => fun
  | [d1, d2] => { results := [.lit (.bool false)], args := [d1, d2] }
  | _ => none }
def WireBackWrongFalsely : Prop := wireBackRow.holds Try.pinned (OpenSpec.ofChange wireBackWrong)

/-- 'phaetonlaw05.WireShort': WHATEVER THE INPUT: true; the input reads as it did. -/
def wireShortSpec : ChangeSpec := { name := "wireShort", fn := fun _ => fun
  | [d1, d2, d3] => { results := [.lit (.bool true)], args := [d1, d2, d3] }
  | _ => none }
def wireShortRow : OpenClaim := { program := "ythgeekcobmhbfaa", sum := "6319834ac66388c85cc76d4574b683f6c000f56eaee48c00a40d34b16ff894c6", func := "phaeton/phaetonlaw05.WireShort", spec := "wireShort", unfollowed := true, recurses := true, apart := false }
def WireShortSaid : Prop := wireShortRow.holds Try.pinned (OpenSpec.ofChange wireShortSpec)

/-- ITS FALSE NEIGHBOUR: 'it returns false'. Refute it at one input. -/
def wireShortWrong : ChangeSpec := { name := "wireShort", fn := fun _ => fun
  | [d1, d2, d3] => { results := [.lit (.bool false)], args := [d1, d2, d3] }
  | _ => none }
def WireShortWrongFalsely : Prop := wireShortRow.holds Try.pinned (OpenSpec.ofChange wireShortWrong)

/-- 'phaetonlaw05.WireRuns': WHATEVER THE INPUT: true; the input reads as it did. -/
def wireRunsSpec : ChangeSpec := { name := "wireRuns", fn := fun _ => fun
  | [d] => { results := [.lit (.bool true)], args := [d] }
  | _ => none }
def wireRunsRow : OpenClaim := { program := "ythgeekcobmhbfaa", sum := "6319834ac66388c85cc76d4574b683f6c000f56eaee48c00a40d34b16ff894c6", func := "phaeton/phaetonlaw05.WireRuns", spec := "wireRuns", unfollowed := true, recurses := true, apart := false }
def WireRunsSaid : Prop := wireRunsRow.holds Try.pinned (OpenSpec.ofChange wireRunsSpec)

/-- ITS FALSE NEIGHBOUR: 'it returns false'. Refute it at one input. -/
def wireRunsWrong : ChangeSpec := { name := "wireRuns", fn := fun _ => fun
  | [d] => { results := [.lit (.bool false)], args := [d] }
  | _ => none }
def WireRunsWrongFalsely : Prop := wireRunsRow.holds Try.pinned (OpenSpec.ofChange wireRunsWrong)

/-- 'phaetonlaw05.WireFlip': WHATEVER THE INPUT: true; the input reads as it did. -/
def wireFlipSpec : ChangeSpec := { name := "wireFlip", fn := fun _ => fun
  | [d1, d2] => { results := [.lit (.bool true)], args := [d1, d2] }
  | _ => none }
def wireFlipRow : OpenClaim := { program := "ythgeekcobmhbfaa", sum := "6319834ac66388c85cc76d4574b683f6c000f56eaee48c00a40d34b16ff894c6", func := "phaeton/phaetonlaw05.WireFlip", spec := "wireFlip", unfollowed := true, recurses := true, apart := false }
def WireFlipSaid : Prop := wireFlipRow.holds Try.pinned (OpenSpec.ofChange wireFlipSpec)

/-- ITS FALSE NEIGHBOUR: 'it returns false'. Refute it at one input. -/
def wireFlipWrong : ChangeSpec := { name := "wireFlip", fn := fun _ => fun
  | [d1, d2] => { results := [.lit (.bool false)], args := [d1, d2] }
  | _ => none }
def WireFlipWrongFalsely : Prop := wireFlipRow.holds Try.pinned (OpenSpec.ofChange wireFlipWrong)

/-- 'phaetonlaw05.WireApart': WHATEVER THE INPUT: true; the input reads as it did. -/
def wireApartSpec : ChangeSpec := { name := "wireApart", fn := fun _ => fun
  | [d1, d2] => { results := [.lit (.bool true)], args := [d1, d2] }
  | _ => none }
def wireApartRow : OpenClaim := { program := "ythgeekcobmhbfaa", sum := "6319834ac66388c85cc76d4574b683f6c000f56eaee48c00a40d34b16ff894c6", func := "phaeton/phaetonlaw05.WireApart", spec := "wireApart", unfollowed := true, recurses := true, apart := false }
def WireApartSaid : Prop := wireApartRow.holds Try.pinned (OpenSpec.ofChange wireApartSpec)

/-- ITS FALSE NEIGHBOUR: 'it returns false'. Refute it at one input. -/
def wireApartWrong : ChangeSpec := { name := "wireApart", fn := fun _ => fun
  | [d1, d2] => { results := [.lit (.bool false)], args := [d1, d2] }
  | _ => none }
def WireApartWrongFalsely : Prop := wireApartRow.holds Try.pinned (OpenSpec.ofChange wireApartWrong)

/-- 'phaetonlaw05.WireShares': WHATEVER THE INPUT: true; the input reads as it did. -/
def wireSharesSpec : ChangeSpec := { name := "wireShares", fn := fun _ => fun
  | [d1, d2] => { results := [.lit (.bool true)], args := [d1, d2] }
  | _ => none }
def wireSharesRow : OpenClaim := { program := "ythgeekcobmhbfaa", sum := "6319834ac66388c85cc76d4574b683f6c000f56eaee48c00a40d34b16ff894c6", func := "phaeton/phaetonlaw05.WireShares", spec := "wireShares", unfollowed := true, recurses := true, apart := false }
def WireSharesSaid : Prop := wireSharesRow.holds Try.pinned (OpenSpec.ofChange wireSharesSpec)

/-- ITS FALSE NEIGHBOUR: 'it returns false'. Refute it at one input. -/
def wireSharesWrong : ChangeSpec := { name := "wireShares", fn := fun _ => fun
  | [d1, d2] => { results := [.lit (.bool false)], args := [d1, d2] }
  | _ => none }
def WireSharesWrongFalsely : Prop := wireSharesRow.holds Try.pinned (OpenSpec.ofChange wireSharesWrong)

/- THE SECOND FORM. 'bulk': how many values and letters a reading holds, each counted each time it is reached (what is shared counts as often as it is met; a slice's spare places count too). A statement '..UptoSaid' is the law's where the arguments, and the package variables that the reading takes, are together of bulk at most 1048576: NARROWER than '..Said'. Prove '..Said' where nothing that the law and all that it calls make is longer than what came in: it says more and counts as full. Else prove '..UptoSaid'. A law counts once. -/
mutual
def uptoBulk {H : Type} : DataW H → Nat
  | .lit (.string bytes) => bytes.length + 1
  | .lit _ => 1
  | .nil => 1
  | .ptr d => uptoBulk d + 1
  | .slice elems spare => uptoBulkAll elems + uptoBulkAll spare + 1
  | .agg parts => uptoBulkAll parts + 1
  | .iface _ d => uptoBulk d + 1
  | .map entries => uptoBulkEntries entries + 1
  | .held _ => 1
def uptoBulkAll {H : Type} : List (DataW H) → Nat
  | [] => 0
  | d :: r => uptoBulk d + uptoBulkAll r
def uptoBulkEntries {H : Type} : List (Lit × DataW H) → Nat
  | [] => 0
  | x :: r => uptoBulkEntry x + uptoBulkEntries r
def uptoBulkEntry {H : Type} : Lit × DataW H → Nat
  | (.string bytes, d) => bytes.length + uptoBulk d + 1
  | (_, d) => uptoBulk d + 1
 end
def uptoSmall : (H : Type) → List (DataW H) → Bool := fun _ ds => decide (uptoBulkAll ds ≤ 1048576)
def OpenSpec.upto (s : _root_.Go.ChangeSpec) : _root_.Go.OpenSpec := { _root_.Go.OpenSpec.ofChange s with cond := some uptoSmall }

/-- 'phaetonlaw05.WireTells', WHERE WHAT IT READS IS OF BULK AT MOST 1048576: true; the input reads as it did. -/
def wireTellsUptoRow : OpenClaim := { program := "ythgeekcobmhbfaa", sum := "6319834ac66388c85cc76d4574b683f6c000f56eaee48c00a40d34b16ff894c6", func := "phaeton/phaetonlaw05.WireTells", spec := "wireTells", unfollowed := true, recurses := true, apart := false, narrowed := true }
def WireTellsUptoSaid : Prop := wireTellsUptoRow.holds Try.pinned (OpenSpec.upto wireTellsSpec)

/-- 'phaetonlaw05.WireBack', WHERE WHAT IT READS IS OF BULK AT MOST 1048576: true; the input reads as it did. -/
def wireBackUptoRow : OpenClaim := { program := "ythgeekcobmhbfaa", sum := "6319834ac66388c85cc76d4574b683f6c000f56eaee48c00a40d34b16ff894c6", func := "phaeton/phaetonlaw05.WireBack", spec := "wireBack", unfollowed := true, recurses := true, apart := false, narrowed := true }
def WireBackUptoSaid : Prop := wireBackUptoRow.holds Try.pinned (OpenSpec.upto wireBackSpec)

/-- 'phaetonlaw05.WireShort', WHERE WHAT IT READS IS OF BULK AT MOST 1048576: true; the input reads as it did. -/
def wireShortUptoRow : OpenClaim := { program := "ythgeekcobmhbfaa", sum := "6319834ac66388c85cc76d4574b683f6c000f56eaee48c00a40d34b16ff894c6", func := "phaeton/phaetonlaw05.WireShort", spec := "wireShort", unfollowed := true, recurses := true, apart := false, narrowed := true }
def WireShortUptoSaid : Prop := wireShortUptoRow.holds Try.pinned (OpenSpec.upto wireShortSpec)

/-- 'phaetonlaw05.WireRuns', WHERE WHAT IT READS IS OF BULK AT MOST 1048576: true; the input reads as it did. -/
def wireRunsUptoRow : OpenClaim := { program := "ythgeekcobmhbfaa", sum := "6319834ac66388c85cc76d4574b683f6c000f56eaee48c00a40d34b16ff894c6", func := "phaeton/phaetonlaw05.WireRuns", spec := "wireRuns", unfollowed := true, recurses := true, apart := false, narrowed := true }
def WireRunsUptoSaid : Prop := wireRunsUptoRow.holds Try.pinned (OpenSpec.upto wireRunsSpec)

/-- 'phaetonlaw05.WireFlip', WHERE WHAT IT READS IS OF BULK AT MOST 1048576: true; the input reads as it did. -/
def wireFlipUptoRow : OpenClaim := { program := "ythgeekcobmhbfaa", sum := "6319834ac66388c85cc76d4574b683f6c000f56eaee48c00a40d34b16ff894c6", func := "phaeton/phaetonlaw05.WireFlip", spec := "wireFlip", unfollowed := true, recurses := true, apart := false, narrowed := true }
def WireFlipUptoSaid : Prop := wireFlipUptoRow.holds Try.pinned (OpenSpec.upto wireFlipSpec)

/-- 'phaetonlaw05.WireApart', WHERE WHAT IT READS IS OF BULK AT MOST 1048576: true; the input reads as it did. -/
def wireApartUptoRow : OpenClaim := { program := "ythgeekcobmhbfaa", sum := "6319834ac66388c85cc76d4574b683f6c000f56eaee48c00a40d34b16ff894c6", func := "phaeton/phaetonlaw05.WireApart", spec := "wireApart", unfollowed := true, recurses := true, apart := false, narrowed := true }
def WireApartUptoSaid : Prop := wireApartUptoRow.holds Try.pinned (OpenSpec.upto wireApartSpec)

/-- 'phaetonlaw05.WireShares', WHERE WHAT IT READS IS OF BULK AT MOST 1048576: true; the input reads as it did. -/
def wireSharesUptoRow : OpenClaim := { program := "ythgeekcobmhbfaa", sum := "6319834ac66388c85cc76d4574b683f6c000f56eaee48c00a40d34b16ff894c6", func := "phaeton/phaetonlaw05.WireShares", spec := "wireShares", unfollowed := true, recurses := true, apart := false, narrowed := true }
def WireSharesUptoSaid : Prop := wireSharesUptoRow.holds Try.pinned (OpenSpec.upto wireSharesSpec)

end Rows
end Go.Proofs.Ythgeekcobmhbfaa

/-
  No cell of these rows narrows 'for every input' (looked for: loops, veiled, ifaces, maps, wideKeys, modest, calm, conditions, laid).
  DERIVED. THE GIVEN ROWS OF THIS SEAT. 8 by the template 'for every input the law returns true; each argument reads behind the call as it read before'; 0 by the template 'total and deterministic' (their statements: YtcdbndjicjghgaaTotals.lean).
  GIVEN WITH THE SEED: the statements are not yours to turn. If you find one false, say at which input.
  Laid BY PROGRAM, IN A SANDBOX (cutbox-rows.mjs): the forced cells as the released guide's own fill.sh prints them over the translation 8d0d9491ff2f05cd… (all of the seat's roots in one cut). By AI agents, Wed Nov 11 2026. No macro, syntax, notation, axiom, sorry.
-/
import Derived.Test.YtcdbndjicjghgaaChecked
import GoSem.Claim
import GoSem.ClaimJoined
import GoSem.ClaimMapViews
import Derived.JoinedTies
import Derived.KernelRfl
namespace Go.Proofs.Ytcdbndjicjghgaa
/- THE CELL 'sum', in the pinned program and in every row, IS THE sha256 OF THE DUMP (.gsa) THAT YtcdbndjicjghgaaProg.lean LOADS. Nothing in Lean hashes anything: it is a label: what it is worth is what the hold of that sum in a sandbox is worth. -/
noncomputable def Try.pinned : Pinned := { name := "ytcdbndjicjghgaa", sum := "8d0d9491ff2f05cdf65012ba1e9ae2c1a9834d035e43f0a80be83501a3a46b35", checked := Try.checked }
namespace Rows
def none {H : Type} : Left H := { results := [], args := [] }

/-- 'phaetonlaw06.ArbTells': WHATEVER THE INPUT: true; the input reads as it did. -/
def arbTellsSpec : ChangeSpec := { name := "arbTells", fn := fun _ => fun
  | [d1, d2] => { results := [.lit (.bool true)], args := [d1, d2] }
  | _ => none }
def arbTellsRow : OpenClaim := { program := "ytcdbndjicjghgaa", sum := "8d0d9491ff2f05cdf65012ba1e9ae2c1a9834d035e43f0a80be83501a3a46b35", func := "phaeton/phaetonlaw06.ArbTells", spec := "arbTells", unfollowed := true, recurses := true, apart := false }
def ArbTellsSaid : Prop := arbTellsRow.holds Try.pinned (OpenSpec.ofChange arbTellsSpec)

/-- ITS FALSE NEIGHBOUR: 'it returns false'. Refute it at one input. -/
def arbTellsWrong : ChangeSpec := { name := "arbTells", fn := fun _ => fun
  | [d1, d2] => { results := [.lit (.bool false)], args := [d1, d2] }
  | _ => none }
def ArbTellsWrongFalsely : Prop := arbTellsRow.holds Try.pinned (OpenSpec.ofChange arbTellsWrong)

/-- 'phaetonlaw06.ArbLeast': WHATEVER THE INPUT: true; the input reads as it did. -/
def arbLeastSpec : ChangeSpec := { name := "arbLeast", fn := fun _ => fun
  | [d] => { results := [.lit (.bool true)], args := [d] }
  | _ => none }
def arbLeastRow : OpenClaim := { program := "ytcdbndjicjghgaa", sum := "8d0d9491ff2f05cdf65012ba1e9ae2c1a9834d035e43f0a80be83501a3a46b35", func := "phaeton/phaetonlaw06.ArbLeast", spec := "arbLeast", unfollowed := true, recurses := true, apart := false }
def ArbLeastSaid : Prop := arbLeastRow.holds Try.pinned (OpenSpec.ofChange arbLeastSpec)

/-- ITS FALSE NEIGHBOUR: 'it returns false'. Refute it at one input. -/
def arbLeastWrong : ChangeSpec := { name := "arbLeast", fn := fun _ => fun
  | [d] => { results := [.lit (.bool false)], args := [d] }
  | _ => none }
def ArbLeastWrongFalsely : Prop := arbLeastRow.holds Try.pinned (OpenSpec.ofChange arbLeastWrong)

/-- 'phaetonlaw06.ArbLost': WHATEVER THE INPUT: true; the input reads as it did. -/
def arbLostSpec : ChangeSpec := { name := "arbLost", fn := fun _ => fun
  | [d] => { results := [.lit (.bool true)], args := [d] }
  | _ => none }
def arbLostRow : OpenClaim := { program := "ytcdbndjicjghgaa", sum := "8d0d9491ff2f05cdf65012ba1e9ae2c1a9834d035e43f0a80be83501a3a46b35", func := "phaeton/phaetonlaw06.ArbLost", spec := "arbLost", unfollowed := true, recurses := true, apart := false }
def ArbLostSaid : Prop := arbLostRow.holds Try.pinned (OpenSpec.ofChange arbLostSpec)

/-- ITS FALSE NEIGHBOUR: 'it returns false'. Refute it at one input. -/
def arbLostWrong : ChangeSpec := { name := "arbLost", fn := fun _ => fun
  | [d] => { results := [.lit (.bool false)], args := [d] }
  | _ => none }
def ArbLostWrongFalsely : Prop := arbLostRow.holds Try.pinned (OpenSpec.ofChange arbLostWrong)

/-- 'phaetonlaw06.ArbOrder': WHATEVER THE INPUT: true; the input reads as it did. -/
def arbOrderSpec : ChangeSpec := { name := "arbOrder", fn := fun _ => fun
  | [d1, d2, d3] => { results := [.lit (.bool true)], args := [d1, d2, d3] }
  | _ => none }
def arbOrderRow : OpenClaim := { program := "ytcdbndjicjghgaa", sum := "8d0d9491ff2f05cdf65012ba1e9ae2c1a9834d035e43f0a80be83501a3a46b35", func := "phaeton/phaetonlaw06.ArbOrder", spec := "arbOrder", unfollowed := true, recurses := true, apart := false }
def ArbOrderSaid : Prop := arbOrderRow.holds Try.pinned (OpenSpec.ofChange arbOrderSpec)

/-- ITS FALSE NEIGHBOUR: 'it returns false'. Refute it at one input. -/
def arbOrderWrong : ChangeSpec := { name := "arbOrder", fn := fun _ => fun
  | [d1, d2, d3] => { results := [.lit (.bool false)], args := [d1, d2, d3] }
  | _ => none }
def ArbOrderWrongFalsely : Prop := arbOrderRow.holds Try.pinned (OpenSpec.ofChange arbOrderWrong)

/-- 'phaetonlaw06.ArbKinds': WHATEVER THE INPUT: true; the input reads as it did. -/
def arbKindsSpec : ChangeSpec := { name := "arbKinds", fn := fun _ => fun
  | [d1, d2] => { results := [.lit (.bool true)], args := [d1, d2] }
  | _ => none }
def arbKindsRow : OpenClaim := { program := "ytcdbndjicjghgaa", sum := "8d0d9491ff2f05cdf65012ba1e9ae2c1a9834d035e43f0a80be83501a3a46b35", func := "phaeton/phaetonlaw06.ArbKinds", spec := "arbKinds", unfollowed := true, recurses := true, apart := false }
def ArbKindsSaid : Prop := arbKindsRow.holds Try.pinned (OpenSpec.ofChange arbKindsSpec)

/-- ITS FALSE NEIGHBOUR: 'it returns false'. Refute it at one input. -/
def arbKindsWrong : ChangeSpec := { name := "arbKinds", fn := fun _ => fun
  | [d1, d2] => { results := [.lit (.bool false)], args := [d1, d2] }
  | _ => none }
def ArbKindsWrongFalsely : Prop := arbKindsRow.holds Try.pinned (OpenSpec.ofChange arbKindsWrong)

/-- 'phaetonlaw06.ArbTwins': WHATEVER THE INPUT: true; the input reads as it did. -/
def arbTwinsSpec : ChangeSpec := { name := "arbTwins", fn := fun _ => fun
  | [d1, d2] => { results := [.lit (.bool true)], args := [d1, d2] }
  | _ => none }
def arbTwinsRow : OpenClaim := { program := "ytcdbndjicjghgaa", sum := "8d0d9491ff2f05cdf65012ba1e9ae2c1a9834d035e43f0a80be83501a3a46b35", func := "phaeton/phaetonlaw06.ArbTwins", spec := "arbTwins", unfollowed := true, recurses := true, apart := false }
def ArbTwinsSaid : Prop := arbTwinsRow.holds Try.pinned (OpenSpec.ofChange arbTwinsSpec)

/-- ITS FALSE NEIGHBOUR: 'it returns false'. Refute it at one input. -/
def arbTwinsWrong : ChangeSpec := { name := "arbTwins", fn := fun _ => fun
  | [d1, d2] => { results := [.lit (.bool false)], args := [d1, d2] }
  | _ => none }
def ArbTwinsWrongFalsely : Prop := arbTwinsRow.holds Try.pinned (OpenSpec.ofChange arbTwinsWrong)

/-- 'phaetonlaw06.ArbRounds': WHATEVER THE INPUT: true; the input reads as it did. -/
def arbRoundsSpec : ChangeSpec := { name := "arbRounds", fn := fun _ => fun
  | [d] => { results := [.lit (.bool true)], args := [d] }
  | _ => none }
def arbRoundsRow : OpenClaim := { program := "ytcdbndjicjghgaa", sum := "8d0d9491ff2f05cdf65012ba1e9ae2c1a9834d035e43f0a80be83501a3a46b35", func := "phaeton/phaetonlaw06.ArbRounds", spec := "arbRounds", unfollowed := true, recurses := true, apart := false }
def ArbRoundsSaid : Prop := arbRoundsRow.holds Try.pinned (OpenSpec.ofChange arbRoundsSpec)

/-- ITS FALSE NEIGHBOUR: 'it returns false'. Refute it at one input. -/
def arbRoundsWrong : ChangeSpec := { name := "arbRounds", fn := fun _ => fun
  | [d] => { results := [.lit (.bool false)], args := [d] }
  | _ => none }
def ArbRoundsWrongFalsely : Prop := arbRoundsRow.holds Try.pinned (OpenSpec.ofChange arbRoundsWrong)

/-- 'phaetonlaw06.ArbAnd': WHATEVER THE INPUT: true; the input reads as it did. -/
def arbAndSpec : ChangeSpec := { name := "arbAnd", fn := fun _ => fun
  | [d1, d2] => { results := [.lit (.bool true)], args := [d1, d2] }
  | _ => none }
def arbAndRow : OpenClaim := { program := "ytcdbndjicjghgaa", sum := "8d0d9491ff2f05cdf65012ba1e9ae2c1a9834d035e43f0a80be83501a3a46b35", func := "phaeton/phaetonlaw06.ArbAnd", spec := "arbAnd", unfollowed := true, recurses := true, apart := false }
def ArbAndSaid : Prop := arbAndRow.holds Try.pinned (OpenSpec.ofChange arbAndSpec)

/-- ITS FALSE NEIGHBOUR: 'it returns false'. Refute it at one input. -/
def arbAndWrong : ChangeSpec := { name := "arbAnd", fn := fun _ => fun
  | [d1, d2] => { results := [.lit (.bool false)], args := [d1, d2] }
  | _ => none }
def ArbAndWrongFalsely : Prop := arbAndRow.holds Try.pinned (OpenSpec.ofChange arbAndWrong)

/- THE SECOND FORM. 'bulk': how many values and letters a reading holds, each counted each time it is reached (what is shared counts as often as it is met; a slice's spare places count too). A statement '..UptoSaid' is the law's where the arguments, and the package variables that the reading takes, are together of bulk at most 1048576: NARROWER than '..Said'. Prove '..Said' where nothing that the law and all that it calls make is longer than what came in: it says more and counts as full. Else prove '..UptoSaid'. A law counts once. -/
mutual
def uptoBulk {H : Type} : DataW H → Nat
  | .lit (.string bytes) => bytes.length + 1
  | .lit _ => 1
  | .nil => 1
  | .ptr d => uptoBulk d + 1
  | .slice elems spare => uptoBulkAll elems + uptoBulkAll spare + 1
  | .agg parts => uptoBulkAll parts + 1
  | .iface _ d => uptoBulk d + 1
  | .map entries => uptoBulkEntries entries + 1
  | .held _ => 1
def uptoBulkAll {H : Type} : List (DataW H) → Nat
  | [] => 0
  | d :: r => uptoBulk d + uptoBulkAll r
def uptoBulkEntries {H : Type} : List (Lit × DataW H) → Nat
  | [] => 0
  | x :: r => uptoBulkEntry x + uptoBulkEntries r
def uptoBulkEntry {H : Type} : Lit × DataW H → Nat
  | (.string bytes, d) => bytes.length + uptoBulk d + 1
  | (_, d) => uptoBulk d + 1
 end
def uptoSmall : (H : Type) → List (DataW H) → Bool := fun _ ds => decide (uptoBulkAll ds ≤ 1048576)
def OpenSpec.upto (s : _root_.Go.ChangeSpec) : _root_.Go.OpenSpec := { _root_.Go.OpenSpec.ofChange s with cond := some uptoSmall }

/-- 'phaetonlaw06.ArbTells', WHERE WHAT IT READS IS OF BULK AT MOST 1048576: true; the input reads as it did. -/
def arbTellsUptoRow : OpenClaim := { program := "ytcdbndjicjghgaa", sum := "8d0d9491ff2f05cdf65012ba1e9ae2c1a9834d035e43f0a80be83501a3a46b35", func := "phaeton/phaetonlaw06.ArbTells", spec := "arbTells", unfollowed := true, recurses := true, apart := false, narrowed := true }
def ArbTellsUptoSaid : Prop := arbTellsUptoRow.holds Try.pinned (OpenSpec.upto arbTellsSpec)

/-- 'phaetonlaw06.ArbLeast', WHERE WHAT IT READS IS OF BULK AT MOST 1048576: true; the input reads as it did. -/
def arbLeastUptoRow : OpenClaim := { program := "ytcdbndjicjghgaa", sum := "8d0d9491ff2f05cdf65012ba1e9ae2c1a9834d035e43f0a80be83501a3a46b35", func := "phaeton/phaetonlaw06.ArbLeast", spec := "arbLeast", unfollowed := true, recurses := true, apart := false, narrowed := true }
def ArbLeastUptoSaid : Prop := arbLeastUptoRow.holds Try.pinned (OpenSpec.upto arbLeastSpec)

/-- 'phaetonlaw06.ArbLost', WHERE WHAT IT READS IS OF BULK AT MOST 1048576: true; the input reads as it did. -/
def arbLostUptoRow : OpenClaim := { program := "ytcdbndjicjghgaa", sum := "8d0d9491ff2f05cdf65012ba1e9ae2c1a9834d035e43f0a80be83501a3a46b35", func := "phaeton/phaetonlaw06.ArbLost", spec := "arbLost", unfollowed := true, recurses := true, apart := false, narrowed := true }
def ArbLostUptoSaid : Prop := arbLostUptoRow.holds Try.pinned (OpenSpec.upto arbLostSpec)

/-- 'phaetonlaw06.ArbOrder', WHERE WHAT IT READS IS OF BULK AT MOST 1048576: true; the input reads as it did. -/
def arbOrderUptoRow : OpenClaim := { program := "ytcdbndjicjghgaa", sum := "8d0d9491ff2f05cdf65012ba1e9ae2c1a9834d035e43f0a80be83501a3a46b35", func := "phaeton/phaetonlaw06.ArbOrder", spec := "arbOrder", unfollowed := true, recurses := true, apart := false, narrowed := true }
def ArbOrderUptoSaid : Prop := arbOrderUptoRow.holds Try.pinned (OpenSpec.upto arbOrderSpec)

/-- 'phaetonlaw06.ArbKinds', WHERE WHAT IT READS IS OF BULK AT MOST 1048576: true; the input reads as it did. -/
def arbKindsUptoRow : OpenClaim := { program := "ytcdbndjicjghgaa", sum := "8d0d9491ff2f05cdf65012ba1e9ae2c1a9834d035e43f0a80be83501a3a46b35", func := "phaeton/phaetonlaw06.ArbKinds", spec := "arbKinds", unfollowed := true, recurses := true, apart := false, narrowed := true }
def ArbKindsUptoSaid : Prop := arbKindsUptoRow.holds Try.pinned (OpenSpec.upto arbKindsSpec)

/-- 'phaetonlaw06.ArbTwins', WHERE WHAT IT READS IS OF BULK AT MOST 1048576: true; the input reads as it did. -/
def arbTwinsUptoRow : OpenClaim := { program := "ytcdbndjicjghgaa", sum := "8d0d9491ff2f05cdf65012ba1e9ae2c1a9834d035e43f0a80be83501a3a46b35", func := "phaeton/phaetonlaw06.ArbTwins", spec := "arbTwins", unfollowed := true, recurses := true, apart := false, narrowed := true }
def ArbTwinsUptoSaid : Prop := arbTwinsUptoRow.holds Try.pinned (OpenSpec.upto arbTwinsSpec)

/-- 'phaetonlaw06.ArbRounds', WHERE WHAT IT READS IS OF BULK AT MOST 1048576: true; the input reads as it did. -/
def arbRoundsUptoRow : OpenClaim := { program := "ytcdbndjicjghgaa", sum := "8d0d9491ff2f05cdf65012ba1e9ae2c1a9834d035e43f0a80be83501a3a46b35", func := "phaeton/phaetonlaw06.ArbRounds", spec := "arbRounds", unfollowed := true, recurses := true, apart := false, narrowed := true }
def ArbRoundsUptoSaid : Prop := arbRoundsUptoRow.holds Try.pinned (OpenSpec.upto arbRoundsSpec)

/-- 'phaetonlaw06.ArbAnd', WHERE WHAT IT READS IS OF BULK AT MOST 1048576: true; the input reads as it did. -/
def arbAndUptoRow : OpenClaim := { program := "ytcdbndjicjghgaa", sum := "8d0d9491ff2f05cdf65012ba1e9ae2c1a9834d035e43f0a80be83501a3a46b35", func := "phaeton/phaetonlaw06.ArbAnd", spec := "arbAnd", unfollowed := true, recurses := true, apart := false, narrowed := true }
def ArbAndUptoSaid : Prop := arbAndUptoRow.holds Try.pinned (OpenSpec.upto arbAndSpec)

end Rows
end Go.Proofs.Ytcdbndjicjghgaa

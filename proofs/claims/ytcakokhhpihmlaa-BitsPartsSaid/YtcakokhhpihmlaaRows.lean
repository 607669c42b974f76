/-
  No cell of these rows narrows 'for every input' (looked for: loops, veiled, ifaces, maps, wideKeys, modest, calm, conditions, laid).
  DERIVED. THE GIVEN ROWS OF THIS SEAT. 7 by the template 'for every input the law returns true; each argument reads behind the call as it read before'; 0 by the template 'total and deterministic' (their statements: YtcakokhhpihmlaaTotals.lean).
  GIVEN WITH THE SEED: the statements are not yours to turn. If you find one false, say at which input.
  Laid BY PROGRAM, IN A SANDBOX (cutbox-rows.mjs): the forced cells as the released guide's own fill.sh prints them over the translation be67d280daf9cc39… (all of the seat's roots in one cut). By AI agents, Wed Nov 11 2026. No macro, syntax, notation, axiom, sorry.
-/
import Derived.Test.YtcakokhhpihmlaaChecked
import GoSem.Claim
import GoSem.ClaimJoined
import GoSem.ClaimMapViews
import Derived.JoinedTies
import Derived.KernelRfl
namespace Go.Proofs.Ytcakokhhpihmlaa
/- THE CELL 'sum', in the pinned program and in every row, IS THE sha256 OF THE DUMP (.gsa) THAT YtcakokhhpihmlaaProg.lean LOADS. Nothing in Lean hashes anything: it is a label: what it is worth is what the hold of that sum in a sandbox is worth. -/
noncomputable def Try.pinned : Pinned := { name := "ytcakokhhpihmlaa", sum := "be67d280daf9cc396d6bc29a95fec6e19e36eed29b2aa305531f742cec362393", checked := Try.checked }
namespace Rows
def none {H : Type} : Left H := { results := [], args := [] }

/-- 'phaetonlaw01.BitsTells': WHATEVER THE INPUT: true; the input reads as it did. -/
def bitsTellsSpec : ChangeSpec := { name := "bitsTells", fn := fun _ => fun
  | [d1, d2, d3, d4] => { results := [.lit (.bool true)], args := [d1, d2, d3, d4] }
  | _ => none }
def bitsTellsRow : OpenClaim := { program := "ytcakokhhpihmlaa", sum := "be67d280daf9cc396d6bc29a95fec6e19e36eed29b2aa305531f742cec362393", func := "phaeton/phaetonlaw01.BitsTells", spec := "bitsTells", unfollowed := true, recurses := true, apart := false }
def BitsTellsSaid : Prop := bitsTellsRow.holds Try.pinned (OpenSpec.ofChange bitsTellsSpec)

/-- ITS FALSE NEIGHBOUR: 'it returns false'. Refute it at one input. -/
def bitsTellsWrong : ChangeSpec := { name := "bitsTells", fn := fun _ => fun
  | [d1, d2, d3, d4] => { results := [.lit (.bool false)], args := [d1, d2, d3, d4] }
  | _ => none }
def BitsTellsWrongFalsely : Prop := bitsTellsRow.holds Try.pinned (OpenSpec.ofChange bitsTellsWrong)

/-- 'phaetonlaw01.BitsBack': WHATEVER THE INPUT: true; the input reads as it did. -/
def bitsBackSpec : ChangeSpec := { name := "bitsBack", fn := fun _ => fun
  | [d1, d2] => { results := [.lit (.bool true)], args := [d1, d2] }
  | _ => none }
def bitsBackRow : OpenClaim := { program := "ytcakokhhpihmlaa", sum := "be67d280daf9cc396d6bc29a95fec6e19e36eed29b2aa305531f742cec362393", func := "phaeton/phaetonlaw01.BitsBack", spec := "bitsBack", unfollowed := true, recurses := true, apart := false }
def BitsBackSaid : Prop := bitsBackRow.holds Try.pinned (OpenSpec.ofChange bitsBackSpec)

/-- ITS FALSE NEIGHBOUR: 'it returns false'. Refute it at one input. -/
def bitsBackWrong : ChangeSpec := { name := "bitsBack", fn := fun _ => fun
  | [d1, d2] => { results := [.lit (.bool false)], args := [d1, d2] }
  | _ => none }
def BitsBackWrongFalsely : Prop := bitsBackRow.holds Try.pinned (OpenSpec.ofChange bitsBackWrong)

/-- 'phaetonlaw01.BitsRow': WHATEVER THE INPUT: true; the input reads as it did. -/
def bitsRowSpec : ChangeSpec := { name := "bitsRow", fn := fun _ => fun
  | [d] => { results := [.lit (.bool true)], args := [d] }
  | _ => none }
def bitsRowRow : OpenClaim := { program := "ytcakokhhpihmlaa", sum := "be67d280daf9cc396d6bc29a95fec6e19e36eed29b2aa305531f742cec362393", func := "phaeton/phaetonlaw01.BitsRow", spec := "bitsRow", unfollowed := true, recurses := true, apart := false }
def BitsRowSaid : Prop := bitsRowRow.holds Try.pinned (OpenSpec.ofChange bitsRowSpec)

/-- ITS FALSE NEIGHBOUR: 'it returns false'. Refute it at one input. -/
def bitsRowWrong : ChangeSpec := { name := "bitsRow", fn := fun _ => fun
  | [d] => { results := [.lit (.bool false)], args := [d] }
  | _ => none }
def BitsRowWrongFalsely : Prop := bitsRowRow.holds Try.pinned (OpenSpec.ofChange bitsRowWrong)

/-- 'phaetonlaw01.BitsBytes': WHATEVER THE INPUT: true; the input reads as it did. -/
def bitsBytesSpec : ChangeSpec := { name := "bitsBytes", fn := fun _ => fun
  | [d1, d2] => { results := [.lit (.bool true)], args := [d1, d2] }
  | _ => none }
def bitsBytesRow : OpenClaim := { program := "ytcakokhhpihmlaa", sum := "be67d280daf9cc396d6bc29a95fec6e19e36eed29b2aa305531f742cec362393", func := "phaeton/phaetonlaw01.BitsBytes", spec := "bitsBytes", unfollowed := true, recurses := true, apart := false }
def BitsBytesSaid : Prop := bitsBytesRow.holds Try.pinned (OpenSpec.ofChange bitsBytesSpec)

/-- ITS FALSE NEIGHBOUR: 'it returns false'. Refute it at one input. -/
def bitsBytesWrong : ChangeSpec := { name := "bitsBytes", fn := fun _ => fun
  | [d1, d2] => { results := [.lit (.bool false)], args := [d1, d2] }
  | _ => none }
def BitsBytesWrongFalsely : Prop := bitsBytesRow.holds Try.pinned (OpenSpec.ofChange bitsBytesWrong)

/-- 'phaetonlaw01.BitsParts': WHATEVER THE INPUT: true; the input reads as it did. -/
def bitsPartsSpec : ChangeSpec := { name := "bitsParts", fn := fun _ => fun
  | [d1, d2, d3, d4] => { results := [.lit (.bool true)], args := [d1, d2, d3, d4] }
  | _ => none }
def bitsPartsRow : OpenClaim := { program := "ytcakokhhpihmlaa", sum := "be67d280daf9cc396d6bc29a95fec6e19e36eed29b2aa305531f742cec362393", func := "phaeton/phaetonlaw01.BitsParts", spec := "bitsParts", unfollowed := true, recurses := true, apart := false }
def BitsPartsSaid : Prop := bitsPartsRow.holds Try.pinned (OpenSpec.ofChange bitsPartsSpec)

/-- ITS FALSE NEIGHBOUR: 'it returns false'. Refute it at one input. -/
def bitsPartsWrong : ChangeSpec := { name := "bitsParts", fn := fun _ => fun
  | [d1, d2, d3, d4] => { results := [.lit (.bool false)], args := [d1, d2, d3, d4] }
  | _ => none }
def BitsPartsWrongFalsely : Prop := bitsPartsRow.holds Try.pinned (OpenSpec.ofChange bitsPartsWrong)

/-- 'phaetonlaw01.BitsOrder': WHATEVER THE INPUT: true; the input reads as it did. -/
def bitsOrderSpec : ChangeSpec := { name := "bitsOrder", fn := fun _ => fun
  | [d1, d2] => { results := [.lit (.bool true)], args := [d1, d2] }
  | _ => none }
def bitsOrderRow : OpenClaim := { program := "ytcakokhhpihmlaa", sum := "be67d280daf9cc396d6bc29a95fec6e19e36eed29b2aa305531f742cec362393", func := "phaeton/phaetonlaw01.BitsOrder", spec := "bitsOrder", unfollowed := true, recurses := true, apart := false }
def BitsOrderSaid : Prop := bitsOrderRow.holds Try.pinned (OpenSpec.ofChange bitsOrderSpec)

/-- ITS FALSE NEIGHBOUR: 'it returns false'. Refute it at one input. -/
def bitsOrderWrong : ChangeSpec := { name := "bitsOrder", fn := fun _ => fun
  | [d1, d2] => { results := [.lit (.bool false)], args := [d1, d2] }
  | _ => none }
def BitsOrderWrongFalsely : Prop := bitsOrderRow.holds Try.pinned (OpenSpec.ofChange bitsOrderWrong)

/-- 'phaetonlaw01.BitsWide': WHATEVER THE INPUT: true; the input reads as it did. -/
def bitsWideSpec : ChangeSpec := { name := "bitsWide", fn := fun _ => fun
  | [d1, d2] => { results := [.lit (.bool true)], args := [d1, d2] }
  | _ => none }
def bitsWideRow : OpenClaim := { program := "ytcakokhhpihmlaa", sum := "be67d280daf9cc396d6bc29a95fec6e19e36eed29b2aa305531f742cec362393", func := "phaeton/phaetonlaw01.BitsWide", spec := "bitsWide", unfollowed := true, recurses := true, apart := false }
def BitsWideSaid : Prop := bitsWideRow.holds Try.pinned (OpenSpec.ofChange bitsWideSpec)

/-- ITS FALSE NEIGHBOUR: 'it returns false'. Refute it at one input. -/
def bitsWideWrong : ChangeSpec := { name := "bitsWide", fn := fun _ => fun
  | [d1, d2] => { results := [.lit (.bool false)], args := [d1, d2] }
  | _ => none }
def BitsWideWrongFalsely : Prop := bitsWideRow.holds Try.pinned (OpenSpec.ofChange bitsWideWrong)

/- THE SECOND FORM. 'bulk': how many values and letters a reading holds, each counted each time it is reached (what is shared counts as often as it is met; a slice's spare places count too). A statement '..UptoSaid' is the law's where the arguments, and the package variables that the reading takes, are together of bulk at most 1048576: NARROWER than '..Said'. Prove '..Said' where nothing that the law and all that it calls make is longer than what came in: it says more and counts as full. Else prove '..UptoSaid'. A law counts once. -/
mutual
def uptoBulk {H : Type} : DataW H → Nat
  | .lit (.string bytes) => bytes.length + 1
  | .lit _ => 1
  | .nil => 1
  | .ptr d => uptoBulk d + 1
  | .slice elems spare => uptoBulkAll elems + uptoBulkAll spare + 1
  | .agg parts => uptoBulkAll parts + 1
  | .iface _ d => uptoBulk d + 1
  | .map entries => uptoBulkEntries entries + 1
  | .held _ => 1
def uptoBulkAll {H : Type} : List (DataW H) → Nat
  | [] => 0
  | d :: r => uptoBulk d + uptoBulkAll r
def uptoBulkEntries {H : Type} : List (Lit × DataW H) → Nat
  | [] => 0
  | x :: r => uptoBulkEntry x + uptoBulkEntries r
def uptoBulkEntry {H : Type} : Lit × DataW H → Nat
  | (.string bytes, d) => bytes.length + uptoBulk d + 1
  | (_, d) => uptoBulk d + 1
 end
def uptoSmall : (H : Type) → List (DataW H) → Bool := fun _ ds => decide (uptoBulkAll ds ≤ 1048576)
def OpenSpec.upto (s : _root_.Go.ChangeSpec) : _root_.Go.OpenSpec := { _root_.Go.OpenSpec.ofChange s with cond := some uptoSmall }

/-- 'phaetonlaw01.BitsTells', WHERE WHAT IT READS IS OF BULK AT MOST 1048576: true; the input reads as it did. -/
def bitsTellsUptoRow : OpenClaim := { program := "ytcakokhhpihmlaa", sum := "be67d280daf9cc396d6bc29a95fec6e19e36eed29b2aa305531f742cec362393", func := "phaeton/phaetonlaw01.BitsTells", spec := "bitsTells", unfollowed := true, recurses := true, apart := false, narrowed := true }
def BitsTellsUptoSaid : Prop := bitsTellsUptoRow.holds Try.pinned (OpenSpec.upto bitsTellsSpec)

/-- 'phaetonlaw01.BitsBack', WHERE WHAT IT READS IS OF BULK AT MOST 1048576: true; the input reads as it did. -/
def bitsBackUptoRow : OpenClaim := { program := "ytcakokhhpihmlaa", sum := "be67d280daf9cc396d6bc29a95fec6e19e36eed29b2aa305531f742cec362393", func := "phaeton/phaetonlaw01.BitsBack", spec := "bitsBack", unfollowed := true, recurses := true, apart := false, narrowed := true }
def BitsBackUptoSaid : Prop := bitsBackUptoRow.holds Try.pinned (OpenSpec.upto bitsBackSpec)

/-- 'phaetonlaw01.BitsRow', WHERE WHAT IT READS IS OF BULK AT MOST 1048576: true; the input reads as it did. -/
def bitsRowUptoRow : OpenClaim := { program := "ytcakokhhpihmlaa", sum := "be67d280daf9cc396d6bc29a95fec6e19e36eed29b2aa305531f742cec362393", func := "phaeton/phaetonlaw01.BitsRow", spec := "bitsRow", unfollowed := true, recurses := true, apart := false, narrowed := true }
def BitsRowUptoSaid : Prop := bitsRowUptoRow.holds Try.pinned (OpenSpec.upto bitsRowSpec)

/-- 'phaetonlaw01.BitsBytes', WHERE WHAT IT READS IS OF BULK AT MOST 1048576: true; the input reads as it did. -/
def bitsBytesUptoRow : OpenClaim := { program := "ytcakokhhpihmlaa", sum := "be67d280daf9cc396d6bc29a95fec6e19e36eed29b2aa305531f742cec362393", func := "phaeton/phaetonlaw01.BitsBytes", spec := "bitsBytes", unfollowed := true, recurses := true, apart := false, narrowed := true }
def BitsBytesUptoSaid : Prop := bitsBytesUptoRow.holds Try.pinned (OpenSpec.upto bitsBytesSpec)

/-- 'phaetonlaw01.BitsParts', WHERE WHAT IT READS IS OF BULK AT MOST 1048576: true; the input reads as it did. -/
def bitsPartsUptoRow : OpenClaim := { program := "ytcakokhhpihmlaa", sum := "be67d280daf9cc396d6bc29a95fec6e19e36eed29b2aa305531f742cec362393", func := "phaeton/phaetonlaw01.BitsParts", spec := "bitsParts", unfollowed := true, recurses := true, apart := false, narrowed := true }
def BitsPartsUptoSaid : Prop := bitsPartsUptoRow.holds Try.pinned (OpenSpec.upto bitsPartsSpec)

/-- 'phaetonlaw01.BitsOrder', WHERE WHAT IT READS IS OF BULK AT MOST 1048576: true; the input reads as it did. -/
def bitsOrderUptoRow : OpenClaim := { program := "ytcakokhhpihmlaa", sum := "be67d280daf9cc396d6bc29a95fec6e19e36eed29b2aa305531f742cec362393", func := "phaeton/phaetonlaw01.BitsOrder", spec := "bitsOrder", unfollowed := true, recurses := true, apart := false, narrowed := true }
def BitsOrderUptoSaid : Prop := bitsOrderUptoRow.holds Try.pinned (OpenSpec.upto bitsOrderSpec)

/-- 'phaetonlaw01.BitsWide', WHERE WHAT IT READS IS OF BULK AT MOST 1048576: true; the input reads as it did. -/
def bitsWideUptoRow : OpenClaim := { program := "ytcakokhhpihmlaa", sum := "be67d280daf9cc396d6bc29a95fec6e19e36eed29b2aa305531f742cec362393", func := "phaeton/phaetonlaw01.BitsWide", spec := "bitsWide", unfollowed := true, recurses := true, apart := false, narrowed := true }
def BitsWideUptoSaid : Prop := bitsWideUptoRow.holds Try.pinned (OpenSpec.upto bitsWideSpec)

end Rows
end Go.Proofs.Ytcakokhhpihmlaa

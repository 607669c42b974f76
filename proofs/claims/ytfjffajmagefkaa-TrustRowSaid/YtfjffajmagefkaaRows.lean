/-
  No cell of these rows narrows 'for every input' (looked for: loops, veiled, ifaces, maps, wideKeys, modest, calm, conditions, laid).
  DERIVED. THE GIVEN ROWS OF THIS SEAT. 7 by the template 'for every input the law returns true; each argument reads behind the call as it read before'; 0 by the template 'total and deterministic' (their statements: YtfjffajmagefkaaTotals.lean).
  GIVEN WITH THE SEED: the statements are not yours to turn. If you find one false, say at which input.
  Laid BY PROGRAM, IN A SANDBOX (cutbox-rows.mjs): the forced cells as the released guide's own fill.sh prints them over the translation 6bedb3f7644c98c1… (all of the seat's roots in one cut). By AI agents, Wed Nov 11 2026. No macro, syntax, notation, axiom, sorry.
-/
import Derived.Test.YtfjffajmagefkaaChecked
import GoSem.Claim
import GoSem.ClaimJoined
import GoSem.ClaimMapViews
import Derived.JoinedTies
import Derived.KernelRfl
namespace Go.Proofs.Ytfjffajmagefkaa
/- THE CELL 'sum', in the pinned program and in every row, IS THE sha256 OF THE DUMP (.gsa) THAT YtfjffajmagefkaaProg.lean LOADS. Nothing in Lean hashes anything: it is a label: what it is worth is what the hold of that sum in a sandbox is worth. -/
noncomputable def Try.pinned : Pinned := { name := "ytfjffajmagefkaa", sum := "6bedb3f7644c98c168bcc45c77f5037c434a31455fa9b2a104bdc749d31e4209", checked := Try.checked }
namespace Rows
def none {H : Type} : Left H := { results := [], args := [] }

/-- 'phaetonlaw16.TrustTells': WHATEVER THE INPUT: true; the input reads as it did. -/
def trustTellsSpec : ChangeSpec := { name := "trustTells", fn := fun _ => fun
  | [d1, d2, d3, d4, d5] => { results := [.lit (.bool true)], args := [d1, d2, d3, d4, d5] }
  | _ => none }
def trustTellsRow : OpenClaim := { program := "ytfjffajmagefkaa", sum := "6bedb3f7644c98c168bcc45c77f5037c434a31455fa9b2a104bdc749d31e4209", func := "phaeton/phaetonlaw16.TrustTells", spec := "trustTells", apart := false }
def TrustTellsSaid : Prop := trustTellsRow.holds Try.pinned (OpenSpec.ofChange trustTellsSpec)

/-- ITS FALSE NEIGHBOUR: 'it returns false'. Refute it at one input. -/
def trustTellsWrong : ChangeSpec := { name := "trustTells", fn := fun _ => fun
  | [d1, d2, d3, d4, d5] => { results := [.lit (.bool false)], args := [d1, d2, d3, d4, d5] }
  | _ => none }
def TrustTellsWrongFalsely : Prop := trustTellsRow.holds Try.pinned (OpenSpec.ofChange trustTellsWrong)

/-- 'phaetonlaw16.TrustBack': WHATEVER THE INPUT: true; the input reads as it did. -/
def trustBackSpec : ChangeSpec := { name := "trustBack", fn := fun _ => fun
  | [d1, d2, d3, d4] => { results := [.lit (.bool true)], args := [d1, d2, d3, d4] }
  | _ => none }
def trustBackRow : OpenClaim := { program := "ytfjffajmagefkaa", sum := "6bedb3f7644c98c168bcc45c77f5037c434a31455fa9b2a104bdc749d31e4209", func := "phaeton/phaetonlaw16.TrustBack", spec := "trustBack", apart := false }
def TrustBackSaid : Prop := trustBackRow.holds Try.pinned (OpenSpec.ofChange trustBackSpec)

/-- ITS FALSE NEIGHBOUR: 'it returns false'. Refute it at one input. -/
def trustBackWrong : ChangeSpec := { name := "trustBack", fn := fun _ => fun
  | [d1, d2, d3, d4] => { results := [.lit (.bool false)], args := [d1, d2, d3, d4] }
  | _ => none }
def TrustBackWrongFalsely : Prop := trustBackRow.holds Try.pinned (OpenSpec.ofChange trustBackWrong)

/-- 'phaetonlaw16.TrustOpen': WHATEVER THE INPUT: true; the input reads as it did. -/
def trustOpenSpec : ChangeSpec := { name := "trustOpen", fn := fun _ => fun
  | [d1, d2] => { results := [.lit (.bool true)], args := [d1, d2] }
  | _ => none }
def trustOpenRow : OpenClaim := { program := "ytfjffajmagefkaa", sum := "6bedb3f7644c98c168bcc45c77f5037c434a31455fa9b2a104bdc749d31e4209", func := "phaeton/phaetonlaw16.TrustOpen", spec := "trustOpen", apart := false }
def TrustOpenSaid : Prop := trustOpenRow.holds Try.pinned (OpenSpec.ofChange trustOpenSpec)

/-- ITS FALSE NEIGHBOUR: 'it returns false'. Refute it at one input. -/
def trustOpenWrong : ChangeSpec := { name := "trustOpen", fn := fun _ => fun
  | [d1, d2] => { results := [.lit (.bool false)], args := [d1, d2] }
  | _ => none }
def TrustOpenWrongFalsely : Prop := trustOpenRow.holds Try.pinned (OpenSpec.ofChange trustOpenWrong)

/-- 'phaetonlaw16.TrustOther': WHATEVER THE INPUT: true; the input reads as it did. -/
def trustOtherSpec : ChangeSpec := { name := "trustOther", fn := fun _ => fun
  | [d1, d2, d3, d4, d5] => { results := [.lit (.bool true)], args := [d1, d2, d3, d4, d5] }
  | _ => none }
def trustOtherRow : OpenClaim := { program := "ytfjffajmagefkaa", sum := "6bedb3f7644c98c168bcc45c77f5037c434a31455fa9b2a104bdc749d31e4209", func := "phaeton/phaetonlaw16.TrustOther", spec := "trustOther", apart := false }
def TrustOtherSaid : Prop := trustOtherRow.holds Try.pinned (OpenSpec.ofChange trustOtherSpec)

/-- ITS FALSE NEIGHBOUR: 'it returns false'. Refute it at one input. -/
def trustOtherWrong : ChangeSpec := { name := "trustOther", fn := fun _ => fun
  | [d1, d2, d3, d4, d5] => { results := [.lit (.bool false)], args := [d1, d2, d3, d4, d5] }
  | _ => none }
def TrustOtherWrongFalsely : Prop := trustOtherRow.holds Try.pinned (OpenSpec.ofChange trustOtherWrong)

/-- 'phaetonlaw16.TrustRow': WHATEVER THE INPUT: true; the input reads as it did. -/
def trustRowSpec : ChangeSpec := { name := "trustRow", fn := fun _ => fun
  | [d1, d2, d3, d4] => { results := [.lit (.bool true)], args := [d1, d2, d3, d4] }
  | _ => none }
def trustRowRow : OpenClaim := { program := "ytfjffajmagefkaa", sum := "6bedb3f7644c98c168bcc45c77f5037c434a31455fa9b2a104bdc749d31e4209", func := "phaeton/phaetonlaw16.TrustRow", spec := "trustRow", apart := false }
def TrustRowSaid : Prop := trustRowRow.holds Try.pinned (OpenSpec.ofChange trustRowSpec)

/-- ITS FALSE NEIGHBOUR: 'it returns false'. Refute it at one input. -/
def trustRowWrong : ChangeSpec := { name := "trustRow", fn := fun _ => fun
  | [d1, d2, d3, d4] => { results := [.lit (.bool false)], args := [d1, d2, d3, d4] }
  | _ => none }
def TrustRowWrongFalsely : Prop := trustRowRow.holds Try.pinned (OpenSpec.ofChange trustRowWrong)

/-- 'phaetonlaw16.TrustStale': WHATEVER THE INPUT: true; the input reads as it did. -/
def trustStaleSpec : ChangeSpec := { name := "trustStale", fn := fun _ => fun
  | [d1, d2, d3, d4, d5, d6] => { results := [.lit (.bool true)], args := [d1, d2, d3, d4, d5, d6] }
  | _ => none }
def trustStaleRow : OpenClaim := { program := "ytfjffajmagefkaa", sum := "6bedb3f7644c98c168bcc45c77f5037c434a31455fa9b2a104bdc749d31e4209", func := "phaeton/phaetonlaw16.TrustStale", spec := "trustStale", apart := false }
def TrustStaleSaid : Prop := trustStaleRow.holds Try.pinned (OpenSpec.ofChange trustStaleSpec)

/-- ITS FALSE NEIGHBOUR: 'it returns false'. Refute it at one input. -/
def trustStaleWrong : ChangeSpec := { name := "trustStale", fn := fun _ => fun
  | [d1, d2, d3, d4, d5, d6] => { results := [.lit (.bool false)], args := [d1, d2, d3, d4, d5, d6] }
  | _ => none }
def TrustStaleWrongFalsely : Prop := trustStaleRow.holds Try.pinned (OpenSpec.ofChange trustStaleWrong)

/-- 'phaetonlaw16.TrustAlone': WHATEVER THE INPUT: true; the input reads as it did. -/
def trustAloneSpec : ChangeSpec := { name := "trustAlone", fn := fun _ => fun
  | [d1, d2, d3, d4, d5] => { results := [.lit (.bool true)], args := [d1, d2, d3, d4, d5] }
  | _ => none }
def trustAloneRow : OpenClaim := { program := "ytfjffajmagefkaa", sum := "6bedb3f7644c98c168bcc45c77f5037c434a31455fa9b2a104bdc749d31e4209", func := "phaeton/phaetonlaw16.TrustAlone", spec := "trustAlone", apart := false }
def TrustAloneSaid : Prop := trustAloneRow.holds Try.pinned (OpenSpec.ofChange trustAloneSpec)

/-- ITS FALSE NEIGHBOUR: 'it returns false'. Refute it at one input. -/
def trustAloneWrong : ChangeSpec := { name := "trustAlone", fn := fun _ => fun
  | [d1, d2, d3, d4, d5] => { results := [.lit (.bool false)], args := [d1, d2, d3, d4, d5] }
  | _ => none }
def TrustAloneWrongFalsely : Prop := trustAloneRow.holds Try.pinned (OpenSpec.ofChange trustAloneWrong)

/- THE SECOND FORM. 'bulk': how many values and letters a reading holds, each counted each time it is reached (what is shared counts as often as it is met; a slice's spare places count too). A statement '..UptoSaid' is the law's where the arguments, and the package variables that the reading takes, are together of bulk at most 1048576: NARROWER than '..Said'. Prove '..Said' where nothing that the law and all that it calls make is longer than what came in: it says more and counts as full. Else prove '..UptoSaid'. A law counts once. -/
mutual
def uptoBulk {H : Type} : DataW H → Nat
  | .lit (.string bytes) => bytes.length + 1
  | .lit _ => 1
  | .nil => 1
  | .ptr d => uptoBulk d + 1
  | .slice elems spare => uptoBulkAll elems + uptoBulkAll spare + 1
  | .agg parts => uptoBulkAll parts + 1
  | .iface _ d => uptoBulk d + 1
  | .map entries => uptoBulkEntries entries + 1
  | .held _ => 1
def uptoBulkAll {H : Type} : List (DataW H) → Nat
  | [] => 0
  | d :: r => uptoBulk d + uptoBulkAll r
def uptoBulkEntries {H : Type} : List (Lit × DataW H) → Nat
  | [] => 0
  | x :: r => uptoBulkEntry x + uptoBulkEntries r
def uptoBulkEntry {H : Type} : Lit × DataW H → Nat
  | (.string bytes, d) => bytes.length + uptoBulk d + 1
  | (_, d) => uptoBulk d + 1
 end
def uptoSmall : (H : Type) → List (DataW H) → Bool := fun _ ds => decide (uptoBulkAll ds ≤ 1048576)
def OpenSpec.upto (s : _root_.Go.ChangeSpec) : _root_.Go.OpenSpec := { _root_.Go.OpenSpec.ofChange s with cond := some uptoSmall }

/-- 'phaetonlaw16.TrustTells', WHERE WHAT IT READS IS OF BULK AT MOST 1048576: true; the input reads as it did. -/
def trustTellsUptoRow : OpenClaim := { program := "ytfjffajmagefkaa", sum := "6bedb3f7644c98c168bcc45c77f5037c434a31455fa9b2a104bdc749d31e4209", func := "phaeton/phaetonlaw16.TrustTells", spec := "trustTells", apart := false, narrowed := true }
def TrustTellsUptoSaid : Prop := trustTellsUptoRow.holds Try.pinned (OpenSpec.upto trustTellsSpec)

/-- 'phaetonlaw16.TrustBack', WHERE WHAT IT READS IS OF BULK AT MOST 1048576: true; the input reads as it did. -/
def trustBackUptoRow : OpenClaim := { program := "ytfjffajmagefkaa", sum := "6bedb3f7644c98c168bcc45c77f5037c434a31455fa9b2a104bdc749d31e4209", func := "phaeton/phaetonlaw16.TrustBack", spec := "trustBack", apart := false, narrowed := true }
def TrustBackUptoSaid : Prop := trustBackUptoRow.holds Try.pinned (OpenSpec.upto trustBackSpec)

/-- 'phaetonlaw16.TrustOpen', WHERE WHAT IT READS IS OF BULK AT MOST 1048576: true; the input reads as it did. -/
def trustOpenUptoRow : OpenClaim := { program := "ytfjffajmagefkaa", sum := "6bedb3f7644c98c168bcc45c77f5037c434a31455fa9b2a104bdc749d31e4209", func := "phaeton/phaetonlaw16.TrustOpen", spec := "trustOpen", apart := false, narrowed := true }
def TrustOpenUptoSaid : Prop := trustOpenUptoRow.holds Try.pinned (OpenSpec.upto trustOpenSpec)

/-- 'phaetonlaw16.TrustOther', WHERE WHAT IT READS IS OF BULK AT MOST 1048576: true; the input reads as it did. -/
def trustOtherUptoRow : OpenClaim := { program := "ytfjffajmagefkaa", sum := "6bedb3f7644c98c168bcc45c77f5037c434a31455fa9b2a104bdc749d31e4209", func := "phaeton/phaetonlaw16.TrustOther", spec := "trustOther", apart := false, narrowed := true }
def TrustOtherUptoSaid : Prop := trustOtherUptoRow.holds Try.pinned (OpenSpec.upto trustOtherSpec)

/-- 'phaetonlaw16.TrustRow', WHERE WHAT IT READS IS OF BULK AT MOST 1048576: true; the input reads as it did. -/
def trustRowUptoRow : OpenClaim := { program := "ytfjffajmagefkaa", sum := "6bedb3f7644c98c168bcc45c77f5037c434a31455fa9b2a104bdc749d31e4209", func := "phaeton/phaetonlaw16.TrustRow", spec := "trustRow", apart := false, narrowed := true }
def TrustRowUptoSaid : Prop := trustRowUptoRow.holds Try.pinned (OpenSpec.upto trustRowSpec)

/-- 'phaetonlaw16.TrustStale', WHERE WHAT IT READS IS OF BULK AT MOST 1048576: true; the input reads as it did. -/
def trustStaleUptoRow : OpenClaim := { program := "ytfjffajmagefkaa", sum := "6bedb3f7644c98c168bcc45c77f5037c434a31455fa9b2a104bdc749d31e4209", func := "phaeton/phaetonlaw16.TrustStale", spec := "trustStale", apart := false, narrowed := true }
def TrustStaleUptoSaid : Prop := trustStaleUptoRow.holds Try.pinned (OpenSpec.upto trustStaleSpec)

/-- 'phaetonlaw16.TrustAlone', WHERE WHAT IT READS IS OF BULK AT MOST 1048576: true; the input reads as it did. -/
def trustAloneUptoRow : OpenClaim := { program := "ytfjffajmagefkaa", sum := "6bedb3f7644c98c168bcc45c77f5037c434a31455fa9b2a104bdc749d31e4209", func := "phaeton/phaetonlaw16.TrustAlone", spec := "trustAlone", apart := false, narrowed := true }
def TrustAloneUptoSaid : Prop := trustAloneUptoRow.holds Try.pinned (OpenSpec.upto trustAloneSpec)

end Rows
end Go.Proofs.Ytfjffajmagefkaa

/-
  No cell of these rows narrows 'for every input' (looked for: loops, veiled, ifaces, maps, wideKeys, modest, calm, conditions, laid).
  DERIVED. THE GIVEN ROWS OF THIS SEAT. 8 by the template 'for every input the law returns true; each argument reads behind the call as it read before'; 0 by the template 'total and deterministic' (their statements: YtfgbcpdlhdgofaaTotals.lean).
  GIVEN WITH THE SEED: the statements are not yours to turn. If you find one false, say at which input.
  Laid BY PROGRAM, IN A SANDBOX (cutbox-rows.mjs): the forced cells as the released guide's own fill.sh prints them over the translation 0ab2efc3fb19d382… (all of the seat's roots in one cut). By AI agents, Wed Nov 11 2026. No macro, syntax, notation, axiom, sorry.
-/
import Derived.Test.YtfgbcpdlhdgofaaChecked
import GoSem.Claim
import GoSem.ClaimJoined
import GoSem.ClaimMapViews
import Derived.JoinedTies
import Derived.KernelRfl
namespace Go.Proofs.Ytfgbcpdlhdgofaa
/- THE CELL 'sum', in the pinned program and in every row, IS THE sha256 OF THE DUMP (.gsa) THAT YtfgbcpdlhdgofaaProg.lean LOADS. Nothing in Lean hashes anything: it is a label: what it is worth is what the hold of that sum in a sandbox is worth. -/
noncomputable def Try.pinned : Pinned := { name := "ytfgbcpdlhdgofaa", sum := "0ab2efc3fb19d382c820d49b14cbb2eaf2627eef68b528062400dc4c443bc735", checked := Try.checked }
namespace Rows
def none {H : Type} : Left H := { results := [], args := [] }

/-- 'phaetonlaw24.ImageTells': WHATEVER THE INPUT: true; the input reads as it did. -/
def imageTellsSpec : ChangeSpec := { name := "imageTells", fn := fun _ => fun
  | [d1, d2, d3] => { results := [.lit (.bool true)], args := [d1, d2, d3] }
  | _ => none }
def imageTellsRow : OpenClaim := { program := "ytfgbcpdlhdgofaa", sum := "0ab2efc3fb19d382c820d49b14cbb2eaf2627eef68b528062400dc4c443bc735", func := "phaeton/phaetonlaw24.ImageTells", spec := "imageTells", unfollowed := true, recurses := true, apart := false }
def ImageTellsSaid : Prop := imageTellsRow.holds Try.pinned (OpenSpec.ofChange imageTellsSpec)

/-- ITS FALSE NEIGHBOUR: 'it returns false'. Refute it at one input. -/
def imageTellsWrong : ChangeSpec := { name := "imageTells", fn := fun _ => fun
  | [d1, d2, d3] => { results := [.lit (.bool false)], args := [d1, d2, d3] }
  | _ => none }
def ImageTellsWrongFalsely : Prop := imageTellsRow.holds Try.pinned (OpenSpec.ofChange imageTellsWrong)

/-- 'phaetonlaw24.ImageBack': WHATEVER THE INPUT: true; the input reads as it did. -/
def imageBackSpec : ChangeSpec := { name := "imageBack", fn := fun _ => fun
  | [d1, d2, d3] => { results := [.lit (.bool true)], args := [d1, d2, d3] }
  | _ => none }
def imageBackRow : OpenClaim := { program := "ytfgbcpdlhdgofaa", sum := "0ab2efc3fb19d382c820d49b14cbb2eaf2627eef68b528062400dc4c443bc735", func := "phaeton/phaetonlaw24.ImageBack", spec := "imageBack", unfollowed := true, recurses := true, apart := false }
def ImageBackSaid : Prop := imageBackRow.holds Try.pinned (OpenSpec.ofChange imageBackSpec)

/-- ITS FALSE NEIGHBOUR: 'it returns false'. Refute it at one input. -/
def imageBackWrong : ChangeSpec := { name := "imageBack", fn := fun _ => fun
  | [d1, d2, d3] => { results := [.lit (.bool false)], args := [d1, d2, d3] }
  | _ => none }
def ImageBackWrongFalsely : Prop := imageBackRow.holds Try.pinned (OpenSpec.ofChange imageBackWrong)

/-- 'phaetonlaw24.ImageBurst': WHATEVER THE INPUT: true; the input reads as it did. -/
def imageBurstSpec : ChangeSpec := { name := "imageBurst", fn := fun _ => fun
  | [d1, d2, d3] => { results := [.lit (.bool true)], args := [d1, d2, d3] }
  | _ => none }
def imageBurstRow : OpenClaim := { program := "ytfgbcpdlhdgofaa", sum := "0ab2efc3fb19d382c820d49b14cbb2eaf2627eef68b528062400dc4c443bc735", func := "phaeton/phaetonlaw24.ImageBurst", spec := "imageBurst", unfollowed := true, recurses := true, apart := false }
def ImageBurstSaid : Prop := imageBurstRow.holds Try.pinned (OpenSpec.ofChange imageBurstSpec)

/-- ITS FALSE NEIGHBOUR: 'it returns false'. Refute it at one input. -/
def imageBurstWrong : ChangeSpec := { name := "imageBurst", fn := fun _ => fun
  | [d1, d2, d3] => { results := [.lit (.bool false)], args := [d1, d2, d3] }
  | _ => none }
def ImageBurstWrongFalsely : Prop := imageBurstRow.holds Try.pinned (OpenSpec.ofChange imageBurstWrong)

/-- 'phaetonlaw24.ImageCut': WHATEVER THE INPUT: true; the input reads as it did. -/
def imageCutSpec : ChangeSpec := { name := "imageCut", fn := fun _ => fun
  | [d1, d2, d3] => { results := [.lit (.bool true)], args := [d1, d2, d3] }
  | _ => none }
def imageCutRow : OpenClaim := { program := "ytfgbcpdlhdgofaa", sum := "0ab2efc3fb19d382c820d49b14cbb2eaf2627eef68b528062400dc4c443bc735", func := "phaeton/phaetonlaw24.ImageCut", spec := "imageCut", unfollowed := true, recurses := true, apart := false }
def ImageCutSaid : Prop := imageCutRow.holds Try.pinned (OpenSpec.ofChange imageCutSpec)

/-- ITS FALSE NEIGHBOUR: 'it returns false'. Refute it at one input. -/
def imageCutWrong : ChangeSpec := { name := "imageCut", fn := fun _ => fun
  | [d1, d2, d3] => { results := [.lit (.bool false)], args := [d1, d2, d3] }
  | _ => none }
def ImageCutWrongFalsely : Prop := imageCutRow.holds Try.pinned (OpenSpec.ofChange imageCutWrong)

/-- 'phaetonlaw24.ImageSeal': WHATEVER THE INPUT: true; the input reads as it did. -/
def imageSealSpec : ChangeSpec := { name := "imageSeal", fn := fun _ => fun
  | [d1, d2, d3] => { results := [.lit (.bool true)], args := [d1, d2, d3] }
  | _ => none }
def imageSealRow : OpenClaim := { program := "ytfgbcpdlhdgofaa", sum := "0ab2efc3fb19d382c820d49b14cbb2eaf2627eef68b528062400dc4c443bc735", func := "phaeton/phaetonlaw24.ImageSeal", spec := "imageSeal", unfollowed := true, recurses := true, apart := false }
def ImageSealSaid : Prop := imageSealRow.holds Try.pinned (OpenSpec.ofChange imageSealSpec)

/-- ITS FALSE NEIGHBOUR: 'it returns false'. Refute it at one input. -/
def imageSealWrong : ChangeSpec := { name := "imageSeal", fn := fun _ => fun
  | [d1, d2, d3] => { results := [.lit (.bool false)], args := [d1, d2, d3] }
  | _ => none }
def ImageSealWrongFalsely : Prop := imageSealRow.holds Try.pinned (OpenSpec.ofChange imageSealWrong)

/-- 'phaetonlaw24.ImageBlocks': WHATEVER THE INPUT: true; the input reads as it did. -/
def imageBlocksSpec : ChangeSpec := { name := "imageBlocks", fn := fun _ => fun
  | [d] => { results := [.lit (.bool true)], args := [d] }
  | _ => none }
def imageBlocksRow : OpenClaim := { program := "ytfgbcpdlhdgofaa", sum := "0ab2efc3fb19d382c820d49b14cbb2eaf2627eef68b528062400dc4c443bc735", func := "phaeton/phaetonlaw24.ImageBlocks", spec := "imageBlocks", unfollowed := true, recurses := true, apart := false }
def ImageBlocksSaid : Prop := imageBlocksRow.holds Try.pinned (OpenSpec.ofChange imageBlocksSpec)

/-- ITS FALSE NEIGHBOUR: 'it returns false'. Refute it at one input. -/
def imageBlocksWrong : ChangeSpec := { name := "imageBlocks", fn := fun _ => fun
  | [d] => { results := [.lit (.bool false)], args := [d] }
  | _ => none }
def ImageBlocksWrongFalsely : Prop := imageBlocksRow.holds Try.pinned (OpenSpec.ofChange imageBlocksWrong)

/-- 'phaetonlaw24.ImageFields': WHATEVER THE INPUT: true; the input reads as it did. -/
def imageFieldsSpec : ChangeSpec := { name := "imageFields", fn := fun _ => fun
  | [d1, d2] => { results := [.lit (.bool true)], args := [d1, d2] }
  | _ => none }
def imageFieldsRow : OpenClaim := { program := "ytfgbcpdlhdgofaa", sum := "0ab2efc3fb19d382c820d49b14cbb2eaf2627eef68b528062400dc4c443bc735", func := "phaeton/phaetonlaw24.ImageFields", spec := "imageFields", unfollowed := true, recurses := true, apart := false }
def ImageFieldsSaid : Prop := imageFieldsRow.holds Try.pinned (OpenSpec.ofChange imageFieldsSpec)

/-- ITS FALSE NEIGHBOUR: 'it returns false'. Refute it at one input. -/
def imageFieldsWrong : ChangeSpec := { name := "imageFields", fn := fun _ => fun
  | [d1, d2] => { results := [.lit (.bool false)], args := [d1, d2] }
  | _ => none }
def ImageFieldsWrongFalsely : Prop := imageFieldsRow.holds Try.pinned (OpenSpec.ofChange imageFieldsWrong)

/-- 'phaetonlaw24.ImageOne': WHATEVER THE INPUT: true; the input reads as it did. -/
def imageOneSpec : ChangeSpec := { name := "imageOne", fn := fun _ => fun
  | [d1, d2, d3] => { results := [.lit (.bool true)], args := [d1, d2, d3] }
  | _ => none }
def imageOneRow : OpenClaim := { program := "ytfgbcpdlhdgofaa", sum := "0ab2efc3fb19d382c820d49b14cbb2eaf2627eef68b528062400dc4c443bc735", func := "phaeton/phaetonlaw24.ImageOne", spec := "imageOne", unfollowed := true, recurses := true, apart := false }
def ImageOneSaid : Prop := imageOneRow.holds Try.pinned (OpenSpec.ofChange imageOneSpec)

/-- ITS FALSE NEIGHBOUR: 'it returns false'. Refute it at one input. -/
def imageOneWrong : ChangeSpec := { name := "imageOne", fn := fun _ => fun
  | [d1, d2, d3] => { results := [.lit (.bool false)], args := [d1, d2, d3] }
  | _ => none }
def ImageOneWrongFalsely : Prop := imageOneRow.holds Try.pinned (OpenSpec.ofChange imageOneWrong)

/- THE SECOND FORM. 'bulk': how many values and letters a reading holds, each counted each time it is reached (what is shared counts as often as it is met; a slice's spare places count too). A statement '..UptoSaid' is the law's where the arguments, and the package variables that the reading takes, are together of bulk at most 1048576: NARROWER than '..Said'. Prove '..Said' where nothing that the law and all that it calls make is longer than what came in: it says more and counts as full. Else prove '..UptoSaid'. A law counts once. -/
mutual
def uptoBulk {H : Type} : DataW H → Nat
  | .lit (.string bytes) => bytes.length + 1
  | .lit _ => 1
  | .nil => 1
  | .ptr d => uptoBulk d + 1
  | .slice elems spare => uptoBulkAll elems + uptoBulkAll spare + 1
  | .agg parts => uptoBulkAll parts + 1
  | .iface _ d => uptoBulk d + 1
  | .map entries => uptoBulkEntries entries + 1
  | .held _ => 1
def uptoBulkAll {H : Type} : List (DataW H) → Nat
  | [] => 0
  | d :: r => uptoBulk d + uptoBulkAll r
def uptoBulkEntries {H : Type} : List (Lit × DataW H) → Nat
  | [] => 0
  | x :: r => uptoBulkEntry x + uptoBulkEntries r
def uptoBulkEntry {H : Type} : Lit × DataW H → Nat
  | (.string bytes, d) => bytes.length + uptoBulk d + 1
  | (_, d) => uptoBulk d + 1
 end
def uptoSmall : (H : Type) → List (DataW H) → Bool := fun _ ds => decide (uptoBulkAll ds ≤ 1048576)
def OpenSpec.upto (s : _root_.Go.ChangeSpec) : _root_.Go.OpenSpec := { _root_.Go.OpenSpec.ofChange s with cond := some uptoSmall }

/-- 'phaetonlaw24.ImageTells', WHERE WHAT IT READS IS OF BULK AT MOST 1048576: true; the input reads as it did. -/
def imageTellsUptoRow : OpenClaim := { program := "ytfgbcpdlhdgofaa", sum := "0ab2efc3fb19d382c820d49b14cbb2eaf2627eef68b528062400dc4c443bc735", func := "phaeton/phaetonlaw24.ImageTells", spec := "imageTells", unfollowed := true, recurses := true, apart := false, narrowed := true }
def ImageTellsUptoSaid : Prop := imageTellsUptoRow.holds Try.pinned (OpenSpec.upto imageTellsSpec)

/-- 'phaetonlaw24.ImageBack', WHERE WHAT IT READS IS OF BULK AT MOST 1048576: true; the input reads as it did. -/
def imageBackUptoRow : OpenClaim := { program := "ytfgbcpdlhdgofaa", sum := "0ab2efc3fb19d382c820d49b14cbb2eaf2627eef68b528062400dc4c443bc735", func := "phaeton/phaetonlaw24.ImageBack", spec := "imageBack", unfollowed := true, recurses := true, apart := false, narrowed := true }
def ImageBackUptoSaid : Prop := imageBackUptoRow.holds Try.pinned (OpenSpec.upto imageBackSpec)

/-- 'phaetonlaw24.ImageBurst', WHERE WHAT IT READS IS OF BULK AT MOST 1048576: true; the input reads as it did. -/
def imageBurstUptoRow : OpenClaim := { program := "ytfgbcpdlhdgofaa", sum := "0ab2efc3fb19d382c820d49b14cbb2eaf2627eef68b528062400dc4c443bc735", func := "phaeton/phaetonlaw24.ImageBurst", spec := "imageBurst", unfollowed := true, recurses := true, apart := false, narrowed := true }
def ImageBurstUptoSaid : Prop := imageBurstUptoRow.holds Try.pinned (OpenSpec.upto imageBurstSpec)

/-- 'phaetonlaw24.ImageCut', WHERE WHAT IT READS IS OF BULK AT MOST 1048576: true; the input reads as it did. -/
def imageCutUptoRow : OpenClaim := { program := "ytfgbcpdlhdgofaa", sum := "0ab2efc3fb19d382c820d49b14cbb2eaf2627eef68b528062400dc4c443bc735", func := "phaeton/phaetonlaw24.ImageCut", spec := "imageCut", unfollowed := true, recurses := true, apart := false, narrowed := true }
def ImageCutUptoSaid : Prop := imageCutUptoRow.holds Try.pinned (OpenSpec.upto imageCutSpec)

/-- 'phaetonlaw24.ImageSeal', WHERE WHAT IT READS IS OF BULK AT MOST 1048576: true; the input reads as it did. -/
def imageSealUptoRow : OpenClaim := { program := "ytfgbcpdlhdgofaa", sum := "0ab2efc3fb19d382c820d49b14cbb2eaf2627eef68b528062400dc4c443bc735", func := "phaeton/phaetonlaw24.ImageSeal", spec := "imageSeal", unfollowed := true, recurses := true, apart := false, narrowed := true }
def ImageSealUptoSaid : Prop := imageSealUptoRow.holds Try.pinned (OpenSpec.upto imageSealSpec)

/-- 'phaetonlaw24.ImageBlocks', WHERE WHAT IT READS IS OF BULK AT MOST 1048576: true; the input reads as it did. -/
def imageBlocksUptoRow : OpenClaim := { program := "ytfgbcpdlhdgofaa", sum := "0ab2efc3fb19d382c820d49b14cbb2eaf2627eef68b528062400dc4c443bc735", func := "phaeton/phaetonlaw24.ImageBlocks", spec := "imageBlocks", unfollowed := true, recurses := true, apart := false, narrowed := true }
def ImageBlocksUptoSaid : Prop := imageBlocksUptoRow.holds Try.pinned (OpenSpec.upto imageBlocksSpec)

/-- 'phaetonlaw24.ImageFields', WHERE WHAT IT READS IS OF BULK AT MOST 1048576: true; the input reads as it did. -/
def imageFieldsUptoRow : OpenClaim := { program := "ytfgbcpdlhdgofaa", sum := "0ab2efc3fb19d382c820d49b14cbb2eaf2627eef68b528062400dc4c443bc735", func := "phaeton/phaetonlaw24.ImageFields", spec := "imageFields", unfollowed := true, recurses := true, apart := false, narrowed := true }
def ImageFieldsUptoSaid : Prop := imageFieldsUptoRow.holds Try.pinned (OpenSpec.upto imageFieldsSpec)

/-- 'phaetonlaw24.ImageOne', WHERE WHAT IT READS IS OF BULK AT MOST 1048576: true; the input reads as it did. -/
def imageOneUptoRow : OpenClaim := { program := "ytfgbcpdlhdgofaa", sum := "0ab2efc3fb19d382c820d49b14cbb2eaf2627eef68b528062400dc4c443bc735", func := "phaeton/phaetonlaw24.ImageOne", spec := "imageOne", unfollowed := true, recurses := true, apart := false, narrowed := true }
def ImageOneUptoSaid : Prop := imageOneUptoRow.holds Try.pinned (OpenSpec.upto imageOneSpec)

end Rows
end Go.Proofs.Ytfgbcpdlhdgofaa

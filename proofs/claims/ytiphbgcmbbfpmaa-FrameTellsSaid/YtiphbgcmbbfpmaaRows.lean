/-
  No cell of these rows narrows 'for every input' (looked for: loops, veiled, ifaces, maps, wideKeys, modest, calm, conditions, laid).
  DERIVED. THE GIVEN ROWS OF THIS SEAT. 7 by the template 'for every input the law returns true; each argument reads behind the call as it read before'; 0 by the template 'total and deterministic' (their statements: YtiphbgcmbbfpmaaTotals.lean).
  GIVEN WITH THE SEED: the statements are not yours to turn. If you find one false, say at which input.
  Laid BY PROGRAM, IN A SANDBOX (cutbox-rows.mjs): the forced cells as the released guide's own fill.sh prints them over the translation a824909a766f4661… (all of the seat's roots in one cut). By AI agents, Wed Nov 11 2026. No macro, syntax, notation, axiom, sorry.
-/
import Derived.Test.YtiphbgcmbbfpmaaChecked
import GoSem.Claim
import GoSem.ClaimJoined
import GoSem.ClaimMapViews
import Derived.JoinedTies
import Derived.KernelRfl
namespace Go.Proofs.Ytiphbgcmbbfpmaa
/- THE CELL 'sum', in the pinned program and in every row, IS THE sha256 OF THE DUMP (.gsa) THAT YtiphbgcmbbfpmaaProg.lean LOADS. Nothing in Lean hashes anything: it is a label: what it is worth is what the hold of that sum in a sandbox is worth. -/
noncomputable def Try.pinned : Pinned := { name := "ytiphbgcmbbfpmaa", sum := "a824909a766f466184ba4ebb41a9487cf2d755b076a514a97208801a341f2c58", checked := Try.checked }
namespace Rows
def none {H : Type} : Left H := { results := [], args := [] }

/-- 'phaetonlaw04.FrameTells': WHATEVER THE INPUT: true; the input reads as it did. -/
def frameTellsSpec : ChangeSpec := { name := "frameTells", fn := fun _ => fun
  | [d1, d2, d3] => { results := [.lit (.bool true)], args := [d1, d2, d3] }
  | _ => none }
def frameTellsRow : OpenClaim := { program := "ytiphbgcmbbfpmaa", sum := "a824909a766f466184ba4ebb41a9487cf2d755b076a514a97208801a341f2c58", func := "phaeton/phaetonlaw04.FrameTells", spec := "frameTells", unfollowed := true, recurses := true, apart := false }
def FrameTellsSaid : Prop := frameTellsRow.holds Try.pinned (OpenSpec.ofChange frameTellsSpec)

/-- ITS FALSE NEIGHBOUR: 'it returns false'. Refute it at one input. -/
def frameTellsWrong : ChangeSpec := { name := "frameTells", fn := fun _ => fun
  | [d1, d2, d3] => { results := [.lit (.bool false)], args := [d1, d2, d3] }
  | _ => none }
def FrameTellsWrongFalsely : Prop := frameTellsRow.holds Try.pinned (OpenSpec.ofChange frameTellsWrong)

/-- 'phaetonlaw04.FrameBack': WHATEVER THE INPUT: true; the input reads as it did. -/
def frameBackSpec : ChangeSpec := { name := "frameBack", fn := fun _ => fun
  | [d1, d2, d3] => { results := [.lit (.bool true)], args := [d1, d2, d3] }
  | _ => none }
def frameBackRow : OpenClaim := { program := "ytiphbgcmbbfpmaa", sum := "a824909a766f466184ba4ebb41a9487cf2d755b076a514a97208801a341f2c58", func := "phaeton/phaetonlaw04.FrameBack", spec := "frameBack", unfollowed := true, recurses := true, apart := false }
def FrameBackSaid : Prop := frameBackRow.holds Try.pinned (OpenSpec.ofChange frameBackSpec)

/-- ITS FALSE NEIGHBOUR: 'it returns false'. Refute it at one input. -/
def frameBackWrong : ChangeSpec := { name := "frameBack", fn := fun _ => fun
  | [d1, d2, d3] => { results := [.lit (.bool false)], args := [d1, d2, d3] }
  | _ => none }
def FrameBackWrongFalsely : Prop := frameBackRow.holds Try.pinned (OpenSpec.ofChange frameBackWrong)

/-- 'phaetonlaw04.FrameBits': WHATEVER THE INPUT: true; the input reads as it did. -/
def frameBitsSpec : ChangeSpec := { name := "frameBits", fn := fun _ => fun
  | [d] => { results := [.lit (.bool true)], args := [d] }
  | _ => none }
def frameBitsRow : OpenClaim := { program := "ytiphbgcmbbfpmaa", sum := "a824909a766f466184ba4ebb41a9487cf2d755b076a514a97208801a341f2c58", func := "phaeton/phaetonlaw04.FrameBits", spec := "frameBits", unfollowed := true, recurses := true, apart := false }
def FrameBitsSaid : Prop := frameBitsRow.holds Try.pinned (OpenSpec.ofChange frameBitsSpec)

/-- ITS FALSE NEIGHBOUR: 'it returns false'. Refute it at one input. -/
def frameBitsWrong : ChangeSpec := { name := "frameBits", fn := fun _ => fun
  | [d] => { results := [.lit (.bool false)], args := [d] }
  | _ => none }
def FrameBitsWrongFalsely : Prop := frameBitsRow.holds Try.pinned (OpenSpec.ofChange frameBitsWrong)

/-- 'phaetonlaw04.FrameRank': WHATEVER THE INPUT: true; the input reads as it did. -/
def frameRankSpec : ChangeSpec := { name := "frameRank", fn := fun _ => fun
  | [d1, d2] => { results := [.lit (.bool true)], args := [d1, d2] }
  | _ => none }
def frameRankRow : OpenClaim := { program := "ytiphbgcmbbfpmaa", sum := "a824909a766f466184ba4ebb41a9487cf2d755b076a514a97208801a341f2c58", func := "phaeton/phaetonlaw04.FrameRank", spec := "frameRank", unfollowed := true, recurses := true, apart := false }
def FrameRankSaid : Prop := frameRankRow.holds Try.pinned (OpenSpec.ofChange frameRankSpec)

/-- ITS FALSE NEIGHBOUR: 'it returns false'. Refute it at one input. -/
def frameRankWrong : ChangeSpec := { name := "frameRank", fn := fun _ => fun
  | [d1, d2] => { results := [.lit (.bool false)], args := [d1, d2] }
  | _ => none }
def FrameRankWrongFalsely : Prop := frameRankRow.holds Try.pinned (OpenSpec.ofChange frameRankWrong)

/-- 'phaetonlaw04.FrameOrder': WHATEVER THE INPUT: true; the input reads as it did. -/
def frameOrderSpec : ChangeSpec := { name := "frameOrder", fn := fun _ => fun
  | [d1, d2] => { results := [.lit (.bool true)], args := [d1, d2] }
  | _ => none }
def frameOrderRow : OpenClaim := { program := "ytiphbgcmbbfpmaa", sum := "a824909a766f466184ba4ebb41a9487cf2d755b076a514a97208801a341f2c58", func := "phaeton/phaetonlaw04.FrameOrder", spec := "frameOrder", unfollowed := true, recurses := true, apart := false }
def FrameOrderSaid : Prop := frameOrderRow.holds Try.pinned (OpenSpec.ofChange frameOrderSpec)

/-- ITS FALSE NEIGHBOUR: 'it returns false'. Refute it at one input. -/
def frameOrderWrong : ChangeSpec := { name := "frameOrder", fn := fun _ => fun
  | [d1, d2] => { results := [.lit (.bool false)], args := [d1, d2] }
  | _ => none }
def FrameOrderWrongFalsely : Prop := frameOrderRow.holds Try.pinned (OpenSpec.ofChange frameOrderWrong)

/-- 'phaetonlaw04.FrameLengths': WHATEVER THE INPUT: true; the input reads as it did. -/
def frameLengthsSpec : ChangeSpec := { name := "frameLengths", fn := fun _ => fun
  | [d1, d2] => { results := [.lit (.bool true)], args := [d1, d2] }
  | _ => none }
def frameLengthsRow : OpenClaim := { program := "ytiphbgcmbbfpmaa", sum := "a824909a766f466184ba4ebb41a9487cf2d755b076a514a97208801a341f2c58", func := "phaeton/phaetonlaw04.FrameLengths", spec := "frameLengths", unfollowed := true, recurses := true, apart := false }
def FrameLengthsSaid : Prop := frameLengthsRow.holds Try.pinned (OpenSpec.ofChange frameLengthsSpec)

/-- ITS FALSE NEIGHBOUR: 'it returns false'. Refute it at one input. -/
def frameLengthsWrong : ChangeSpec := { name := "frameLengths", fn := fun _ => fun
  | [d1, d2] => { results := [.lit (.bool false)], args := [d1, d2] }
  | _ => none }
def FrameLengthsWrongFalsely : Prop := frameLengthsRow.holds Try.pinned (OpenSpec.ofChange frameLengthsWrong)

/-- 'phaetonlaw04.FrameData': WHATEVER THE INPUT: true; the input reads as it did. -/
def frameDataSpec : ChangeSpec := { name := "frameData", fn := fun _ => fun
  | [d1, d2] => { results := [.lit (.bool true)], args := [d1, d2] }
  | _ => none }
def frameDataRow : OpenClaim := { program := "ytiphbgcmbbfpmaa", sum := "a824909a766f466184ba4ebb41a9487cf2d755b076a514a97208801a341f2c58", func := "phaeton/phaetonlaw04.FrameData", spec := "frameData", unfollowed := true, recurses := true, apart := false }
def FrameDataSaid : Prop := frameDataRow.holds Try.pinned (OpenSpec.ofChange frameDataSpec)

/-- ITS FALSE NEIGHBOUR: 'it returns false'. Refute it at one input. -/
def frameDataWrong : ChangeSpec := { name := "frameData", fn := fun _ => fun
  | [d1, d2] => { results := [.lit (.bool false)], args := [d1, d2] }
  | _ => none }
def FrameDataWrongFalsely : Prop := frameDataRow.holds Try.pinned (OpenSpec.ofChange frameDataWrong)

/- THE SECOND FORM. 'bulk': how many values and letters a reading holds, each counted each time it is reached (what is shared counts as often as it is met; a slice's spare places count too). A statement '..UptoSaid' is the law's where the arguments, and the package variables that the reading takes, are together of bulk at most 1048576: NARROWER than '..Said'. Prove '..Said' where nothing that the law and all that it calls make is longer than what came in: it says more and counts as full. Else prove '..UptoSaid'. A law counts once. -/
mutual
def uptoBulk {H : Type} : DataW H → Nat
  | .lit (.string bytes) => bytes.length + 1
  | .lit _ => 1
  | .nil => 1
  | .ptr d => uptoBulk d + 1
  | .slice elems spare => uptoBulkAll elems + uptoBulkAll spare + 1
  | .agg parts => uptoBulkAll parts + 1
  | .iface _ d => uptoBulk d + 1
  | .map entries => uptoBulkEntries entries + 1
  | .held _ => 1
def uptoBulkAll {H : Type} : List (DataW H) → Nat
  | [] => 0
  | d :: r => uptoBulk d + uptoBulkAll r
def uptoBulkEntries {H : Type} : List (Lit × DataW H) → Nat
  | [] => 0
  | x :: r => uptoBulkEntry x + uptoBulkEntries r
def uptoBulkEntry {H : Type} : Lit × DataW H → Nat
  | (.string bytes, d) => bytes.length + uptoBulk d + 1
  | (_, d) => uptoBulk d + 1
 end
def uptoSmall : (H : Type) → List (DataW H) → Bool := fun _ ds => decide (uptoBulkAll ds ≤ 1048576)
def OpenSpec.upto (s : _root_.Go.ChangeSpec) : _root_.Go.OpenSpec := { _root_.Go.OpenSpec.ofChange s with cond := some uptoSmall }

/-- 'phaetonlaw04.FrameTells', WHERE WHAT IT READS IS OF BULK AT MOST 1048576: true; the input reads as it did. -/
def frameTellsUptoRow : OpenClaim := { program := "ytiphbgcmbbfpmaa", sum := "a824909a766f466184ba4ebb41a9487cf2d755b076a514a97208801a341f2c58", func := "phaeton/phaetonlaw04.FrameTells", spec := "frameTells", unfollowed := true, recurses := true, apart := false, narrowed := true }
def FrameTellsUptoSaid : Prop := frameTellsUptoRow.holds Try.pinned (OpenSpec.upto frameTellsSpec)

/-- 'phaetonlaw04.FrameBack', WHERE WHAT IT READS IS OF BULK AT MOST 1048576: true; the input reads as it did. -/
def frameBackUptoRow : OpenClaim := { program := "ytiphbgcmbbfpmaa", sum := "a824909a766f466184ba4ebb41a9487cf2d755b076a514a97208801a341f2c58", func := "phaeton/phaetonlaw04.FrameBack", spec := "frameBack", unfollowed := true, recurses := true, apart := false, narrowed := true }
def FrameBackUptoSaid : Prop := frameBackUptoRow.holds Try.pinned (OpenSpec.upto frameBackSpec)

/-- 'phaetonlaw04.FrameBits', WHERE WHAT IT READS IS OF BULK AT MOST 1048576: true; the input reads as it did. -/
def frameBitsUptoRow : OpenClaim := { program := "ytiphbgcmbbfpmaa", sum := "a824909a766f466184ba4ebb41a9487cf2d755b076a514a97208801a341f2c58", func := "phaeton/phaetonlaw04.FrameBits", spec := "frameBits", unfollowed := true, recurses := true, apart := false, narrowed := true }
def FrameBitsUptoSaid : Prop := frameBitsUptoRow.holds Try.pinned (OpenSpec.upto frameBitsSpec)

/-- 'phaetonlaw04.FrameRank', WHERE WHAT IT READS IS OF BULK AT MOST 1048576: true; the input reads as it did. -/
def frameRankUptoRow : OpenClaim := { program := "ytiphbgcmbbfpmaa", sum := "a824909a766f466184ba4ebb41a9487cf2d755b076a514a97208801a341f2c58", func := "phaeton/phaetonlaw04.FrameRank", spec := "frameRank", unfollowed := true, recurses := true, apart := false, narrowed := true }
def FrameRankUptoSaid : Prop := frameRankUptoRow.holds Try.pinned (OpenSpec.upto frameRankSpec)

/-- 'phaetonlaw04.FrameOrder', WHERE WHAT IT READS IS OF BULK AT MOST 1048576: true; the input reads as it did. -/
def frameOrderUptoRow : OpenClaim := { program := "ytiphbgcmbbfpmaa", sum := "a824909a766f466184ba4ebb41a9487cf2d755b076a514a97208801a341f2c58", func := "phaeton/phaetonlaw04.FrameOrder", spec := "frameOrder", unfollowed := true, recurses := true, apart := false, narrowed := true }
def FrameOrderUptoSaid : Prop := frameOrderUptoRow.holds Try.pinned (OpenSpec.upto frameOrderSpec)

/-- 'phaetonlaw04.FrameLengths', WHERE WHAT IT READS IS OF BULK AT MOST 1048576: true; the input reads as it did. -/
def frameLengthsUptoRow : OpenClaim := { program := "ytiphbgcmbbfpmaa", sum := "a824909a766f466184ba4ebb41a9487cf2d755b076a514a97208801a341f2c58", func := "phaeton/phaetonlaw04.FrameLengths", spec := "frameLengths", unfollowed := true, recurses := true, apart := false, narrowed := true }
def FrameLengthsUptoSaid : Prop := frameLengthsUptoRow.holds Try.pinned (OpenSpec.upto frameLengthsSpec)

/-- 'phaetonlaw04.FrameData', WHERE WHAT IT READS IS OF BULK AT MOST 1048576: true; the input reads as it did. -/
def frameDataUptoRow : OpenClaim := { program := "ytiphbgcmbbfpmaa", sum := "a824909a766f466184ba4ebb41a9487cf2d755b076a514a97208801a341f2c58", func := "phaeton/phaetonlaw04.FrameData", spec := "frameData", unfollowed := true, recurses := true, apart := false, narrowed := true }
def FrameDataUptoSaid : Prop := frameDataUptoRow.holds Try.pinned (OpenSpec.upto frameDataSpec)

end Rows
end Go.Proofs.Ytiphbgcmbbfpmaa

/- Plain algebra of this session's own for sums over bits and bytes (CRC): a step that is linear and one-to-one. No program in sight. -/
import Derived.Test.YtechlakahpkdpaaHandBits
set_option linter.unusedVariables false
set_option linter.unusedSimpArgs false
namespace Go.Proofs.Ytechlakahpkdpaa.H
open Go.RowKit
section
variable {n : Nat}
structure Lin (L : BitVec n → BitVec n) : Prop where
 add : ∀ a b, L (a ^^^ b) = L a ^^^ L b
theorem Lin.zero {L : BitVec n → BitVec n} (h : Lin L) : L 0#n = 0#n := by
 have := h.add 0#n 0#n
 rw [BitVec.xor_self, BitVec.xor_self] at this
 exact this
def One (L : BitVec n → BitVec n) : Prop := ∀ a, L a = 0#n → a = 0#n
def atTop (n : Nat) (b : Bool) : BitVec n := if b then BitVec.twoPow n (n - 1) else 0#n
def top (n : Nat) : List Bool → BitVec n
 | [] => 0#n
 | b :: p => atTop n b ^^^ (top n p >>> 1)
end
def Low (k : Nat) (y : BitVec 32) : Prop := ∀ i, k ≤ i → y.getLsbD i = false
theorem Low.put {k : Nat} {d w : BitVec 32} (hd : Low 8 d) (hw : Low k w) : Low (k + 8) (d ^^^ w <<< 8) := fun i hi => by
 rw [BitVec.getLsbD_xor, BitVec.getLsbD_shiftLeft, hd i (by omega), hw (i - 8) (by omega)]; simp
end Go.Proofs.Ytechlakahpkdpaa.H

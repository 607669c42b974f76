/- Plain words of this session's own on rows of bits: whether a row is right, its number, its bytes. No program in sight. -/
import Derived.Test.YtfgbcpdlhdgofaaHand
set_option linter.unusedVariables false
set_option linter.unusedSimpArgs false
namespace Go.Proofs.Ytfgbcpdlhdgofaa.H
open Go.RowKit
def U8 (x : Int) : Prop := 0 ≤ x ∧ x ≤ 255
theorem of_wf8 {x : Int} (h : (Lit.int .u8 x).wf = true) : U8 x := by
  have hmin : IntKind.u8.min = 0 := rfl
  have hmax : IntKind.u8.max = 255 := rfl
  simp only [Lit.wf, Bool.and_eq_true, decide_eq_true_eq] at h
  unfold U8; omega
theorem of_wfu16 {x : Int} (h : (Lit.int .u16 x).wf = true) : 0 ≤ x ∧ x ≤ 65535 := by
  have hmin : IntKind.u16.min = 0 := rfl
  have hmax : IntKind.u16.max = 65535 := rfl
  simp only [Lit.wf, Bool.and_eq_true, decide_eq_true_eq] at h
  omega
theorem wrap_nat {n : Nat} (h : n ≤ 9223372036854775807) : wrap64 (n : Int) = n := by unfold wrap64; omega
theorem wrap_u8 {x : Int} (h : U8 x) : wrap64 x = x := by unfold U8 at h; unfold wrap64; omega
theorem wrap_succ {i n : Nat} (h : i < n) (hn : n ≤ 4611686018427387904) : wrap64 ((i : Int) + 1) = ((i + 1 : Nat) : Int) := by unfold wrap64; omega
end Go.Proofs.Ytfgbcpdlhdgofaa.H

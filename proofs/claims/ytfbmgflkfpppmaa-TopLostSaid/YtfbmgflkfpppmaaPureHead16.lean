/- The live question of layer 16's laws is answered: true; sums of guarded bytes. -/
import Derived.Test.YtfbmgflkfpppmaaPx1
import Derived.Test.YtfbmgflkfpppmaaPureBase
import Derived.Test.YtfbmgflkfpppmaaPx4
import Derived.Test.YtfbmgflkfpppmaaHandCrc
import Derived.Test.YtfbmgflkfpppmaaPureRef01
set_option linter.unusedVariables false
namespace Go.Proofs.Ytfbmgflkfpppmaa.PB
open Go.RowKit Go.Proofs.Ytfbmgflkfpppmaa.Px Go.Proofs.YtfbmgflkfpppmaaW.PrintWords Go.Proofs.YtfbmgflkfpppmaaW.PrintLast Go.Proofs.YtfbmgflkfpppmaaW.PrintMore
def tsum (a c : Int) (l : List Int) : Int := ((H.crcX ([(a / 256) % 256, a % 256, c % 256] ++ l) ^^^ 0xFF#8).toNat : Int)
theorem tsum_range (a c : Int) (l : List Int) : 0 ≤ tsum a c l ∧ tsum a c l < 256 := by
  unfold tsum; have := (H.crcX ([(a / 256) % 256, a % 256, c % 256] ++ l) ^^^ 0xFF#8).isLt; omega
theorem trustSum_eq (a c : Int) (l : List Int) (h : l.length ≤ 1000000) : trust_sum.f a c l = some (tsum a c l) := by
  have hr := tsum_range a c l
  have e : crc_Byte.f ([(a / 256) % 256, a % 256, c % 256] ++ l) = some (tsum a c l) := by
    unfold crc_Byte.f tsum
    congr 1
    have h := H.xor_i64 (H.crcX ([(a / 256) % 256, a % 256, c % 256] ++ l)).toNat 255 (by have := (H.crcX ([(a / 256) % 256, a % 256, c % 256] ++ l)).isLt; omega) (by decide)
    refine h.trans ?_
    rw [BitVec.toNat_xor]; rfl
  unfold trust_sum.f
  rw [Option.bind_some, if_pos (by simp only [List.length_cons, List.length_nil]; omega), e, Option.bind_some, show tsum a c l % 256 = tsum a c l by omega]
end Go.Proofs.Ytfbmgflkfpppmaa.PB

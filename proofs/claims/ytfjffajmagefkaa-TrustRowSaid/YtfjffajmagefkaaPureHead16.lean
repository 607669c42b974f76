/- The live question of layer 16's laws is answered: true; sums of guarded bytes. -/
import Derived.Test.YtfjffajmagefkaaPx4
import Derived.Test.YtfjffajmagefkaaPx2
import Derived.Test.YtfjffajmagefkaaPureBase
import Derived.Test.YtfjffajmagefkaaPx3
import Derived.Test.YtfjffajmagefkaaHandCrc
import Derived.Test.YtfjffajmagefkaaPureRef01
set_option linter.unusedVariables false
namespace Go.Proofs.Ytfjffajmagefkaa.PB
open Go.RowKit Go.Proofs.Ytfjffajmagefkaa.Px Go.Proofs.YtfjffajmagefkaaW.PrintWords Go.Proofs.YtfjffajmagefkaaW.PrintLast Go.Proofs.YtfjffajmagefkaaW.PrintMore
theorem head16_k : ∃ K, ∀ k, K ≤ k → phaetonlaw16_head.f k = some true := by
  refine ⟨40, fun k hk => at_rounds (g := fun k => phaetonlaw16_head.f k) phaetonlaw16_head.mono hk ?_⟩
  decide +kernel
def tsum (a c : Int) (l : List Int) : Int := ((H.crcX ([(a / 256) % 256, a % 256, c % 256] ++ l) ^^^ 0xFF#8).toNat : Int)
theorem tsum_range (a c : Int) (l : List Int) : 0 ≤ tsum a c l ∧ tsum a c l < 256 := by
  unfold tsum; have := (H.crcX ([(a / 256) % 256, a % 256, c % 256] ++ l) ^^^ 0xFF#8).isLt; omega
theorem trustSum_eq (a c : Int) (l : List Int) (h : l.length ≤ 1000000) : trust_sum.f a c l = some (tsum a c l) := by
  have hr := tsum_range a c l
  have e : crc_Byte.f ([(a / 256) % 256, a % 256, c % 256] ++ l) = some (tsum a c l) := by
    unfold crc_Byte.f tsum
    congr 1
    have h := H.xor_i64 (H.crcX ([(a / 256) % 256, a % 256, c % 256] ++ l)).toNat 255 (by have := (H.crcX ([(a / 256) % 256, a % 256, c % 256] ++ l)).isLt; omega) (by decide)
    refine h.trans ?_
    rw [BitVec.toNat_xor]; rfl
  unfold trust_sum.f
  rw [Option.bind_some, if_pos (by simp only [List.length_cons, List.length_nil]; omega), e, Option.bind_some, show tsum a c l % 256 = tsum a c l by omega]
end Go.Proofs.Ytfjffajmagefkaa.PB

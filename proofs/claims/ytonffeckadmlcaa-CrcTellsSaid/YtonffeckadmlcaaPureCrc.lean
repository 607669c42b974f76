/- What the printed functions on sums, and the document's answer to layer 2, come to: folds of a linear step. -/
import Derived.Test.YtonffeckadmlcaaHandCrc
import Derived.Test.YtonffeckadmlcaaPureRef01
import Derived.Test.YtonffeckadmlcaaPx1
set_option linter.unusedVariables false
set_option linter.unusedSimpArgs false
namespace Go.Proofs.Ytonffeckadmlcaa.PB
open Go.RowKit Go.Proofs.Ytonffeckadmlcaa.Px Go.Proofs.YtonffeckadmlcaaW.PrintWords Go.Proofs.YtonffeckadmlcaaW.PrintLast Go.Proofs.YtonffeckadmlcaaW.PrintMore
theorem crcWord_eq (l : List Int) : crc_Word.f l = some ((H.moreW 0 l).toNat : Int) := rfl
theorem crcMore_eq (s : Int) (l : List Int) : crc_More.f s l = some ((H.moreW s l).toNat : Int) := rfl
theorem crcBits_eq (l : List Int) : crc_Bits.f l = some ((H.crcB l).toNat : Int) := rfl
theorem crcByte_eq (l : List Int) : crc_Byte.f l = some (((H.crcX l ^^^ 0xFF#8).toNat : Nat) : Int) := by
  unfold crc_Byte.f
  congr 1
  have h := H.xor_i64 (H.crcX l).toNat 255 (by have := (H.crcX l).isLt; omega) (by decide)
  refine h.trans ?_
  rw [BitVec.toNat_xor]; rfl
theorem crcX_eq {l : List Int} (h : ∀ x ∈ l, H.U8 x) : H.crcX l = H.fold H.E8 0xFF#8 (H.bytes8 l) := H.crcX_fold l _ h
theorem moreW_eq (s : Int) (l : List Int) : H.moreW s l = ~~~ H.fold H.eightW (~~~ BitVec.ofInt 32 s) (H.bytes32 l) := by unfold H.moreW; rw [H.crcW_fold]
theorem toNat_inj {n : Nat} {a b : BitVec n} (h : ((a.toNat : Nat) : Int) = ((b.toNat : Nat) : Int)) : a = b := BitVec.eq_of_toNat_eq (by omega)
theorem not_inj {n : Nat} {a b : BitVec n} (h : ~~~ a = ~~~ b) : a = b := by
  have := congrArg (~~~ ·) h
  simpa using this
theorem xor_inj {n : Nat} {a b c : BitVec n} (h : a ^^^ c = b ^^^ c) : a = b := by
  have := congrArg (· ^^^ c) h
  simpa [BitVec.xor_assoc] using this
/-- A sum that goes on is the sum of both parts. -/
theorem more_more (s : Int) (a b : List Int) : H.moreW ((H.moreW s a).toNat : Int) b = H.moreW s (a ++ b) := by
  unfold H.moreW H.crcW
  rw [H.ofInt_nat, BitVec.ofNat_toNat, BitVec.setWidth_eq, BitVec.not_not, List.foldl_append]
end Go.Proofs.Ytonffeckadmlcaa.PB

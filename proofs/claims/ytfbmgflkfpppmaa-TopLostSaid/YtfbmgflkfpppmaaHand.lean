/- Plain words of this session's own: bits of whole numbers, sums over bits and bytes (CRC), rows. No program in sight. -/
import Derived.Laws.BitsLemmas
import Derived.Laws.Bits64
import Derived.Laws.BitsAllLaws
import Derived.RowKit
set_option linter.unusedVariables false
set_option linter.unusedSimpArgs false
namespace Go.Proofs.Ytfbmgflkfpppmaa.H

/-! ### bits of whole numbers -/
theorem wraps_i64 (n : Int) (h₀ : 0 ≤ n) (h₁ : n < 2 ^ 63) : IntKind.i64.wrap n = n := by rw [IntKind.wrap_i64]; omega
theorem bits_xor_nat (k : IntKind) (j : Nat) (hj : j ≤ k.bits) (hk : ∀ n : Int, 0 ≤ n → n < 2 ^ j → k.wrap n = n) (a b : Nat) (ha : a < 2 ^ j) (hb : b < 2 ^ j) : Go.bits .xor k a b = ((a ^^^ b : Nat) : Int) := by
  have hp : 2 ^ j ≤ 2 ^ k.bits := Nat.pow_le_pow_right (by decide) hj
  have ha' : a % 2 ^ k.bits = a := Nat.mod_eq_of_lt (Nat.lt_of_lt_of_le ha hp)
  have hb' : b % 2 ^ k.bits = b := Nat.mod_eq_of_lt (Nat.lt_of_lt_of_le hb hp)
  have cast : ∀ n : Nat, n < 2 ^ j → ((n : Nat) : Int) < 2 ^ j := fun n h => by exact_mod_cast h
  simp only [Go.bits, BitVec.ofInt_natCast, BitVec.toNat_xor, BitVec.toNat_ofNat, ha', hb']
  exact hk _ (Int.natCast_nonneg _) (cast _ (Nat.xor_lt_two_pow ha hb))
theorem and_i64 (a b : Nat) (ha : a < 9223372036854775808) (hb : b < 9223372036854775808) : Go.bits .and .i64 a b = ((a &&& b : Nat) : Int) := (bits_nat .i64 63 (by decide) wraps_i64 a b ha hb).1
theorem or_i64 (a b : Nat) (ha : a < 9223372036854775808) (hb : b < 9223372036854775808) : Go.bits .or .i64 a b = ((a ||| b : Nat) : Int) := (bits_nat .i64 63 (by decide) wraps_i64 a b ha hb).2
theorem xor_i64 (a b : Nat) (ha : a < 9223372036854775808) (hb : b < 9223372036854775808) : Go.bits .xor .i64 a b = ((a ^^^ b : Nat) : Int) := bits_xor_nat .i64 63 (by decide) wraps_i64 a b ha hb
theorem wraps_u32 (n : Int) (h₀ : 0 ≤ n) (h₁ : n < 2 ^ 32) : IntKind.u32.wrap n = n := by rw [IntKind.wrap_u32]; omega
theorem and_u32 (a b : Nat) (ha : a < 4294967296) (hb : b < 4294967296) : Go.bits .and .u32 a b = ((a &&& b : Nat) : Int) := (bits_nat .u32 32 (by decide) wraps_u32 a b ha hb).1
theorem xor_u32 (a b : Nat) (ha : a < 4294967296) (hb : b < 4294967296) : Go.bits .xor .u32 a b = ((a ^^^ b : Nat) : Int) := bits_xor_nat .u32 32 (by decide) wraps_u32 a b ha hb
/-- The lowest bit, of any number. -/
theorem and_one (x : Int) : Go.bits .and .i64 x 1 = x % 2 := by
  have h1 : (BitVec.ofInt 64 x &&& 1#64).toNat = (BitVec.ofInt 64 x).toNat % 2 := by
    rw [BitVec.toNat_and]; exact Nat.and_two_pow_sub_one_eq_mod _ 1
  have h2 : ((BitVec.ofInt 64 x).toNat : Int) = x % 18446744073709551616 := by
    rw [BitVec.toNat_ofInt]; omega
  show IntKind.i64.wrap (((BitVec.ofInt 64 x &&& BitVec.ofInt 64 1).toNat : Nat) : Int) = _
  rw [show BitVec.ofInt 64 1 = 1#64 from rfl, h1, IntKind.wrap_i64]
  omega

/-! ### a register that takes bits, the highest first -/
/-- What a bit does to a register: the bits are shifted; where the top and the bit part, the polynomial is put to it. -/
def regB {n : Nat} (poly : BitVec n) (s : BitVec n) (b : Int) : BitVec n := if Go.bits .xor .i64 ((s.toNat / 2 ^ (n - 1) : Nat) : Int) b = 1 then s <<< 1 ^^^ poly else s <<< 1
def crcB (l : List Int) : BitVec 15 := l.foldl (regB 0x4599#15) 0#15
/-- A byte's bits, the highest first. -/
def bit8 (x : Int) (i : Nat) : Int := Go.RowKit.wrap64 x / 2 ^ (7 - i) % 2
def regX (s : BitVec 8) (x : Int) : BitVec 8 := [0, 1, 2, 3, 4, 5, 6, 7].foldl (fun s i => regB 0x1D#8 s (bit8 x i)) s
def crcX (l : List Int) : BitVec 8 := l.foldl regX 0xFF#8
theorem crcB_snoc (l : List Int) (x : Int) : crcB (l ++ [x]) = regB 0x4599#15 (crcB l) x := by simp [crcB, List.foldl_append]
/-- What a bit does to a sum of 32 bits, the lowest first. -/
def oneW (c : BitVec 32) : BitVec 32 := c >>> 1 ^^^ (if c.toNat % 2 = 1 then 0xEDB88320#32 else 0#32)
def eightW (c : BitVec 32) : BitVec 32 := oneW (oneW (oneW (oneW (oneW (oneW (oneW (oneW c)))))))
def byteW (c : BitVec 32) (x : Int) : BitVec 32 := eightW (c ^^^ BitVec.ofInt 32 x)
def crcW (c : BitVec 32) (l : List Int) : BitVec 32 := l.foldl byteW c
def moreW (sum : Int) (l : List Int) : BitVec 32 := ~~~ crcW (~~~ BitVec.ofInt 32 sum) l

/-! ### a number's bits, the highest first -/
def bitsOf (n : Int) (m : Nat) : List Int := (List.range m).map fun j => n / 2 ^ (m - 1 - j) % 2
theorem bitsOf_length (n : Int) (m : Nat) : (bitsOf n m).length = m := by simp [bitsOf]
theorem bitsOf_get (n : Int) (m j : Nat) (h : j < m) : (bitsOf n m)[j]? = some (n / 2 ^ (m - 1 - j) % 2) := by simp [bitsOf, h]
def putB (n m : Int) : List Int × Bool := if m < 0 then ([], false) else if 32 < m then ([], false) else if n / 2 ^ m.toNat = 0 then (bitsOf n m.toNat, true) else ([], false)
def spreadB (l : List Int) : List Int := l.flatMap fun x => bitsOf (Go.RowKit.wrap64 x) 8

theorem take_snoc {α : Type} (d : α) (l : List α) (k : Nat) (hk : k < l.length) : l.take (k + 1) = l.take k ++ [l.getD k d] := by
  rw [List.take_succ_eq_append_getElem hk]
  simp [List.getD_eq_getElem?_getD, List.getElem?_eq_getElem hk]
end Go.Proofs.Ytfbmgflkfpppmaa.H

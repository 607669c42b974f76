/- Plain words on bytes and numbers put together, exclusively. -/
import Derived.Test.YtfgbcpdlhdgofaaHandCrc
set_option linter.unusedVariables false
set_option linter.unusedSimpArgs false
namespace Go.Proofs.Ytfgbcpdlhdgofaa.PB
open Go.RowKit
theorem wraps_u8 (n : Int) (h₀ : 0 ≤ n) (h₁ : n < 2 ^ 8) : IntKind.u8.wrap n = n := by rw [IntKind.wrap_u8]; omega
theorem xor_u8 (a b : Nat) (ha : a < 256) (hb : b < 256) : Go.bits .xor .u8 a b = ((a ^^^ b : Nat) : Int) := H.bits_xor_nat .u8 8 (by decide) wraps_u8 a b ha hb
theorem xor_lt8 {a b : Nat} (ha : a < 256) (hb : b < 256) : a ^^^ b < 256 := Nat.xor_lt_two_pow (n := 8) ha hb
theorem u8_nat {x : Int} (h : H.U8 x) : ∃ n : Nat, n < 256 ∧ x = (n : Int) := by
  unfold H.U8 at h
  obtain ⟨m, rfl⟩ := Int.eq_ofNat_of_zero_le h.1
  exact ⟨m, by omega, rfl⟩
theorem xor_U8 {a b : Int} (ha : H.U8 a) (hb : H.U8 b) : H.U8 (Go.bits .xor .u8 a b) := by
  obtain ⟨m, hm, rfl⟩ := u8_nat ha
  obtain ⟨n, hn, rfl⟩ := u8_nat hb
  rw [xor_u8 m n hm hn]
  have := xor_lt8 hm hn
  unfold H.U8; omega
end Go.Proofs.Ytfgbcpdlhdgofaa.PB

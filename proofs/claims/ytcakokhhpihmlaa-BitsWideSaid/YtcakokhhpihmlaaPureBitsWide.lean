/- A number's bits, one more of them, are a 0 and its bits; twice the number's are its bits and a 0: at all numbers of 32 bits, up to 31 bits asked for. -/
import Derived.Test.YtcakokhhpihmlaaPx7
import Derived.Test.YtcakokhhpihmlaaPureHead01
import Derived.Test.YtcakokhhpihmlaaPureRef01
set_option linter.unusedVariables false
namespace Go.Proofs.Ytcakokhhpihmlaa.Pure
open Go.RowKit Go.Proofs.Ytcakokhhpihmlaa.PB Go.Proofs.Ytcakokhhpihmlaa.Px Go.Proofs.YtcakokhhpihmlaaW.PrintWords Go.Proofs.YtcakokhhpihmlaaW.PrintLast Go.Proofs.YtcakokhhpihmlaaW.PrintMore
theorem wide_puts (m : Int) (j : Nat) (hj : j < 32) (m0 : 0 ≤ m) (m1 : m < 2 ^ j) : bits_Put.f m (j : Int) = some (H.bitsOf m j, true) ∧ bits_Put.f m ((j + 1 : Nat) : Int) = some (0 :: H.bitsOf m j, true) ∧ bits_Put.f (2 * m) ((j + 1 : Nat) : Int) = some (H.bitsOf m j ++ [0], true) := by
  have h1 : m < 2 ^ (j + 1) := by rw [Int.pow_succ]; omega
  have h2 : 2 * m < 2 ^ (j + 1) := by rw [Int.pow_succ]; omega
  have e1 := H.putB_yes (n := m) (m := j) (by omega) m0 m1
  have e2 := H.putB_yes (n := m) (m := j + 1) (by omega) m0 h1
  have e3 := H.putB_yes (n := 2 * m) (m := j + 1) (by omega) (by omega) h2
  rw [H.bitsOf_cons, Int.ediv_eq_zero_of_lt m0 m1, Int.zero_emod] at e2
  rw [H.bitsOf_succ, show 2 * m / 2 = m by omega, show 2 * m % 2 = 0 by omega] at e3
  exact ⟨congrArg some e1, congrArg some e2, congrArg some e3⟩
theorem wide_succ (j : Nat) (h : j < 32) : wrap64 ((j : Int) + 1) = ((j + 1 : Nat) : Int) := by unfold wrap64; omega
theorem wide_twice (m : Int) (h0 : 0 ≤ m) (h1 : m < 4294967296) : wrap64 (2 * m) = 2 * m := by unfold wrap64; omega
theorem wide_len (j : Nat) (h : j < 32) : j + 1 ≤ 4611686018427387904 := by omega
theorem wide_lim (i j : Nat) (h : j < 32) (hi : i < 2) : i + j < 17592186044416 := by omega
theorem wide_end (k : Nat) (n many m P : Int) (j : Int) (J1 : Int) (B : List Int) (hh : phaetonlaw01_head.f k = some true) (e1 : Int.tmod (wrap64 many) 32 = j) (e2 : shl .i64 1 j = P) (e3 : Int.tmod (wrap64 n) P = m) (e4 : wrap64 (j + 1) = J1) (e5 : wrap64 (2 * m) = 2 * m)
    (hj : 0 ≤ j) (hP : ¬ P = 0) (p1 : bits_Put.f m j = some (B, true)) (p2 : bits_Put.f m J1 = some (0 :: B, true)) (p3 : bits_Put.f (2 * m) J1 = some (B ++ [0], true))
    (q1 : ([0] : List Int).length + B.length < 17592186044416) (q2 : ([] : List Int).length + B.length < 17592186044416) (q3 : ([] ++ B : List Int).length < 17592186044416)
    (k1 : phaetonref01_Same.f k (0 :: B) (0 :: B) = some true) (k2 : phaetonref01_Same.f k (B ++ [0]) (B ++ [0]) = some true) : phaetonlaw01_BitsWide.f k n many = some true := by
  unfold phaetonlaw01_BitsWide.f
  rw [hh, Option.bind_some, e1, e2, e3, e4, e5, if_pos hj, if_neg hP, p1, Option.bind_some, p2, Option.bind_some, p3, Option.bind_some, if_pos rfl, if_pos rfl, if_pos rfl, if_pos rfl, Option.bind_some, if_pos q1, List.singleton_append, k1, Option.bind_some, if_pos rfl, Option.bind_some, if_pos q2, Option.bind_some, if_pos q3, List.nil_append, k2, Option.bind_some, if_pos rfl]
theorem BitsWide : phaetonlaw01_BitsWide.Pure := by
  intro n many h1 h2
  have hn := H.of_wfu32 h1
  have hm := H.of_wf8 h2
  unfold H.U8 at hm
  obtain ⟨K0, hh⟩ := head01_k
  obtain ⟨j, hj⟩ : ∃ j : Nat, (j : Int) = many % 32 := ⟨(many % 32).toNat, by omega⟩
  have hj32 : j < 32 := by omega
  have e1 : Int.tmod (wrap64 many) 32 = (j : Int) := by
    rw [show wrap64 many = many by unfold wrap64; omega, Int.tmod_eq_emod_of_nonneg (by omega), hj]
  have e2 : shl .i64 1 (j : Int) = 2 ^ j := by rw [shl_bit (.inr rfl) j (by omega)]; omega
  have hp := H.pow_pos2 j
  have hp32 := H.pow32 (m := j) (by omega)
  obtain ⟨m, hmm⟩ : ∃ m : Int, m = n % 2 ^ j := ⟨_, rfl⟩
  have m0 : 0 ≤ m := by rw [hmm]; exact Int.emod_nonneg _ (by omega)
  have m1 : m < 2 ^ j := by rw [hmm]; exact Int.emod_lt_of_pos _ hp
  have e3 : Int.tmod (wrap64 n) (2 ^ j) = m := by
    rw [show wrap64 n = n by unfold wrap64; omega, Int.tmod_eq_emod_of_nonneg (by omega), hmm]
  have e4 : wrap64 ((j : Int) + 1) = ((j + 1 : Nat) : Int) := by unfold wrap64; omega
  have e5 : wrap64 (2 * m) = 2 * m := by unfold wrap64; omega
  have hP := wide_puts m j hj32 m0 m1
  clear hmm e4 e5
  have e4 : wrap64 ((j : Int) + 1) = ((j + 1 : Nat) : Int) := wide_succ j hj32
  have e5 : wrap64 (2 * m) = 2 * m := wide_twice m m0 (Int.lt_of_lt_of_le m1 hp32)
  have hl := H.bitsOf_length m j
  have hl1 : (0 :: H.bitsOf m j).length = j + 1 := by rw [List.length_cons, hl]
  have hl2 : (H.bitsOf m j ++ [0]).length = j + 1 := by rw [List.length_append, hl]; rfl
  obtain ⟨K1, k1⟩ := same_k (0 :: H.bitsOf m j) (by rw [hl1]; exact wide_len j hj32)
  obtain ⟨K2, k2⟩ := same_k (H.bitsOf m j ++ [0]) (by rw [hl2]; exact wide_len j hj32)
  have q1 : ([0] : List Int).length + (H.bitsOf m j).length < 17592186044416 := by rw [hl]; exact wide_lim 1 j hj32 (by decide)
  have q2 : ([] : List Int).length + (H.bitsOf m j).length < 17592186044416 := by rw [hl]; exact wide_lim 0 j hj32 (by decide)
  have q3 : ([] ++ H.bitsOf m j : List Int).length < 17592186044416 := by rw [List.nil_append, hl]; have := wide_lim 0 j hj32 (by decide); rwa [Nat.zero_add] at this
  have g0 := hh (K0 + K1 + K2) (by rw [Nat.add_assoc]; exact Nat.le_add_right _ _)
  have g1 := k1 (K0 + K1 + K2) (Nat.le_trans (Nat.le_add_left _ _) (Nat.le_add_right _ _))
  have g2 := k2 (K0 + K1 + K2) (Nat.le_add_left _ _)
  exact ⟨_, wide_end _ n many m _ _ _ _ g0 e1 e2 e3 e4 e5 (Int.natCast_nonneg _) (Int.ne_of_gt hp) hP.1 hP.2.1 hP.2.2 q1 q2 q3 g1 g2⟩
end Go.Proofs.Ytcakokhhpihmlaa.Pure

/- What the document's answer to layer 1 comes to: the same plain words as package bits. -/
import Derived.Test.YtechlakahpkdpaaPureBase
import Derived.Test.YtechlakahpkdpaaPx4
set_option linter.unusedVariables false
set_option linter.unusedSimpArgs false
namespace Go.Proofs.Ytechlakahpkdpaa.PB
open Go.RowKit Go.Proofs.Ytechlakahpkdpaa.Px Go.Proofs.YtechlakahpkdpaaW.PrintWords Go.Proofs.YtechlakahpkdpaaW.PrintLast Go.Proofs.YtechlakahpkdpaaW.PrintMore
/-! ### Put, Spread -/
theorem rput_l0 (n : Int) (m : Nat) (hm : m ≤ 62) : ∀ d j : Nat, j + d = m → Ev (fun k => phaetonref01_Put.l0 k n ((H.bitsOf n m).take j) ((m : Int) - 1 - (j : Int))) (H.bitsOf n m, true) := by
  intro d
  induction d with
  | zero =>
    intro j hj
    refine Ev.step (f := fun _ => some (H.bitsOf n m, true)) (fun k => ?_) (Ev.now _)
    simp only [phaetonref01_Put.l0]
    rw [if_neg (by omega), List.take_of_length_le (by rw [H.bitsOf_length]; omega)]
  | succ d ih =>
    intro j hj
    refine Ev.step (f := fun k => phaetonref01_Put.l0 k n ((H.bitsOf n m).take (j + 1)) ((m : Int) - 1 - ((j + 1 : Nat) : Int))) (fun k => ?_) (ih (j + 1) (by omega))
    rw [phaetonref01_Put.l0.eq_2, if_pos (by omega), if_pos (by omega), if_pos (by rw [List.length_take, H.bitsOf_length]; omega)]
    have e1 : wrap64 ((m : Int) - 1 - (j : Int) - 1) = (m : Int) - 1 - ((j + 1 : Nat) : Int) := by unfold wrap64; omega
    have e2 : shr .i64 n ((m : Int) - 1 - (j : Int)) = n / 2 ^ (m - 1 - j) := by
      unfold shr
      rw [show min (((m : Int) - 1 - (j : Int)).toNat) IntKind.i64.bits = m - 1 - j by simp [IntKind.bits]; omega]
    have e3 : (H.bitsOf n m).take (j + 1) = (H.bitsOf n m).take j ++ [n / 2 ^ (m - 1 - j) % 2] := by
      rw [H.take_snoc 0 _ j (by rw [H.bitsOf_length]; omega), List.getD_eq_getElem?_getD, H.bitsOf_get n m j (by omega)]; rfl
    rw [e1, e2, H.and_one, e3]
theorem rput_k (n a1 : Int) (hn : H.W64 n) : ∃ K, ∀ k, K ≤ k → phaetonref01_Put.f k n a1 = some (H.putB n a1) := by
  have no : ∀ k, phaetonref01_Put.j0 (k + 1) n a1 true = some (([] : List Int), false) := fun k => by rw [phaetonref01_Put.j0.eq_2, if_pos rfl]
  unfold H.putB
  by_cases c1 : a1 < 0
  · refine ⟨1, fun k hk => ?_⟩
    obtain ⟨k, rfl⟩ : ∃ m, k = m + 1 := ⟨k - 1, by omega⟩
    unfold phaetonref01_Put.f
    rw [if_pos c1, if_pos c1, no]
  rw [if_neg c1]
  by_cases c2 : 32 < a1
  · refine ⟨1, fun k hk => ?_⟩
    obtain ⟨k, rfl⟩ : ∃ m, k = m + 1 := ⟨k - 1, by omega⟩
    unfold phaetonref01_Put.f
    rw [if_neg c1, if_pos c2, if_pos c2, no]
  rw [if_neg c2]
  obtain ⟨m, rfl⟩ := Int.eq_ofNat_of_zero_le (show 0 ≤ a1 by omega)
  rw [Int.toNat_natCast]
  have hsh : shl .i64 1 (m : Int) = 2 ^ m := by rw [shl_bit (.inr rfl) m (by omega)]; omega
  by_cases c3 : n / 2 ^ m = 0
  · obtain ⟨h0, h1⟩ := (H.small_iff n m).mp c3
    rw [if_pos c3]
    obtain ⟨K, hK⟩ := rput_l0 n m (by omega) m 0 (by omega)
    refine ⟨K + 1, fun k hk => ?_⟩
    obtain ⟨k, rfl⟩ : ∃ m, k = m + 1 := ⟨k - 1, by omega⟩
    unfold phaetonref01_Put.f
    rw [if_neg c1, if_neg c2, if_neg (by omega), if_pos (by omega), hsh, decide_eq_false (by omega), phaetonref01_Put.j0.eq_2, if_neg (by decide)]
    have h := hK k (by omega)
    rw [show wrap64 ((m : Int) - 1) = (m : Int) - 1 - ((0 : Nat) : Int) by unfold wrap64; omega]
    exact h
  · rw [if_neg c3]
    refine ⟨1, fun k hk => ?_⟩
    obtain ⟨k, rfl⟩ : ∃ m, k = m + 1 := ⟨k - 1, by omega⟩
    unfold phaetonref01_Put.f
    rw [if_neg c1, if_neg c2]
    by_cases c4 : n < 0
    · rw [if_pos c4, no]
    · have : ¬ n < 2 ^ m := fun h => c3 ((H.small_iff n m).mpr ⟨by omega, h⟩)
      rw [if_neg c4, if_pos (by omega), hsh, decide_eq_true (by omega), no]
/-! ### Same -/
end Go.Proofs.Ytechlakahpkdpaa.PB

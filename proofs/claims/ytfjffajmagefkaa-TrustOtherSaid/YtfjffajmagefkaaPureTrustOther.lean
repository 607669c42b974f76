/- What was wrapped for an id is not opened for another one, whose bits differ within eight, one behind the other. -/
import Derived.Test.YtfjffajmagefkaaPx9
import Derived.Test.YtfjffajmagefkaaPureTrust
set_option linter.unusedVariables false
namespace Go.Proofs.Ytfjffajmagefkaa.Pure
open Go.RowKit Go.Proofs.Ytfjffajmagefkaa.PB Go.Proofs.Ytfjffajmagefkaa.Px Go.Proofs.YtfjffajmagefkaaW.PrintWords Go.Proofs.YtfjffajmagefkaaW.PrintLast Go.Proofs.YtfjffajmagefkaaW.PrintMore
theorem TrustOther : phaetonlaw16_TrustOther.Pure := by
  intro a0 a1 a2 a3 l4 h0 h1 h2 h3 _ hl hw
  obtain ⟨u0, u1⟩ := H.of_wfu16 h0
  have v1 := H.of_wf8 h1
  have v2 := H.of_wf8 h2
  have v3 := H.of_wf8 h3
  have v1' := v1
  have v2' := v2
  have v3' := v3
  unfold H.U8 at v1 v2 v3
  have hw' : ∀ x ∈ l4, H.U8 x := fun x hx => H.of_wf8 (hw x hx)
  obtain ⟨m, rfl⟩ := Int.eq_ofNat_of_zero_le u0
  obtain ⟨x, rfl⟩ := Int.eq_ofNat_of_zero_le v1.1
  obtain ⟨K0, hh⟩ := head16_k
  have out : ∀ k, phaetonlaw16_TrustOther.j0 (k + 1) (m : Int) (x : Int) a2 a3 l4 true true = some true := fun k => by rw [phaetonlaw16_TrustOther.j0.eq_2, if_pos rfl, if_pos rfl]
  by_cases c1 : (l4.length : Int) > 6
  · refine ⟨K0 + 1, ?_⟩; unfold phaetonlaw16_TrustOther.f; rw [hh _ (by omega), Option.bind_some, if_pos c1, out]
  by_cases c2 : x = 0
  · have hb : ((x : Int) == 0) = true := by rw [beq_iff_eq]; omega
    refine ⟨K0 + 1, ?_⟩; unfold phaetonlaw16_TrustOther.f; rw [hh _ (by omega), Option.bind_some, if_neg c1, hb, out]
  have hb : ((x : Int) == 0) = false := by rw [beq_eq_false_iff_ne]; omega
  have e0 : wrap64 (m : Int) = (m : Int) := by unfold wrap64; omega
  have ec : Int.tmod (wrap64 a3) 15 = a3 % 15 := by rw [H.wrap_u8 v3', Int.tmod_eq_emod_of_nonneg v3.1]
  have es : Int.tmod (wrap64 a2) 9 = a2 % 9 := by rw [H.wrap_u8 v2', Int.tmod_eq_emod_of_nonneg v2.1]
  obtain ⟨s, hs⟩ := Int.eq_ofNat_of_zero_le (show 0 ≤ a2 % 9 by omega)
  have hs9 : s < 9 := by omega
  obtain ⟨hwr, hop⟩ := open_wrap (m : Int) (a3 % 15) l4 (by omega) (by omega) (by omega) (by omega)
  have hp : ∀ i, i ≤ 8 → x * 2 ^ i < 65536 := fun i hi => by
    have : 2 ^ i ≤ 2 ^ 8 := Nat.pow_le_pow_right (by decide) (by omega)
    calc x * 2 ^ i ≤ 255 * 2 ^ 8 := Nat.mul_le_mul (by omega) this
      _ < 65536 := by decide
  have loop : ∀ d i : Nat, i + d = s → ∀ k, d < k → phaetonlaw16_TrustOther.l0 k (m : Int) a2 true (tsum (m : Int) (a3 % 15) l4 :: a3 % 15 :: l4) true ((x * 2 ^ i : Nat) : Int) (i : Int) = some true := fun d => by
    induction d with
    | zero =>
      intro i hi k hk
      obtain ⟨k, rfl⟩ : ∃ j, k = j + 1 := ⟨k - 1, by omega⟩
      obtain rfl : i = s := by omega
      have hx := hp i (by omega)
      have hU : ∀ y ∈ tsum (m : Int) (a3 % 15) l4 :: a3 % 15 :: l4, H.U8 y := fun y hy => by
        have := wrapT_U8 (m : Int) (a3 % 15) l4 hw'
        rw [hwr] at this
        exact this y hy
      rw [phaetonlaw16_TrustOther.l0.eq_2, es, hs, if_neg (by omega), e0, H.xor_i64 m _ (by omega) (by omega), open_eq _ _ hU, Option.bind_some, if_pos rfl, if_pos rfl, if_neg]
      rw [openT_cons, if_neg (fun h => tsum_other (a3 % 15) (a3 % 15) l4 hw' m x i (by omega) (by omega) c2 hs9 h.2.2.2)]
      decide
    | succ d ih =>
      intro i hi k hk
      obtain ⟨k, rfl⟩ : ∃ j, k = j + 1 := ⟨k - 1, by omega⟩
      have hx := hp (i + 1) (by omega)
      have e2 : x * 2 ^ (i + 1) = x * 2 ^ i + x * 2 ^ i := by rw [Nat.pow_succ, ← Nat.mul_assoc]; omega
      rw [phaetonlaw16_TrustOther.l0.eq_2, es, hs, if_pos (by omega)]
      have := ih (i + 1) (by omega) k (by omega)
      rw [show wrap64 (((x * 2 ^ i : Nat) : Int) + ((x * 2 ^ i : Nat) : Int)) = ((x * 2 ^ (i + 1) : Nat) : Int) by unfold wrap64; omega, show wrap64 ((i : Int) + 1) = ((i + 1 : Nat) : Int) by unfold wrap64; omega]
      exact this
  refine ⟨K0 + s + 2, ?_⟩
  unfold phaetonlaw16_TrustOther.f
  rw [hh _ (by omega), Option.bind_some, if_neg c1, hb, phaetonlaw16_TrustOther.j0.eq_2, if_neg (by decide), ec, e0, wrap_eq, Option.bind_some, hwr, show wrap64 (x : Int) = ((x * 2 ^ 0 : Nat) : Int) by unfold wrap64; omega]
  exact loop s 0 (by omega) _ (by omega)
end Go.Proofs.Ytfjffajmagefkaa.Pure

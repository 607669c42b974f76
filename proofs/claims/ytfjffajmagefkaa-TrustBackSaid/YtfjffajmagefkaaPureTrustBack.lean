/- Bytes are opened as they were wrapped, with their count; there are two more of them; with a bit turned they are not opened. -/
import Derived.Test.YtfjffajmagefkaaPx8
import Derived.Test.YtfjffajmagefkaaPureTrust
set_option linter.unusedVariables false
namespace Go.Proofs.Ytfjffajmagefkaa.Pure
open Go.RowKit Go.Proofs.Ytfjffajmagefkaa.PB Go.Proofs.Ytfjffajmagefkaa.Px Go.Proofs.YtfjffajmagefkaaW.PrintWords Go.Proofs.YtfjffajmagefkaaW.PrintLast Go.Proofs.YtfjffajmagefkaaW.PrintMore
theorem turn8 : ∀ b : Fin 256, ∀ j : Fin 8, Go.bits .xor .u8 (b.val : Int) (shl .u8 1 (j.val : Int)) ≠ (b.val : Int) ∧ 0 ≤ Go.bits .xor .u8 (b.val : Int) (shl .u8 1 (j.val : Int)) ∧ Go.bits .xor .u8 (b.val : Int) (shl .u8 1 (j.val : Int)) ≤ 255 := by decide +kernel
theorem TrustBack : phaetonlaw16_TrustBack.Pure := by
  intro a0 a1 l2 a3 h0 h1 _ hl hw h3
  obtain ⟨u0, u1⟩ := H.of_wfu16 h0
  have v1 := H.of_wf8 h1
  have v3 := H.of_wf8 h3
  have v1' := v1
  have v3' := v3
  unfold H.U8 at v1 v3
  have hw' : ∀ x ∈ l2, H.U8 x := fun x hx => H.of_wf8 (hw x hx)
  obtain ⟨K0, hh⟩ := head16_k
  by_cases c1 : (l2.length : Int) > 100
  · refine ⟨K0, ?_⟩; unfold phaetonlaw16_TrustBack.f; rw [hh _ (by omega), Option.bind_some, if_pos c1, if_pos rfl]
  have e0 : wrap64 a0 = a0 := by unfold wrap64; omega
  have ec : Int.tmod (wrap64 a1) 20 = a1 % 20 := by rw [H.wrap_u8 v1', Int.tmod_eq_emod_of_nonneg v1.1]
  have ha : a0 / 65536 = 0 := by omega
  refine ⟨K0 + 1, ?_⟩
  unfold phaetonlaw16_TrustBack.f
  rw [hh _ (by omega), Option.bind_some, if_neg c1, ec, e0, wrap_eq, Option.bind_some]
  by_cases c2 : a1 % 20 ≤ 14
  · rw [if_pos c2]
    by_cases c3 : (l2.length : Int) ≤ 6
    · obtain ⟨hwr, hop⟩ := open_wrap a0 (a1 % 20) l2 ha (by omega) (by omega) (by omega)
      rw [hwr, show (true != decide ((l2.length : Int) ≤ 6)) = false by rw [decide_eq_true c3]; rfl, phaetonlaw16_TrustBack.j0.eq_2, if_neg (by decide), if_pos rfl, e0]
      have hU : ∀ x ∈ tsum a0 (a1 % 20) l2 :: a1 % 20 :: l2, H.U8 x := fun x hx => by
        have := wrapT_U8 a0 (a1 % 20) l2 hw'
        rw [hwr] at this
        exact this x hx
      have hn : ((tsum a0 (a1 % 20) l2 :: a1 % 20 :: l2).length : Int) = (l2.length : Int) + 2 := by simp only [List.length_cons]; omega
      have e8 : wrap64 (8 * ((l2.length : Int) + 2)) = 8 * ((l2.length : Int) + 2) := by unfold wrap64; omega
      have ei : Int.tmod (wrap64 a3) (8 * ((l2.length : Int) + 2)) = a3 % (8 * ((l2.length : Int) + 2)) := by rw [H.wrap_u8 v3', Int.tmod_eq_emod_of_nonneg v3.1]
      have hm0 : 0 ≤ a3 % (8 * ((l2.length : Int) + 2)) := Int.emod_nonneg _ (by omega)
      have hm1 : a3 % (8 * ((l2.length : Int) + 2)) < 8 * ((l2.length : Int) + 2) := Int.emod_lt_of_pos _ (by omega)
      rw [open_eq _ _ hU, Option.bind_some, hop, if_pos rfl, if_pos rfl, sameBytes, Option.bind_some, if_pos rfl, hn, if_pos (show (l2.length : Int) + 2 = wrap64 ((l2.length : Int) + 2) by unfold wrap64; omega), e8, if_neg (by omega), Option.bind_some, List.length_nil, if_pos (by simp only [List.length_cons]; omega), List.nil_append, Option.bind_some, ei]
      generalize hg : a3 % (8 * ((l2.length : Int) + 2)) = m at hm0 hm1
      have ed : wrap64 (Int.tdiv m 8) = m / 8 := by rw [Int.tdiv_eq_ediv_of_nonneg hm0]; unfold wrap64; omega
      have er : Int.tmod m 8 = m % 8 := Int.tmod_eq_emod_of_nonneg hm0
      obtain ⟨i, hi⟩ := Int.eq_ofNat_of_zero_le (show 0 ≤ m / 8 by omega)
      obtain ⟨j, hj⟩ := Int.eq_ofNat_of_zero_le (show 0 ≤ m % 8 by omega)
      rw [ed, er, hi, hj, if_pos (by omega), if_pos (by simp only [List.length_cons]; omega), if_pos (by omega), rd_nat, Int.toNat_natCast]
      have hik : i < l2.length + 2 := by omega
      have hb := hU _ (rd_mem (l := tsum a0 (a1 % 20) l2 :: a1 % 20 :: l2) (i := i) (by simp only [List.length_cons]; omega))
      generalize hz : (tsum a0 (a1 % 20) l2 :: a1 % 20 :: l2).getD i 0 = b at hb
      have hb' := hb
      unfold H.U8 at hb'
      obtain ⟨bn, rfl⟩ := Int.eq_ofNat_of_zero_le hb'.1
      obtain ⟨t1, t2, t3⟩ := turn8 ⟨bn, by omega⟩ ⟨j, by omega⟩
      have hzU : H.U8 (Go.bits .xor .u8 (bn : Int) (shl .u8 1 (j : Int))) := ⟨t2, t3⟩
      have hset : ∀ x ∈ (tsum a0 (a1 % 20) l2 :: a1 % 20 :: l2).set i (Go.bits .xor .u8 (bn : Int) (shl .u8 1 (j : Int))), H.U8 x := fun x hx => by
        rcases List.mem_or_eq_of_mem_set hx with h | h
        · exact hU x h
        · rw [h]; exact hzU
      rw [open_eq _ _ hset, Option.bind_some, if_pos rfl, if_neg]
      rw [open_turned a0 (a1 % 20) l2 hw' (by omega) (by omega) i hik _ hzU (by rw [hz]; exact t1)]
      decide
    · have hwr : wrapT a0 (a1 % 20) l2 = ([], false) := if_neg (fun h => by omega)
      rw [hwr, show (false != decide ((l2.length : Int) ≤ 6)) = false by rw [decide_eq_false c3]; rfl, phaetonlaw16_TrustBack.j0.eq_2, if_neg (by decide), if_neg (by decide), if_pos rfl, if_pos (by rfl)]
  · have hwr : wrapT a0 (a1 % 20) l2 = ([], false) := if_neg (fun h => by omega)
    rw [if_neg c2, hwr, phaetonlaw16_TrustBack.j0.eq_2, if_neg (by decide), if_neg (by decide), if_pos rfl, if_pos (by rfl)]
end Go.Proofs.Ytfjffajmagefkaa.Pure

/- What the document's answer to layer 24 comes to: the same plain words. -/
import Derived.Test.YtfgbcpdlhdgofaaPureImage
import Derived.Test.YtfgbcpdlhdgofaaPureRefMore
import Derived.Test.YtfgbcpdlhdgofaaPx5
import Derived.Test.YtfgbcpdlhdgofaaPx4
set_option linter.unusedVariables false
set_option linter.unusedSimpArgs false
namespace Go.Proofs.Ytfgbcpdlhdgofaa.PB
open Go.RowKit Go.Proofs.Ytfgbcpdlhdgofaa.Px Go.Proofs.YtfgbcpdlhdgofaaW.PrintWords Go.Proofs.YtfgbcpdlhdgofaaW.PrintLast Go.Proofs.YtfgbcpdlhdgofaaW.PrintMore
theorem rfour (n : Int) (h0 : 0 ≤ n) (h1 : n < 4611686018427387904) : phaetonref24_Four.f n = some (w4 n) := by
  have e1 : wrap64 (Int.tdiv n 16777216) = n / 16777216 := by rw [Int.tdiv_eq_ediv_of_nonneg h0]; unfold wrap64; omega
  have e2 : wrap64 (Int.tdiv n 65536) = n / 65536 := by rw [Int.tdiv_eq_ediv_of_nonneg h0]; unfold wrap64; omega
  have e3 : wrap64 (Int.tdiv n 256) = n / 256 := by rw [Int.tdiv_eq_ediv_of_nonneg h0]; unfold wrap64; omega
  have f2 : Int.tmod (n / 65536) 256 % 256 = n / 65536 % 256 := by rw [Int.tmod_eq_emod_of_nonneg (by omega)]; omega
  have f3 : Int.tmod (n / 256) 256 % 256 = n / 256 % 256 := by rw [Int.tmod_eq_emod_of_nonneg (by omega)]; omega
  have f4 : Int.tmod n 256 % 256 = n % 256 := by rw [Int.tmod_eq_emod_of_nonneg (by omega)]; omega
  unfold phaetonref24_Four.f w4
  rw [e1, e2, e3, f2, f3, f4]
theorem rmay_eq (key : Int) : phaetonref24_May.f key = some (mayB key) := may_eq key
theorem rword_k (l : List Int) (hl : l.length ≤ 1000000) (hw : ∀ x ∈ l, H.U8 x) : ∃ K, ∀ k, K ≤ k → phaetonref02_Word.f k l = some (wv l) := by
  obtain ⟨K, h⟩ := refMore_k 0 l (by omega) hw
  exact ⟨K, fun k hk => by unfold phaetonref02_Word.f; rw [h k hk]; rfl⟩
theorem may_range {key : Int} (h : mayB key = true) : 0 ≤ key ∧ key ≤ 4294967295 := of_decide_eq_true h
theorem rseal_k (l : List Int) (key : Int) (hl : l.length ≤ 100000) (hw : ∀ x ∈ l, H.U8 x) : ∃ K, ∀ k, K ≤ k → phaetonref24_Seal.f k l key = some (sealR l key) := by
  obtain ⟨K, h⟩ := rword_k (w4 key ++ l ++ w4 key) (by rw [List.length_append, List.length_append, w4_length]; omega) (U8_app (U8_app (w4_U8 _) hw) (w4_U8 _))
  refine ⟨K, fun k hk => ?_⟩
  unfold phaetonref24_Seal.f sealR
  rw [rmay_eq, Option.bind_some]
  by_cases hm : mayB key = true
  · have hr := may_range hm
    rw [if_pos hm, if_pos hm, rfour key hr.1 (by omega), Option.bind_some, if_pos (by rw [w4_length]; omega), Option.bind_some, Option.bind_some, if_pos (by rw [List.length_append, w4_length]; omega), h k hk]; rfl
  · rw [if_neg hm, if_neg hm]
theorem right_parts {v : Int} {b : List Int} (h : rightB' v b = true) : 0 ≤ v ∧ v ≤ 2147483647 ∧ 1 ≤ b.length ∧ b.length ≤ 2048 := of_decide_eq_true h
theorem sealV_range (l : List Int) (key : Int) : 0 ≤ sealV l key ∧ sealV l key < 4294967296 := wv_range _
theorem rsame (a : Int) (l : List Int) : phaetonref24_Same.f a l a l = some true := by
  unfold phaetonref24_Same.f
  rw [if_pos rfl, beq_self_eq_true]
end Go.Proofs.Ytfgbcpdlhdgofaa.PB

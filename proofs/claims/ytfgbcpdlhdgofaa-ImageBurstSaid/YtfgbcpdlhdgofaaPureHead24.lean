/- The live question of layer 24's laws is answered: true; the image that the laws cut. -/
import Derived.Test.YtfgbcpdlhdgofaaPx6
import Derived.Test.YtfgbcpdlhdgofaaPx8
import Derived.Test.YtfgbcpdlhdgofaaHandOrder
import Derived.Test.YtfgbcpdlhdgofaaPureImageRef
set_option linter.unusedVariables false
set_option linter.unusedSimpArgs false
namespace Go.Proofs.Ytfgbcpdlhdgofaa.PB
open Go.RowKit Go.Proofs.Ytfgbcpdlhdgofaa.Px Go.Proofs.YtfgbcpdlhdgofaaW.PrintWords Go.Proofs.YtfgbcpdlhdgofaaW.PrintLast Go.Proofs.YtfgbcpdlhdgofaaW.PrintMore
theorem head24_k : ∃ K, ∀ k, K ≤ k → phaetonlaw24_head.f k = some true := by
  refine ⟨160, fun k hk => at_rounds (g := fun k => phaetonlaw24_head.f k) phaetonlaw24_head.mono hk ?_⟩
  decide +kernel
def cutB (b : List Int) : List Int := b.take (min b.length 200) ++ (if 200 < b.length then List.replicate (1847 + b.length % 4) 0 else [])
theorem cutB_length (b : List Int) : (cutB b).length ≤ 2050 := by
  unfold cutB
  rw [List.length_append, List.length_take]
  split
  · rw [List.length_replicate]; omega
  · rw [List.length_nil]; omega
theorem cutB_U8 {b : List Int} (h : ∀ x ∈ b, H.U8 x) : ∀ x ∈ cutB b, H.U8 x := by
  unfold cutB
  refine U8_app (take_U8 h _) ?_
  split
  · intro x hx; obtain ⟨_, rfl⟩ := List.mem_replicate.mp hx; exact ⟨by decide, by decide⟩
  · intro x hx; cases hx
theorem cut_eq (v : Int) (b : List Int) (hb : b.length ≤ maxLen) : phaetonlaw24_Cut.f v b = some (v, cutB b) := by
  have hm : maxLen = 9223372036854775807 := rfl
  have e1 : mn (b.length : Int) 200 = ((min b.length 200 : Nat) : Int) := by unfold mn; split <;> omega
  have e2 : Go.bits .and .i64 (b.length : Int) 3 = (b.length : Int) % 4 := H.and_low _ (by omega) (by omega) 2 (by omega)
  have e3 : wrap64 (1847 + (b.length : Int) % 4) = ((1847 + b.length % 4 : Nat) : Int) := by unfold wrap64; omega
  unfold phaetonlaw24_Cut.f cutB
  rw [Option.bind_some, e1, e2, e3, if_pos (by omega), if_pos (by omega), Int.toNat_natCast, Int.toNat_natCast, if_pos (by rw [List.length_take]; simp only [List.length_nil]; omega), Option.bind_some, List.nil_append]
  by_cases h : 200 < b.length
  · rw [if_pos (by omega), if_pos (by omega), if_pos (by rw [List.length_take]; omega), if_pos h]
  · rw [if_neg (by omega), if_neg h, List.append_nil]
theorem num_w4 {n : Int} (h0 : 0 ≤ n) (h1 : n < 4294967296) : (n / 16777216) % 256 * 16777216 + (n / 65536) % 256 * 65536 + (n / 256) % 256 * 256 + n % 256 = n := by omega
theorem pack_num2 (v : Int) (b : List Int) (key : Int) (h0 : 0 ≤ v) (h1 : v ≤ 2147483647) : num (packL v b key) 2 = v := num_w4 (n := v) h0 (by omega)
theorem pack_num6 (v : Int) (b : List Int) (key : Int) (h1 : b.length ≤ 2147483647) : num (packL v b key) 6 = (b.length : Int) := num_w4 (n := (b.length : Int)) (by omega) (by omega)
theorem pack_num10 (v : Int) (b : List Int) (key : Int) : num (packL v b key) 10 = wv b := num_w4 (n := wv b) (wv_range b).1 (wv_range b).2
theorem pack_num14 (v : Int) (b : List Int) (key : Int) : num (packL v b key) 14 = sealV (frontT v b ++ b) key := num_w4 (n := sealV (frontT v b ++ b) key) (sealV_range _ _).1 (sealV_range _ _).2
theorem pack_drop (v : Int) (b : List Int) (key : Int) : (packL v b key).drop 18 = b := rfl
theorem pack_take (v : Int) (b : List Int) (key : Int) : (packL v b key).take 14 = frontT v b := rfl
theorem pack_two (v : Int) (b : List Int) (key : Int) : (packL v b key).take 2 = [80, 72] := rfl
/-- What was packed is read. -/
theorem read_pack (v : Int) (b : List Int) (key : Int) (hr : rightB' v b = true) (hm : mayB key = true) : readT (packL v b key) key = (v, b, 0) := by
  obtain ⟨v0, v1, b0, b1⟩ := right_parts hr
  unfold readT
  rw [pack_drop, pack_take, pack_two, pack_num2 v b key v0 v1, pack_num6 v b key (by omega), pack_num10, pack_num14, packL_length, if_neg (by
    rintro (h | h | h | h)
    · omega
    · exact h rfl
    · rw [hr] at h; cases h
    · exact h rfl), if_neg (fun h => h rfl), if_neg (by
    rintro (h | h)
    · rw [hm] at h; cases h
    · exact h rfl)]
end Go.Proofs.Ytfgbcpdlhdgofaa.PB

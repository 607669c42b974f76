/- The live question of layer 24's laws is answered: true; the image that the laws cut. -/
import Derived.Test.YtfgbcpdlhdgofaaPx6
import Derived.Test.YtfgbcpdlhdgofaaHandOrder
import Derived.Test.YtfgbcpdlhdgofaaPureImageRef
set_option linter.unusedVariables false
set_option linter.unusedSimpArgs false
namespace Go.Proofs.Ytfgbcpdlhdgofaa.PB
open Go.RowKit Go.Proofs.Ytfgbcpdlhdgofaa.Px Go.Proofs.YtfgbcpdlhdgofaaW.PrintWords Go.Proofs.YtfgbcpdlhdgofaaW.PrintLast Go.Proofs.YtfgbcpdlhdgofaaW.PrintMore
theorem head24_k : ∃ K, ∀ k, K ≤ k → phaetonlaw24_head.f k = some true := by
  refine ⟨160, fun k hk => at_rounds (g := fun k => phaetonlaw24_head.f k) phaetonlaw24_head.mono hk ?_⟩
  decide +kernel
def cutB (b : List Int) : List Int := b.take (min b.length 200) ++ (if 200 < b.length then List.replicate (1847 + b.length % 4) 0 else [])
theorem cutB_length (b : List Int) : (cutB b).length ≤ 2050 := by
  unfold cutB
  rw [List.length_append, List.length_take]
  split
  · rw [List.length_replicate]; omega
  · rw [List.length_nil]; omega
theorem cutB_U8 {b : List Int} (h : ∀ x ∈ b, H.U8 x) : ∀ x ∈ cutB b, H.U8 x := by
  unfold cutB
  refine U8_app (take_U8 h _) ?_
  split
  · intro x hx; obtain ⟨_, rfl⟩ := List.mem_replicate.mp hx; exact ⟨by decide, by decide⟩
  · intro x hx; cases hx
theorem cut_eq (v : Int) (b : List Int) (hb : b.length ≤ maxLen) : phaetonlaw24_Cut.f v b = some (v, cutB b) := by
  have hm : maxLen = 9223372036854775807 := rfl
  have e1 : mn (b.length : Int) 200 = ((min b.length 200 : Nat) : Int) := by unfold mn; split <;> omega
  have e2 : Go.bits .and .i64 (b.length : Int) 3 = (b.length : Int) % 4 := H.and_low _ (by omega) (by omega) 2 (by omega)
  have e3 : wrap64 (1847 + (b.length : Int) % 4) = ((1847 + b.length % 4 : Nat) : Int) := by unfold wrap64; omega
  unfold phaetonlaw24_Cut.f cutB
  rw [Option.bind_some, e1, e2, e3, if_pos (by omega), if_pos (by omega), Int.toNat_natCast, Int.toNat_natCast, if_pos (by rw [List.length_take]; simp only [List.length_nil]; omega), Option.bind_some, List.nil_append]
  by_cases h : 200 < b.length
  · rw [if_pos (by omega), if_pos (by omega), if_pos (by rw [List.length_take]; omega), if_pos h]
  · rw [if_neg (by omega), if_neg h, List.append_nil]
theorem mn400 (l : List Int) : mn (l.length : Int) 400 = ((min l.length 400 : Nat) : Int) := by unfold mn; split <;> omega
theorem num_w4 {n : Int} (h0 : 0 ≤ n) (h1 : n < 4294967296) : (n / 16777216) % 256 * 16777216 + (n / 65536) % 256 * 65536 + (n / 256) % 256 * 256 + n % 256 = n := by omega
theorem w4_num {a b c d : Int} (ha : H.U8 a) (hb : H.U8 b) (hc : H.U8 c) (hd : H.U8 d) : w4 (a * 16777216 + b * 65536 + c * 256 + d) = [a, b, c, d] := by
  unfold H.U8 at ha hb hc hd
  unfold w4
  rw [show (a * 16777216 + b * 65536 + c * 256 + d) / 16777216 % 256 = a by omega, show (a * 16777216 + b * 65536 + c * 256 + d) / 65536 % 256 = b by omega, show (a * 16777216 + b * 65536 + c * 256 + d) / 256 % 256 = c by omega, show (a * 16777216 + b * 65536 + c * 256 + d) % 256 = d by omega]
theorem pack_num2 (v : Int) (b : List Int) (key : Int) (h0 : 0 ≤ v) (h1 : v ≤ 2147483647) : num (packL v b key) 2 = v := num_w4 (n := v) h0 (by omega)
theorem pack_num6 (v : Int) (b : List Int) (key : Int) (h1 : b.length ≤ 2147483647) : num (packL v b key) 6 = (b.length : Int) := num_w4 (n := (b.length : Int)) (by omega) (by omega)
theorem pack_num10 (v : Int) (b : List Int) (key : Int) : num (packL v b key) 10 = wv b := num_w4 (n := wv b) (wv_range b).1 (wv_range b).2
theorem pack_num14 (v : Int) (b : List Int) (key : Int) : num (packL v b key) 14 = sealV (frontT v b ++ b) key := num_w4 (n := sealV (frontT v b ++ b) key) (sealV_range _ _).1 (sealV_range _ _).2
theorem pack_drop (v : Int) (b : List Int) (key : Int) : (packL v b key).drop 18 = b := rfl
theorem pack_take (v : Int) (b : List Int) (key : Int) : (packL v b key).take 14 = frontT v b := rfl
theorem pack_two (v : Int) (b : List Int) (key : Int) : (packL v b key).take 2 = [80, 72] := rfl
/-- What was packed is read. -/
theorem read_pack (v : Int) (b : List Int) (key : Int) (hr : rightB' v b = true) (hm : mayB key = true) : readT (packL v b key) key = (v, b, 0) := by
  obtain ⟨v0, v1, b0, b1⟩ := right_parts hr
  unfold readT
  rw [pack_drop, pack_take, pack_two, pack_num2 v b key v0 v1, pack_num6 v b key (by omega), pack_num10, pack_num14, packL_length, if_neg (by
    rintro (h | h | h | h)
    · omega
    · exact h rfl
    · rw [hr] at h; cases h
    · exact h rfl), if_neg (fun h => h rfl), if_neg (by
    rintro (h | h)
    · rw [hm] at h; cases h
    · exact h rfl)]

theorem cons_of {l : List Int} {n : Nat} (h : n + 1 ≤ l.length) : ∃ x r, l = x :: r ∧ n ≤ r.length := by
  cases l with
  | nil => cases h
  | cons x r => exact ⟨x, r, rfl, Nat.le_of_succ_le_succ h⟩
set_option maxRecDepth 100000 in
theorem pack_read (l : List Int) (key : Int) (hl : ∀ x ∈ l, H.U8 x) (h : (readT l key).2.2 = 0) : readT l key = (num l 2, l.drop 18, 0) ∧ rightB' (num l 2) (l.drop 18) = true ∧ mayB key = true ∧ packL (num l 2) (l.drop 18) key = l := by
  unfold readT at h ⊢
  by_cases c1 : l.length < 18 ∨ l.take 2 ≠ [80, 72] ∨ rightB' (num l 2) (l.drop 18) = false ∨ num l 6 ≠ ((l.drop 18).length : Int)
  · rw [if_pos c1] at h; exact absurd h (by decide)
  rw [if_neg c1] at h ⊢
  by_cases c2 : num l 10 ≠ wv (l.drop 18)
  · rw [if_pos c2] at h; exact absurd h (by decide)
  rw [if_neg c2] at h ⊢
  by_cases c3 : mayB key = false ∨ num l 14 ≠ sealV (l.take 14 ++ l.drop 18) key
  · rw [if_pos c3] at h; exact absurd h (by decide)
  rw [if_neg c3]
  simp only [not_or, Decidable.not_not, Bool.not_eq_false, Nat.not_lt] at c1 c2 c3
  obtain ⟨d1, d2, d3, d4⟩ := c1
  obtain ⟨d6, d7⟩ := c3
  refine ⟨rfl, d3, d6, ?_⟩
  obtain ⟨x0, r0, rfl, g0⟩ := cons_of d1
  obtain ⟨x1, r1, rfl, g1⟩ := cons_of g0
  obtain ⟨x2, r2, rfl, g2⟩ := cons_of g1
  obtain ⟨x3, r3, rfl, g3⟩ := cons_of g2
  obtain ⟨x4, r4, rfl, g4⟩ := cons_of g3
  obtain ⟨x5, r5, rfl, g5⟩ := cons_of g4
  obtain ⟨x6, r6, rfl, g6⟩ := cons_of g5
  obtain ⟨x7, r7, rfl, g7⟩ := cons_of g6
  obtain ⟨x8, r8, rfl, g8⟩ := cons_of g7
  obtain ⟨x9, r9, rfl, g9⟩ := cons_of g8
  obtain ⟨x10, r10, rfl, g10⟩ := cons_of g9
  obtain ⟨x11, r11, rfl, g11⟩ := cons_of g10
  obtain ⟨x12, r12, rfl, g12⟩ := cons_of g11
  obtain ⟨x13, r13, rfl, g13⟩ := cons_of g12
  obtain ⟨x14, r14, rfl, g14⟩ := cons_of g13
  obtain ⟨x15, r15, rfl, g15⟩ := cons_of g14
  obtain ⟨x16, r16, rfl, g16⟩ := cons_of g15
  obtain ⟨x17, r17, rfl, g17⟩ := cons_of g16
  have e2 : num (x0 :: x1 :: x2 :: x3 :: x4 :: x5 :: x6 :: x7 :: x8 :: x9 :: x10 :: x11 :: x12 :: x13 :: x14 :: x15 :: x16 :: x17 :: r17) 2 = x2 * 16777216 + x3 * 65536 + x4 * 256 + x5 := rfl
  have e6 : num (x0 :: x1 :: x2 :: x3 :: x4 :: x5 :: x6 :: x7 :: x8 :: x9 :: x10 :: x11 :: x12 :: x13 :: x14 :: x15 :: x16 :: x17 :: r17) 6 = x6 * 16777216 + x7 * 65536 + x8 * 256 + x9 := rfl
  have e10 : num (x0 :: x1 :: x2 :: x3 :: x4 :: x5 :: x6 :: x7 :: x8 :: x9 :: x10 :: x11 :: x12 :: x13 :: x14 :: x15 :: x16 :: x17 :: r17) 10 = x10 * 16777216 + x11 * 65536 + x12 * 256 + x13 := rfl
  have e14 : num (x0 :: x1 :: x2 :: x3 :: x4 :: x5 :: x6 :: x7 :: x8 :: x9 :: x10 :: x11 :: x12 :: x13 :: x14 :: x15 :: x16 :: x17 :: r17) 14 = x14 * 16777216 + x15 * 65536 + x16 * 256 + x17 := rfl
  have ed : (x0 :: x1 :: x2 :: x3 :: x4 :: x5 :: x6 :: x7 :: x8 :: x9 :: x10 :: x11 :: x12 :: x13 :: x14 :: x15 :: x16 :: x17 :: r17).drop 18 = r17 := rfl
  have et : (x0 :: x1 :: x2 :: x3 :: x4 :: x5 :: x6 :: x7 :: x8 :: x9 :: x10 :: x11 :: x12 :: x13 :: x14 :: x15 :: x16 :: x17 :: r17).take 14 = x0 :: x1 :: x2 :: x3 :: x4 :: x5 :: x6 :: x7 :: x8 :: x9 :: x10 :: x11 :: x12 :: x13 :: [] := rfl
  have e0 : (x0 :: x1 :: x2 :: x3 :: x4 :: x5 :: x6 :: x7 :: x8 :: x9 :: x10 :: x11 :: x12 :: x13 :: x14 :: x15 :: x16 :: x17 :: r17).take 2 = [x0, x1] := rfl
  rw [e0] at d2
  injection d2 with a0 d2
  injection d2 with a1 d2
  clear h
  rw [ed, e6] at d4
  rw [ed, e10] at c2
  rw [e14, et, ed] at d7
  have u : ∀ x, x ∈ (x0 :: x1 :: x2 :: x3 :: x4 :: x5 :: x6 :: x7 :: x8 :: x9 :: x10 :: x11 :: x12 :: x13 :: x14 :: x15 :: x16 :: x17 :: r17) → H.U8 x := hl
  have w2 := w4_num (u x2 (by simp)) (u x3 (by simp)) (u x4 (by simp)) (u x5 (by simp))
  have w6 := w4_num (u x6 (by simp)) (u x7 (by simp)) (u x8 (by simp)) (u x9 (by simp))
  have w10 := w4_num (u x10 (by simp)) (u x11 (by simp)) (u x12 (by simp)) (u x13 (by simp))
  have w14 := w4_num (u x14 (by simp)) (u x15 (by simp)) (u x16 (by simp)) (u x17 (by simp))
  have ef : frontT (x2 * 16777216 + x3 * 65536 + x4 * 256 + x5) r17 = x0 :: x1 :: x2 :: x3 :: x4 :: x5 :: x6 :: x7 :: x8 :: x9 :: x10 :: x11 :: x12 :: x13 :: [] := by
    unfold frontT
    rw [← d4, ← c2, w2, w6, w10, a0, a1]; rfl
  rw [e2, ed]
  unfold packL
  rw [ef, ← d7, w14]; rfl
end Go.Proofs.Ytfgbcpdlhdgofaa.PB

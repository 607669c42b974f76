/- What the printed Check comes to. -/
import Derived.Test.YtfbmgflkfpppmaaPx5
import Derived.Test.YtfbmgflkfpppmaaPx3
import Derived.Test.YtfbmgflkfpppmaaPureTrust
set_option linter.unusedVariables false
set_option linter.unusedSimpArgs false
namespace Go.Proofs.Ytfbmgflkfpppmaa.PB
open Go.RowKit Go.Proofs.Ytfbmgflkfpppmaa.Px Go.Proofs.YtfbmgflkfpppmaaW.PrintWords Go.Proofs.YtfbmgflkfpppmaaW.PrintLast Go.Proofs.YtfbmgflkfpppmaaW.PrintMore
/-- What a count is to a trust. -/
def kindT (b0 : Bool) (n1 c most : Int) : Int := if b0 = true then (if (c - n1 + 15) % 15 = 0 then 3 else if (c - n1 + 15) % 15 = 1 then 1 else if (c - n1 + 15) % 15 ≤ most then 4 else 6) else 2
def checkT (b0 : Bool) (n1 n2 n3 a : Int) (l : List Int) (most : Int) : Bool × Int × Int × Int × List Int × Int :=
  if (openT a l).2.2 = true then
    (if kindT b0 n1 (openT a l).2.1 most = 3 ∨ kindT b0 n1 (openT a l).2.1 most = 6 then (true, (openT a l).2.1, kindT b0 n1 (openT a l).2.1 most, wrap64 (n3 + 1), [], kindT b0 n1 (openT a l).2.1 most)
      else (true, (openT a l).2.1, kindT b0 n1 (openT a l).2.1 most, 0, (openT a l).1, kindT b0 n1 (openT a l).2.1 most))
  else (b0, n1, 5, wrap64 (n3 + 1), [], 5)
theorem openT_count (a : Int) : ∀ (l : List Int), (∀ x ∈ l, H.U8 x) → 0 ≤ (openT a l).2.1 ∧ (openT a l).2.1 < 15
  | [], _ => by simp [openT]
  | [_], _ => by simp [openT]
  | x :: y :: r, h => by
    rw [openT_cons]
    have := h y (by simp)
    unfold H.U8 at this
    by_cases c : a / 65536 = 0 ∧ r.length ≤ 6 ∧ y < 15 ∧ tsum a y r = x
    · rw [if_pos c]; exact ⟨this.1, c.2.2.1⟩
    · rw [if_neg c]; exact ⟨by decide, by decide⟩
theorem kindT_five (b0 : Bool) (n1 c most : Int) : kindT b0 n1 c most ≠ 5 := by
  unfold kindT
  repeat' split
  all_goals decide
theorem kindT_off {b0 : Bool} {n1 c most : Int} (h : kindT b0 n1 c most = 3 ∨ kindT b0 n1 c most = 6) : b0 = true := by
  cases b0 with
  | true => rfl
  | false => unfold kindT at h; rw [if_neg (by decide)] at h; omega
theorem kind_eq (b0 : Bool) (n1 n2 n3 c most : Int) (hc : 0 ≤ c ∧ c < 15) (hn : b0 = true → 0 ≤ n1 ∧ n1 ≤ 14) : ∃ q, trust_trust_kind.f b0 n1 n2 n3 c most = some q ∧ q.1 = kindT b0 n1 c most := by
  unfold trust_trust_kind.f kindT
  cases b0 with
  | false => exact ⟨_, if_neg (by decide), by rw [if_neg (by decide)]⟩
  | true =>
    have h := hn rfl
    have e : Int.tmod (wrap64 ((wrap64 (c - n1)) + 15)) 15 = (c - n1 + 15) % 15 := by
      rw [show wrap64 (c - n1) = c - n1 by unfold wrap64; omega, show wrap64 (c - n1 + 15) = c - n1 + 15 by unfold wrap64; omega, Int.tmod_eq_emod_of_nonneg (by omega)]
    rw [if_pos rfl, if_pos rfl, e]
    by_cases h1 : (c - n1 + 15) % 15 = 0
    · rw [if_pos h1, if_pos h1]; exact ⟨_, rfl, rfl⟩
    rw [if_neg h1, if_neg h1]
    by_cases h2 : (c - n1 + 15) % 15 = 1
    · rw [if_pos h2, if_pos h2]; exact ⟨_, rfl, rfl⟩
    rw [if_neg h2, if_neg h2]
    by_cases h3 : (c - n1 + 15) % 15 ≤ most
    · rw [if_pos h3, if_pos h3]; exact ⟨_, rfl, rfl⟩
    rw [if_neg h3, if_neg h3]; exact ⟨_, rfl, rfl⟩
theorem check_eq (b0 : Bool) (n1 n2 n3 a : Int) (l : List Int) (most : Int) (hw : ∀ x ∈ l, H.U8 x) (hn : b0 = true → 0 ≤ n1 ∧ n1 ≤ 14) : trust_Check.f b0 n1 n2 n3 a l most = some (checkT b0 n1 n2 n3 a l most) := by
  unfold trust_Check.f checkT
  rw [open_eq a l hw, Option.bind_some]
  by_cases ho : (openT a l).2.2 = true
  · obtain ⟨q, hq, hq1⟩ := kind_eq b0 n1 5 n3 (openT a l).2.1 most (openT_count a l hw) hn
    rw [if_pos ho, if_pos ho, hq, Option.bind_some, hq1]
    by_cases h3 : kindT b0 n1 (openT a l).2.1 most = 3 ∨ kindT b0 n1 (openT a l).2.1 most = 6
    · rw [if_pos h3, if_pos h3, kindT_off h3]
    · rw [if_neg h3, if_neg h3, if_neg (kindT_five _ _ _ _)]
  · rw [if_neg ho, if_neg ho]
theorem checkT_five (b0 : Bool) (n1 n2 n3 a : Int) (l : List Int) (most : Int) (hw : ∀ x ∈ l, H.U8 x) (hn : b0 = true → 0 ≤ n1 ∧ n1 ≤ 14) : (checkT b0 n1 n2 n3 a l most).1 = true → 0 ≤ (checkT b0 n1 n2 n3 a l most).2.1 ∧ (checkT b0 n1 n2 n3 a l most).2.1 ≤ 14 := by
  have hc := openT_count a l hw
  unfold checkT
  intro h
  by_cases ho : (openT a l).2.2 = true
  · rw [if_pos ho] at h ⊢
    by_cases h3 : kindT b0 n1 (openT a l).2.1 most = 3 ∨ kindT b0 n1 (openT a l).2.1 most = 6
    · rw [if_pos h3]; exact ⟨hc.1, by have := hc.2; show (openT a l).2.1 ≤ 14; omega⟩
    · rw [if_neg h3]; exact ⟨hc.1, by have := hc.2; show (openT a l).2.1 ≤ 14; omega⟩
  · rw [if_neg ho] at h ⊢
    exact hn h
end Go.Proofs.Ytfbmgflkfpppmaa.PB

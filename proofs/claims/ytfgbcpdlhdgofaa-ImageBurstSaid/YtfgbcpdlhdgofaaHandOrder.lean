/- Plain words of this session's own: which row of bits is ahead of another one, ranks, the first of the least. No program in sight. -/
import Derived.Test.YtfgbcpdlhdgofaaHandBits
set_option linter.unusedVariables false
set_option linter.unusedSimpArgs false
namespace Go.Proofs.Ytfgbcpdlhdgofaa.H
def Parts (a b : List Int) (d : Nat) : Prop := d < a.length ∧ d < b.length ∧ a.take d = b.take d ∧ a.getD d 0 ≠ b.getD d 0
def lessB : List Int → List Int → Bool
  | x :: a, y :: b => if x = y then lessB a b else decide (x < y)
  | _, _ => false
theorem getD_of_take {a b : List Int} {d i : Nat} (h : a.take d = b.take d) (hi : i < d) : a.getD i 0 = b.getD i 0 := by
  have h1 : (a.take d)[i]? = (b.take d)[i]? := by rw [h]
  rw [List.getElem?_take_of_lt hi, List.getElem?_take_of_lt hi] at h1
  rw [List.getD_eq_getElem?_getD, List.getD_eq_getElem?_getD, h1]
theorem Parts.symm {a b : List Int} {d : Nat} (h : Parts a b d) : Parts b a d := ⟨h.2.1, h.1, h.2.2.1.symm, fun e => h.2.2.2 e.symm⟩
theorem Parts.cons {a b : List Int} {d : Nat} (x : Int) (h : Parts a b d) : Parts (x :: a) (x :: b) (d + 1) := ⟨Nat.succ_lt_succ h.1, Nat.succ_lt_succ h.2.1, by rw [List.take_succ_cons, List.take_succ_cons, h.2.2.1], h.2.2.2⟩
theorem parts_or : ∀ a b : List Int, (∃ d, Parts a b d) ∨ a = b.take a.length ∨ b = a.take b.length
  | [], b => Or.inr (Or.inl rfl)
  | x :: a, [] => Or.inr (Or.inr rfl)
  | x :: a, y :: b => by
    by_cases h : x = y
    · subst h
      rcases parts_or a b with ⟨d, hd⟩ | h1 | h1
      · exact Or.inl ⟨d + 1, hd.cons x⟩
      · exact Or.inr (Or.inl (by rw [List.length_cons, List.take_succ_cons, ← h1]))
      · exact Or.inr (Or.inr (by rw [List.length_cons, List.take_succ_cons, ← h1]))
    · exact Or.inl ⟨0, Nat.succ_pos _, Nat.succ_pos _, rfl, h⟩
theorem lessB_parts : ∀ (a b : List Int) (d : Nat), Parts a b d → lessB a b = decide (a.getD d 0 < b.getD d 0)
  | [], _, d, h => absurd h.1 (Nat.not_lt_zero d)
  | _ :: _, [], d, h => absurd h.2.1 (Nat.not_lt_zero d)
  | x :: a, y :: b, 0, h => by
    unfold lessB
    rw [if_neg (show ¬ x = y from h.2.2.2)]; rfl
  | x :: a, y :: b, d + 1, h => by
    have h0 : x = y := getD_of_take (i := 0) h.2.2.1 (Nat.succ_pos d)
    unfold lessB
    rw [if_pos h0, lessB_parts a b d ⟨Nat.lt_of_succ_lt_succ h.1, Nat.lt_of_succ_lt_succ h.2.1, by have := h.2.2.1; rw [List.take_succ_cons, List.take_succ_cons] at this; injection this, h.2.2.2⟩]
    rfl
theorem lessB_of {a b : List Int} {d : Nat} (h : Parts a b d) (hl : a.getD d 0 < b.getD d 0) : lessB a b = true := by rw [lessB_parts a b d h]; exact decide_eq_true hl
def RankL (r : List Int) : Prop := (∀ x ∈ r, x = 0 ∨ x = 1) ∧ (r.length = 13 ∧ r.getD 12 0 = 0 ∨ r.length = 32 ∧ r.getD 12 0 = 1)
theorem RankL.len {r : List Int} (h : RankL r) : r.length ≤ 32 := by rcases h.2 with h | h <;> omega
theorem RankL.bit {r : List Int} (h : RankL r) {d : Nat} (hd : d < r.length) : r.getD d 0 = 0 ∨ r.getD d 0 = 1 := by
  apply h.1
  rw [List.getD_eq_getElem?_getD, List.getElem?_eq_getElem hd]
  exact List.getElem_mem hd
theorem RankL.parts {a b : List Int} (ha : RankL a) (hb : RankL b) (hn : a ≠ b) : ∃ d, Parts a b d := by
  have key : ∀ {a b : List Int}, RankL a → RankL b → a = b.take a.length → a = b := by
    intro a b ha hb h
    have h1 : a.length ≤ b.length := by rw [h, List.length_take]; omega
    have h2 : a.getD 12 0 = b.getD 12 0 := by
      rcases ha.2 with g | g
      · exact getD_of_take (d := a.length) (by rw [List.take_length]; exact h) (by omega)
      · exact getD_of_take (d := a.length) (by rw [List.take_length]; exact h) (by omega)
    have h3 : a.length = b.length := by rcases ha.2 with g | g <;> rcases hb.2 with k | k <;> omega
    rw [h3, List.take_length] at h; exact h
  rcases parts_or a b with h | h | h
  · exact h
  · exact absurd (key ha hb h) hn
  · exact absurd (key hb ha h).symm hn
theorem RankL.order {a b : List Int} (ha : RankL a) (hb : RankL b) (hn : a ≠ b) : lessB a b = true ∨ lessB b a = true := by
  obtain ⟨d, h⟩ := ha.parts hb hn
  rcases Int.lt_trichotomy (a.getD d 0) (b.getD d 0) with h1 | h1 | h1
  · exact Or.inl (lessB_of h h1)
  · exact absurd h1 h.2.2.2
  · exact Or.inr (lessB_of h.symm h1)
theorem and_low (n : Int) (h0 : 0 ≤ n) (h1 : n < 9223372036854775808) (m : Nat) (hm : m ≤ 62) : Go.bits .and .i64 n ((2 ^ m - 1 : Nat) : Int) = n % 2 ^ m := by
  obtain ⟨k, rfl⟩ := Int.eq_ofNat_of_zero_le h0
  have hp : (2 : Nat) ^ m ≤ 2 ^ 62 := Nat.pow_le_pow_right (by decide) hm
  rw [and_i64 k _ (by omega) (by omega), Nat.and_two_pow_sub_one_eq_mod]
  simp
end Go.Proofs.Ytfgbcpdlhdgofaa.H

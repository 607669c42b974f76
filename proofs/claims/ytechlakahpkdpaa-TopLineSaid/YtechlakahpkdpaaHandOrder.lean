/- Plain words of this session's own: which row of bits is ahead of another one, ranks, the first of the least. No program in sight. -/
import Derived.Test.YtechlakahpkdpaaHandBits
set_option linter.unusedVariables false
set_option linter.unusedSimpArgs false
namespace Go.Proofs.Ytechlakahpkdpaa.H
def Parts (a b : List Int) (d : Nat) : Prop := d < a.length ∧ d < b.length ∧ a.take d = b.take d ∧ a.getD d 0 ≠ b.getD d 0
def lessB : List Int → List Int → Bool
  | x :: a, y :: b => if x = y then lessB a b else decide (x < y)
  | _, _ => false
def whereB : List Int → List Int → Nat → Int
  | x :: a, y :: b, i => if x = y then whereB a b (i + 1) else (i : Int)
  | _, _, _ => -1
theorem getD_of_take {a b : List Int} {d i : Nat} (h : a.take d = b.take d) (hi : i < d) : a.getD i 0 = b.getD i 0 := by
  have h1 : (a.take d)[i]? = (b.take d)[i]? := by rw [h]
  rw [List.getElem?_take_of_lt hi, List.getElem?_take_of_lt hi] at h1
  rw [List.getD_eq_getElem?_getD, List.getD_eq_getElem?_getD, h1]
theorem take_of_take {a b : List Int} {d i : Nat} (h : a.take d = b.take d) (hi : i ≤ d) : a.take i = b.take i := by
  have h1 : (a.take d).take i = (b.take d).take i := by rw [h]
  rwa [List.take_take, List.take_take, Nat.min_eq_left hi] at h1
theorem Parts.symm {a b : List Int} {d : Nat} (h : Parts a b d) : Parts b a d := ⟨h.2.1, h.1, h.2.2.1.symm, fun e => h.2.2.2 e.symm⟩
theorem Parts.ne {a b : List Int} {d : Nat} (h : Parts a b d) : a ≠ b := fun e => h.2.2.2 (by rw [e])
theorem Parts.cons {a b : List Int} {d : Nat} (x : Int) (h : Parts a b d) : Parts (x :: a) (x :: b) (d + 1) := ⟨Nat.succ_lt_succ h.1, Nat.succ_lt_succ h.2.1, by rw [List.take_succ_cons, List.take_succ_cons, h.2.2.1], h.2.2.2⟩
theorem Parts.take_ne {a b : List Int} {d k : Nat} (h : Parts a b d) (hk : d < k) : a.take k ≠ b.take k := fun e => h.2.2.2 (getD_of_take e hk)
theorem parts_or : ∀ a b : List Int, (∃ d, Parts a b d) ∨ a = b.take a.length ∨ b = a.take b.length
  | [], b => Or.inr (Or.inl rfl)
  | x :: a, [] => Or.inr (Or.inr rfl)
  | x :: a, y :: b => by
    by_cases h : x = y
    · subst h
      rcases parts_or a b with ⟨d, hd⟩ | h1 | h1
      · exact Or.inl ⟨d + 1, hd.cons x⟩
      · exact Or.inr (Or.inl (by rw [List.length_cons, List.take_succ_cons, ← h1]))
      · exact Or.inr (Or.inr (by rw [List.length_cons, List.take_succ_cons, ← h1]))
    · exact Or.inl ⟨0, Nat.succ_pos _, Nat.succ_pos _, rfl, h⟩
theorem whereB_parts : ∀ (a b : List Int) (d i : Nat), Parts a b d → whereB a b i = ((i + d : Nat) : Int)
  | [], _, d, _, h => absurd h.1 (Nat.not_lt_zero d)
  | _ :: _, [], d, _, h => absurd h.2.1 (Nat.not_lt_zero d)
  | x :: a, y :: b, 0, i, h => by
    unfold whereB
    rw [if_neg (show ¬ x = y from h.2.2.2)]; rfl
  | x :: a, y :: b, d + 1, i, h => by
    have h0 : x = y := getD_of_take (i := 0) h.2.2.1 (Nat.succ_pos d)
    unfold whereB
    rw [if_pos h0, whereB_parts a b d (i + 1) ⟨Nat.lt_of_succ_lt_succ h.1, Nat.lt_of_succ_lt_succ h.2.1, by have := h.2.2.1; rw [List.take_succ_cons, List.take_succ_cons] at this; injection this, h.2.2.2⟩]
    congr 1; omega
theorem lessB_parts : ∀ (a b : List Int) (d : Nat), Parts a b d → lessB a b = decide (a.getD d 0 < b.getD d 0)
  | [], _, d, h => absurd h.1 (Nat.not_lt_zero d)
  | _ :: _, [], d, h => absurd h.2.1 (Nat.not_lt_zero d)
  | x :: a, y :: b, 0, h => by
    unfold lessB
    rw [if_neg (show ¬ x = y from h.2.2.2)]; rfl
  | x :: a, y :: b, d + 1, h => by
    have h0 : x = y := getD_of_take (i := 0) h.2.2.1 (Nat.succ_pos d)
    unfold lessB
    rw [if_pos h0, lessB_parts a b d ⟨Nat.lt_of_succ_lt_succ h.1, Nat.lt_of_succ_lt_succ h.2.1, by have := h.2.2.1; rw [List.take_succ_cons, List.take_succ_cons] at this; injection this, h.2.2.2⟩]
    rfl
theorem lessB_some : ∀ a b : List Int, lessB a b = true → ∃ d, Parts a b d ∧ a.getD d 0 < b.getD d 0
  | [], _, h => by cases h
  | _ :: _, [], h => by cases h
  | x :: a, y :: b, h => by
    unfold lessB at h
    by_cases h0 : x = y
    · rw [if_pos h0] at h
      subst h0
      obtain ⟨d, h1, h2⟩ := lessB_some a b h
      exact ⟨d + 1, h1.cons x, h2⟩
    · rw [if_neg h0] at h
      exact ⟨0, ⟨Nat.succ_pos _, Nat.succ_pos _, rfl, h0⟩, of_decide_eq_true h⟩
theorem lessB_of {a b : List Int} {d : Nat} (h : Parts a b d) (hl : a.getD d 0 < b.getD d 0) : lessB a b = true := by rw [lessB_parts a b d h]; exact decide_eq_true hl
def RankL (r : List Int) : Prop := (∀ x ∈ r, x = 0 ∨ x = 1) ∧ (r.length = 13 ∧ r.getD 12 0 = 0 ∨ r.length = 32 ∧ r.getD 12 0 = 1)
theorem RankL.len {r : List Int} (h : RankL r) : r.length ≤ 32 := by rcases h.2 with h | h <;> omega
theorem RankL.bit {r : List Int} (h : RankL r) {d : Nat} (hd : d < r.length) : r.getD d 0 = 0 ∨ r.getD d 0 = 1 := by
  apply h.1
  rw [List.getD_eq_getElem?_getD, List.getElem?_eq_getElem hd]
  exact List.getElem_mem hd
theorem RankL.parts {a b : List Int} (ha : RankL a) (hb : RankL b) (hn : a ≠ b) : ∃ d, Parts a b d := by
  have key : ∀ {a b : List Int}, RankL a → RankL b → a = b.take a.length → a = b := by
    intro a b ha hb h
    have h1 : a.length ≤ b.length := by rw [h, List.length_take]; omega
    have h2 : a.getD 12 0 = b.getD 12 0 := by
      rcases ha.2 with g | g
      · exact getD_of_take (d := a.length) (by rw [List.take_length]; exact h) (by omega)
      · exact getD_of_take (d := a.length) (by rw [List.take_length]; exact h) (by omega)
    have h3 : a.length = b.length := by rcases ha.2 with g | g <;> rcases hb.2 with k | k <;> omega
    rw [h3, List.take_length] at h; exact h
  rcases parts_or a b with h | h | h
  · exact h
  · exact absurd (key ha hb h) hn
  · exact absurd (key hb ha h).symm hn
theorem RankL.order {a b : List Int} (ha : RankL a) (hb : RankL b) (hn : a ≠ b) : lessB a b = true ∨ lessB b a = true := by
  obtain ⟨d, h⟩ := ha.parts hb hn
  rcases Int.lt_trichotomy (a.getD d 0) (b.getD d 0) with h1 | h1 | h1
  · exact Or.inl (lessB_of h h1)
  · exact absurd h1 h.2.2.2
  · exact Or.inr (lessB_of h.symm h1)
theorem RankL.zero_one {a b : List Int} (ha : RankL a) (hb : RankL b) {d : Nat} (h : Parts a b d) (hl : lessB a b = true) : a.getD d 0 = 0 ∧ b.getD d 0 = 1 := by
  rw [lessB_parts a b d h] at hl
  have := of_decide_eq_true hl
  rcases ha.bit h.1 with h1 | h1 <;> rcases hb.bit h.2.1 with h2 | h2 <;> omega
def leastB (rs : List (List Int)) : Nat → Int
  | 0 => -1
  | n + 1 => if leastB rs n < 0 ∨ lessB (rs.getD n []) (rs.getD (leastB rs n).toNat []) = true then (n : Int) else leastB rs n
theorem mem_of_getD {rs : List (List Int)} {i : Nat} (h : i < rs.length) : rs.getD i [] ∈ rs := by
  rw [List.getD_eq_getElem?_getD, List.getElem?_eq_getElem h]; exact List.getElem_mem h
theorem and_262143 (x : Int) : Go.bits .and .i64 x 262143 = x % 262144 := by
  have h1 : (BitVec.ofInt 64 x &&& 262143#64).toNat = (BitVec.ofInt 64 x).toNat % 262144 := by
    rw [BitVec.toNat_and]; exact Nat.and_two_pow_sub_one_eq_mod _ 18
  have h2 : ((BitVec.ofInt 64 x).toNat : Int) = x % 18446744073709551616 := by
    rw [BitVec.toNat_ofInt]; omega
  show IntKind.i64.wrap (((BitVec.ofInt 64 x &&& BitVec.ofInt 64 262143).toNat : Nat) : Int) = _
  rw [show BitVec.ofInt 64 262143 = 262143#64 from rfl, h1, IntKind.wrap_i64]
  omega
def bitI (b : Bool) : Int := if b = true then 1 else 0
def rankF (e : Bool) (id : Int) (rm : Bool) : List Int := if e = true then bitsOf (id / 262144) 11 ++ ([1, 1] ++ (bitsOf (id % 262144) 18 ++ [bitI rm])) else bitsOf id 11 ++ ([bitI rm] ++ [0])
def IdOk (e : Bool) (id : Int) : Prop := 0 ≤ id ∧ id < (if e = true then 536870912 else 2048)
theorem rankF_len (e : Bool) (id : Int) (rm : Bool) : (rankF e id rm).length = if e = true then 32 else 13 := by
  unfold rankF
  cases e <;> simp [bitsOf_length]
theorem rankF_RankL (e : Bool) (id : Int) (rm : Bool) : RankL (rankF e id rm) := by
  have hb : ∀ n m, ∀ x ∈ bitsOf n m, x = 0 ∨ x = 1 := fun n m => rightB_mem (bitsOf_right n m)
  have hr : bitI rm = 0 ∨ bitI rm = 1 := by unfold bitI; cases rm <;> simp
  have hl := rankF_len e id rm
  cases e with
  | false =>
    refine ⟨fun x hx => ?_, Or.inl ⟨hl, ?_⟩⟩
    · unfold rankF at hx
      rw [if_neg (by simp), List.mem_append, List.mem_append, List.mem_singleton, List.mem_singleton] at hx
      rcases hx with hx | hx | hx
      · exact hb _ _ x hx
      · rw [hx]; exact hr
      · exact Or.inl hx
    · unfold rankF
      rw [if_neg (by simp), List.getD_eq_getElem?_getD, List.getElem?_append_right (by rw [bitsOf_length]; omega), bitsOf_length]
      rfl
  | true =>
    refine ⟨fun x hx => ?_, Or.inr ⟨hl, ?_⟩⟩
    · unfold rankF at hx
      rw [if_pos rfl, List.mem_append, List.mem_append, List.mem_append, List.mem_singleton] at hx
      rcases hx with hx | hx | hx | hx
      · exact hb _ _ x hx
      · right; simpa using hx
      · exact hb _ _ x hx
      · rw [hx]; exact hr
    · unfold rankF
      rw [if_pos rfl, List.getD_eq_getElem?_getD, List.getElem?_append_right (by rw [bitsOf_length]; omega), bitsOf_length]
      rfl
end Go.Proofs.Ytechlakahpkdpaa.H

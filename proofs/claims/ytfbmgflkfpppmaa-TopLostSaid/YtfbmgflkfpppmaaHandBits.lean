/- Plain words of this session's own on rows of bits: whether a row is right, its number, its bytes. No program in sight. -/
import Derived.Test.YtfbmgflkfpppmaaHand
set_option linter.unusedVariables false
set_option linter.unusedSimpArgs false
namespace Go.Proofs.Ytfbmgflkfpppmaa.H
open Go.RowKit

/-- A number of 64 bits. -/
def W64 (x : Int) : Prop := -9223372036854775808 ≤ x ∧ x ≤ 9223372036854775807
theorem of_wf64 {x : Int} (h : (Lit.int .i64 x).wf = true) : W64 x := by
  have hmin : IntKind.i64.min = -9223372036854775808 := rfl
  have hmax : IntKind.i64.max = 9223372036854775807 := rfl
  simp only [Lit.wf, Bool.and_eq_true, decide_eq_true_eq] at h
  unfold W64; omega
def U8 (x : Int) : Prop := 0 ≤ x ∧ x ≤ 255
theorem of_wf8 {x : Int} (h : (Lit.int .u8 x).wf = true) : U8 x := by
  have hmin : IntKind.u8.min = 0 := rfl
  have hmax : IntKind.u8.max = 255 := rfl
  simp only [Lit.wf, Bool.and_eq_true, decide_eq_true_eq] at h
  unfold U8; omega
theorem of_wfu32 {x : Int} (h : (Lit.int .u32 x).wf = true) : 0 ≤ x ∧ x ≤ 4294967295 := by
  have hmin : IntKind.u32.min = 0 := rfl
  have hmax : IntKind.u32.max = 4294967295 := rfl
  simp only [Lit.wf, Bool.and_eq_true, decide_eq_true_eq] at h
  omega
theorem of_wfu16 {x : Int} (h : (Lit.int .u16 x).wf = true) : 0 ≤ x ∧ x ≤ 65535 := by
  have hmin : IntKind.u16.min = 0 := rfl
  have hmax : IntKind.u16.max = 65535 := rfl
  simp only [Lit.wf, Bool.and_eq_true, decide_eq_true_eq] at h
  omega
theorem wrap_id {x : Int} (h : W64 x) : wrap64 x = x := by unfold W64 at h; unfold wrap64; omega
theorem wrap_nat {n : Nat} (h : n ≤ 9223372036854775807) : wrap64 (n : Int) = n := by unfold wrap64; omega
theorem wrap_u8 {x : Int} (h : U8 x) : wrap64 x = x := by unfold U8 at h; unfold wrap64; omega
theorem wrap_succ {i n : Nat} (h : i < n) (hn : n ≤ 4611686018427387904) : wrap64 ((i : Int) + 1) = ((i + 1 : Nat) : Int) := by unfold wrap64; omega
theorem length_reach {α : Type} {l : List α} {b : Nat} (h : l.length * b ≤ 140737488351232) (hb : 0 < b) : l.length ≤ 4611686018427387904 := by
  have : l.length * 1 ≤ l.length * b := Nat.mul_le_mul_left _ hb
  omega

theorem snocInd {α : Type} {P : List α → Prop} (h0 : P []) (h1 : ∀ l x, P l → P (l ++ [x])) : ∀ l, P l := by
  have key : ∀ r : List α, P r.reverse := by
    intro r
    induction r with
    | nil => exact h0
    | cons x r ih => rw [List.reverse_cons]; exact h1 _ _ ih
  intro l
  rw [← List.reverse_reverse l]
  exact key _

/-! ### right rows, numbers -/
def isBit (x : Int) : Bool := x == 0 || x == 1
def rightB (l : List Int) : Bool := l.all isBit
def valB (l : List Int) : Int := l.foldl (fun n b => 2 * n + b) 0
def getB (l : List Int) : Int × Bool := if 32 < l.length then (0, false) else if rightB l then (valB l, true) else (0, false)
theorem isBit_cases {x : Int} (h : isBit x = true) : x = 0 ∨ x = 1 := by simpa [isBit] using h
theorem rightB_mem {l : List Int} (h : rightB l = true) : ∀ x ∈ l, x = 0 ∨ x = 1 := fun x hx => isBit_cases (List.all_eq_true.mp h x hx)
theorem rightB_of {l : List Int} (h : ∀ x ∈ l, x = 0 ∨ x = 1) : rightB l = true := List.all_eq_true.mpr fun x hx => by simpa [isBit] using h x hx
theorem rightB_append (a b : List Int) : rightB (a ++ b) = (rightB a && rightB b) := by simp [rightB, List.all_append]
theorem valB_snoc (l : List Int) (b : Int) : valB (l ++ [b]) = 2 * valB l + b := by simp [valB, List.foldl_append]
theorem valB_from (l : List Int) : ∀ a, l.foldl (fun n b => 2 * n + b) a = a * 2 ^ l.length + valB l := by
  induction l with
  | nil => intro a; simp [valB]
  | cons x l ih =>
    intro a
    have h1 := ih (2 * a + x)
    have h2 := ih (2 * 0 + x)
    simp only [valB, List.foldl_cons, List.length_cons] at *
    rw [h1, h2, Int.pow_succ, Int.add_mul, Int.add_mul, ← Int.add_assoc]
    congr 1
    simp only [Int.mul_zero, Int.zero_mul, Int.zero_add]
    congr 1
    rw [Int.mul_comm 2 a, Int.mul_assoc, Int.mul_comm 2]
theorem valB_append (a b : List Int) : valB (a ++ b) = valB a * 2 ^ b.length + valB b := by
  rw [show valB (a ++ b) = b.foldl (fun n b => 2 * n + b) (valB a) by simp [valB, List.foldl_append], valB_from]
theorem valB_range {l : List Int} (h : rightB l = true) : 0 ≤ valB l ∧ valB l < 2 ^ l.length := by
  revert h
  refine snocInd (P := fun l => rightB l = true → 0 ≤ valB l ∧ valB l < 2 ^ l.length) ?_ ?_ l
  · simp [valB]
  · intro l x ih h
    rw [rightB_append, Bool.and_eq_true] at h
    have h1 := ih h.1
    have h2 := rightB_mem h.2 x (by simp)
    rw [valB_snoc, List.length_append, List.length_singleton, Int.pow_succ]
    rcases h2 with rfl | rfl <;> omega
theorem getB_right {l : List Int} (h : rightB l = true) (hl : l.length ≤ 32) : getB l = (valB l, true) := by
  unfold getB; rw [if_neg (by omega), if_pos h]

/-! ### a number's bits -/
theorem bitsOf_succ (n : Int) (m : Nat) : bitsOf n (m + 1) = bitsOf (n / 2) m ++ [n % 2] := by
  apply List.ext_getElem?
  intro j
  rcases Nat.lt_trichotomy j m with h | h | h
  · rw [bitsOf_get n (m + 1) j (by omega), List.getElem?_append_left (by rw [bitsOf_length]; exact h), bitsOf_get _ m j h]
    have e : m + 1 - 1 - j = (m - 1 - j) + 1 := by omega
    rw [e, Int.pow_succ, Int.mul_comm, ← Int.ediv_ediv_of_nonneg (by omega)]
  · subst h
    rw [bitsOf_get n (j + 1) j (by omega), List.getElem?_append_right (by rw [bitsOf_length]; exact Nat.le_refl _), bitsOf_length]
    simp
  · rw [List.getElem?_eq_none (by rw [bitsOf_length]; omega), List.getElem?_eq_none (by rw [List.length_append, bitsOf_length]; simp; omega)]
theorem bitsOf_right (n : Int) (m : Nat) : rightB (bitsOf n m) = true := by
  refine rightB_of fun x hx => ?_
  simp only [bitsOf, List.mem_map] at hx
  obtain ⟨j, _, rfl⟩ := hx
  omega
theorem valB_bitsOf (m : Nat) : ∀ n : Int, 0 ≤ n → n < 2 ^ m → valB (bitsOf n m) = n := by
  induction m with
  | zero => intro n h0 h1; simp at h1; simp [bitsOf, valB]; omega
  | succ m ih =>
    intro n h0 h1
    rw [bitsOf_succ, valB_snoc, ih (n / 2) (by omega) (by rw [Int.pow_succ] at h1; omega)]
    omega
theorem bitsOf_valB {l : List Int} (h : rightB l = true) : bitsOf (valB l) l.length = l := by
  revert h
  refine snocInd (P := fun l => rightB l = true → bitsOf (valB l) l.length = l) (fun _ => rfl) ?_ l
  · intro l x ih h
    rw [rightB_append, Bool.and_eq_true] at h
    have h1 := ih h.1
    have h2 := rightB_mem h.2 x (by simp)
    rw [List.length_append, List.length_singleton, bitsOf_succ, valB_snoc]
    have e1 : (2 * valB l + x) / 2 = valB l := by omega
    have e2 : (2 * valB l + x) % 2 = x := by omega
    rw [e1, e2, h1]
theorem small_iff (n : Int) (m : Nat) : n / 2 ^ m = 0 ↔ 0 ≤ n ∧ n < 2 ^ m := by
  have hp : (0 : Int) < 2 ^ m := Int.pow_pos (by decide)
  constructor
  · intro h
    have h1 := Int.emod_add_mul_ediv n (2 ^ m)
    have h2 := Int.emod_nonneg n (Int.ne_of_gt hp)
    have h3 := Int.emod_lt_of_pos n hp
    rw [h] at h1
    simp at h1
    omega
  · rintro ⟨h0, h1⟩
    exact Int.ediv_eq_zero_of_lt h0 h1
theorem putB_yes {n : Int} {m : Nat} (hm : m ≤ 32) (h0 : 0 ≤ n) (h1 : n < 2 ^ m) : putB n m = (bitsOf n m, true) := by
  unfold putB
  rw [if_neg (by omega), if_neg (by omega), Int.toNat_natCast, if_pos ((small_iff n m).mpr ⟨h0, h1⟩)]
theorem pow32 {m : Nat} (hm : m ≤ 32) : (2 : Int) ^ m ≤ 4294967296 := by
  have h : (2 : Nat) ^ m ≤ 2 ^ 32 := Nat.pow_le_pow_right (by decide) hm
  have h' : ((2 ^ m : Nat) : Int) ≤ ((2 ^ 32 : Nat) : Int) := by exact_mod_cast h
  simpa using h'
theorem pow_pos2 (m : Nat) : (0 : Int) < 2 ^ m := Int.pow_pos (by decide)

/-! ### single bits of 64-bit numbers -/
theorem andNot_one {x : Int} (h : W64 x) : Go.bits .andNot .i64 x 1 = 0 ↔ isBit x = true := by
  have hb : (BitVec.ofInt 64 x &&& ~~~ BitVec.ofInt 64 1).toNat = (BitVec.ofInt 64 x).toNat / 2 * 2 := by
    rw [show (~~~ BitVec.ofInt 64 1) = BitVec.ofNat 64 (2 ^ 64 - 2) from rfl, BitVec.toNat_and]
    have hx := (BitVec.ofInt 64 x).isLt
    generalize (BitVec.ofInt 64 x).toNat = n at *
    rw [BitVec.toNat_ofNat]
    apply Nat.eq_of_testBit_eq
    intro i
    rw [Nat.testBit_and, show n / 2 * 2 = (n >>> 1) <<< 1 by rw [Nat.shiftRight_eq_div_pow, Nat.shiftLeft_eq], Nat.testBit_shiftLeft]
    rcases Nat.eq_zero_or_pos i with rfl | hi
    · simp
    · rw [decide_eq_true (show i ≥ 1 by omega), Nat.testBit_shiftRight, Bool.true_and, show 1 + (i - 1) = i by omega]
      by_cases h64 : i < 64
      · have : (2 ^ 64 - 2) % 2 ^ 64 = (2 ^ 63 - 1) <<< 1 := by decide
        rw [this, Nat.testBit_shiftLeft, decide_eq_true (show i ≥ 1 by omega), Nat.testBit_two_pow_sub_one]
        rw [decide_eq_true (show i - 1 < 63 by omega)]; simp
      · rw [Nat.testBit_lt_two_pow (Nat.lt_of_lt_of_le hx (Nat.pow_le_pow_right (by decide) (by omega)))]; simp
  have hn : ((BitVec.ofInt 64 x).toNat : Int) = x % 18446744073709551616 := by rw [BitVec.toNat_ofInt]; omega
  have e : Go.bits .andNot .i64 x 1 = IntKind.i64.wrap (((BitVec.ofInt 64 x &&& ~~~ BitVec.ofInt 64 1).toNat : Nat) : Int) := rfl
  rw [e, hb, IntKind.wrap_i64]
  unfold W64 at h
  simp only [isBit, Bool.or_eq_true, beq_iff_eq]
  omega
theorem or_bit {n b : Int} (h0 : 0 ≤ n) (h1 : n < 4611686018427387904) (hb : b = 0 ∨ b = 1) : Go.bits .or .i64 (n * 2) b = 2 * n + b := by
  obtain ⟨m, rfl⟩ := Int.eq_ofNat_of_zero_le h0
  have e : ((m : Int) * 2) = ((m * 2 : Nat) : Int) := by omega
  rcases hb with rfl | rfl
  · rw [e]
    have := or_i64 (m * 2) 0 (by omega) (by decide)
    rw [show ((0 : Nat) : Int) = 0 from rfl] at this
    rw [this, Nat.or_zero]; omega
  · rw [e]
    have := or_i64 (m * 2) 1 (by omega) (by decide)
    rw [show ((1 : Nat) : Int) = 1 from rfl] at this
    rw [this, nat_join 1 (m * 2) 1 (by omega) (by decide)]; omega

/-! ### bytes of a row -/
def byteAt (f : Nat → Int) (q : Nat) : Int := 128 * f (8 * q) + 64 * f (8 * q + 1) + 32 * f (8 * q + 2) + 16 * f (8 * q + 3) + 8 * f (8 * q + 4) + 4 * f (8 * q + 5) + 2 * f (8 * q + 6) + f (8 * q + 7)
def partF (l : List Int) (i j : Nat) : Int := if j < i then l.getD j 0 else 0
def partB (l : List Int) (i : Nat) : List Int := (List.range (l.length / 8)).map (byteAt (partF l i))
def bytesB (l : List Int) : List Int := (List.range (l.length / 8)).map (byteAt fun j => l.getD j 0)
def joinB (l : List Int) : List Int × Bool := if l.length % 8 = 0 then (if rightB l then (bytesB l, true) else ([], false)) else ([], false)
theorem partB_length (l : List Int) (i : Nat) : (partB l i).length = l.length / 8 := by simp [partB]
theorem partB_zero (l : List Int) : partB l 0 = List.replicate (l.length / 8) 0 := by
  apply List.ext_getElem?
  intro q
  by_cases h : q < l.length / 8
  · simp [partB, h, byteAt, partF, List.getElem?_replicate]
  · rw [List.getElem?_eq_none (by rw [partB_length]; omega), List.getElem?_eq_none (by simp; omega)]
theorem partB_full (l : List Int) : partB l l.length = bytesB l := by
  unfold partB bytesB
  refine List.map_congr_left fun q hq => ?_
  rw [List.mem_range] at hq
  unfold byteAt partF
  rw [if_pos (by omega), if_pos (by omega), if_pos (by omega), if_pos (by omega), if_pos (by omega), if_pos (by omega), if_pos (by omega), if_pos (by omega)]
theorem partF_bit {l : List Int} (hr : rightB l = true) (i j : Nat) : partF l i j = 0 ∨ partF l i j = 1 := by
  unfold partF
  split
  · by_cases h : j < l.length
    · rw [List.getD_eq_getElem?_getD, List.getElem?_eq_getElem h]; exact rightB_mem hr _ (List.getElem_mem h)
    · rw [List.getD_eq_getElem?_getD, List.getElem?_eq_none (by omega)]; exact .inl rfl
  · exact .inl rfl
theorem partF_succ (l : List Int) (i j : Nat) : partF l (i + 1) j = if j = i then l.getD i 0 else partF l i j := by
  unfold partF
  by_cases h : j = i
  · subst h; rw [if_pos (by omega), if_pos rfl]
  · rw [if_neg h]
    by_cases h2 : j < i
    · rw [if_pos (by omega), if_pos h2]
    · rw [if_neg (by omega), if_neg h2]
theorem partF_ge (l : List Int) {i j : Nat} (h : i ≤ j) : partF l i j = 0 := by unfold partF; rw [if_neg (by omega)]
theorem byteAt_other (l : List Int) (i q : Nat) (h : q ≠ i / 8) : byteAt (partF l (i + 1)) q = byteAt (partF l i) q := by
  unfold byteAt
  simp only [partF_succ]
  rw [if_neg (by omega), if_neg (by omega), if_neg (by omega), if_neg (by omega), if_neg (by omega), if_neg (by omega), if_neg (by omega), if_neg (by omega)]
/-- One more bit of the byte that it lies in. -/
theorem byteAt_step {l : List Int} (hr : rightB l = true) (i : Nat) : byteAt (partF l (i + 1)) (i / 8) = byteAt (partF l i) (i / 8) + l.getD i 0 * 2 ^ (7 - i % 8) ∧ byteAt (partF l i) (i / 8) % 2 ^ (8 - i % 8) = 0 ∧ 0 ≤ byteAt (partF l i) (i / 8) ∧ byteAt (partF l i) (i / 8) < 256 := by
  obtain ⟨q, hq⟩ : ∃ q, q = i / 8 := ⟨_, rfl⟩
  obtain ⟨r, hri⟩ : ∃ r, r = i % 8 := ⟨_, rfl⟩
  have hi : i = 8 * q + r := by omega
  have hr8 : r < 8 := by omega
  rw [← hq, ← hri]
  have b := fun j => partF_bit hr i j
  have b0 := b (8 * q); have b1 := b (8 * q + 1); have b2 := b (8 * q + 2); have b3 := b (8 * q + 3); have b4 := b (8 * q + 4); have b5 := b (8 * q + 5); have b6 := b (8 * q + 6); have b7 := b (8 * q + 7)
  clear b
  unfold byteAt
  simp only [partF_succ]
  have z : ∀ j, i ≤ j → partF l i j = 0 := fun j hj => partF_ge l hj
  rcases (by omega : r = 0 ∨ r = 1 ∨ r = 2 ∨ r = 3 ∨ r = 4 ∨ r = 5 ∨ r = 6 ∨ r = 7) with h | h | h | h | h | h | h | h
  · subst h
    rw [if_pos (by omega), if_neg (by omega), if_neg (by omega), if_neg (by omega), if_neg (by omega), if_neg (by omega), if_neg (by omega), if_neg (by omega)]
    have z0 := z (8 * q) (by omega); have z1 := z (8 * q + 1) (by omega); have z2 := z (8 * q + 2) (by omega); have z3 := z (8 * q + 3) (by omega); have z4 := z (8 * q + 4) (by omega); have z5 := z (8 * q + 5) (by omega); have z6 := z (8 * q + 6) (by omega); have z7 := z (8 * q + 7) (by omega)
    simp only [Nat.sub_zero, Nat.reduceSub]; omega
  · subst h
    rw [if_neg (by omega), if_pos (by omega), if_neg (by omega), if_neg (by omega), if_neg (by omega), if_neg (by omega), if_neg (by omega), if_neg (by omega)]
    have z1 := z (8 * q + 1) (by omega); have z2 := z (8 * q + 2) (by omega); have z3 := z (8 * q + 3) (by omega); have z4 := z (8 * q + 4) (by omega); have z5 := z (8 * q + 5) (by omega); have z6 := z (8 * q + 6) (by omega); have z7 := z (8 * q + 7) (by omega)
    simp only [Nat.reduceSub]; omega
  · subst h
    rw [if_neg (by omega), if_neg (by omega), if_pos (by omega), if_neg (by omega), if_neg (by omega), if_neg (by omega), if_neg (by omega), if_neg (by omega)]
    have z2 := z (8 * q + 2) (by omega); have z3 := z (8 * q + 3) (by omega); have z4 := z (8 * q + 4) (by omega); have z5 := z (8 * q + 5) (by omega); have z6 := z (8 * q + 6) (by omega); have z7 := z (8 * q + 7) (by omega)
    simp only [Nat.reduceSub]; omega
  · subst h
    rw [if_neg (by omega), if_neg (by omega), if_neg (by omega), if_pos (by omega), if_neg (by omega), if_neg (by omega), if_neg (by omega), if_neg (by omega)]
    have z3 := z (8 * q + 3) (by omega); have z4 := z (8 * q + 4) (by omega); have z5 := z (8 * q + 5) (by omega); have z6 := z (8 * q + 6) (by omega); have z7 := z (8 * q + 7) (by omega)
    simp only [Nat.reduceSub]; omega
  · subst h
    rw [if_neg (by omega), if_neg (by omega), if_neg (by omega), if_neg (by omega), if_pos (by omega), if_neg (by omega), if_neg (by omega), if_neg (by omega)]
    have z4 := z (8 * q + 4) (by omega); have z5 := z (8 * q + 5) (by omega); have z6 := z (8 * q + 6) (by omega); have z7 := z (8 * q + 7) (by omega)
    simp only [Nat.reduceSub]; omega
  · subst h
    rw [if_neg (by omega), if_neg (by omega), if_neg (by omega), if_neg (by omega), if_neg (by omega), if_pos (by omega), if_neg (by omega), if_neg (by omega)]
    have z5 := z (8 * q + 5) (by omega); have z6 := z (8 * q + 6) (by omega); have z7 := z (8 * q + 7) (by omega)
    simp only [Nat.reduceSub]; omega
  · subst h
    rw [if_neg (by omega), if_neg (by omega), if_neg (by omega), if_neg (by omega), if_neg (by omega), if_neg (by omega), if_pos (by omega), if_neg (by omega)]
    have z6 := z (8 * q + 6) (by omega); have z7 := z (8 * q + 7) (by omega)
    simp only [Nat.reduceSub]; omega
  · subst h
    rw [if_neg (by omega), if_neg (by omega), if_neg (by omega), if_neg (by omega), if_neg (by omega), if_neg (by omega), if_neg (by omega), if_pos (by omega)]
    have z7 := z (8 * q + 7) (by omega)
    simp only [Nat.reduceSub]; omega
theorem partB_succ (l : List Int) (i : Nat) : partB l (i + 1) = (partB l i).set (i / 8) (byteAt (partF l (i + 1)) (i / 8)) := by
  apply List.ext_getElem?
  intro q
  rw [List.getElem?_set]
  by_cases h : q < l.length / 8
  · by_cases hq : i / 8 = q
    · subst hq
      rw [if_pos rfl, if_pos (by rw [partB_length]; exact h)]
      simp [partB, h]
    · rw [if_neg hq]
      simp [partB, h, byteAt_other l i q (fun e => hq e.symm)]
  · rw [List.getElem?_eq_none (by rw [partB_length]; omega)]
    split
    · rw [if_neg (by rw [partB_length]; omega)]
    · rw [List.getElem?_eq_none (by rw [partB_length]; omega)]
theorem or_u8 {x b : Int} {r : Nat} (hr : r ≤ 7) (h0 : 0 ≤ x) (h1 : x < 256) (hx : x % 2 ^ (8 - r) = 0) (hb : b = 0 ∨ b = 1) : Go.bits .or .u8 x ((b * 2 ^ (7 - r)) % 256) = x + b * 2 ^ (7 - r) := by
  obtain ⟨n, rfl⟩ := Int.eq_ofNat_of_zero_le h0
  have hx' : n % 2 ^ (8 - r) = 0 := by exact_mod_cast hx
  have hp : 2 ^ (7 - r) ≤ 2 ^ 7 := Nat.pow_le_pow_right (by decide) (by omega)
  have e2 : 2 ^ (8 - r) = 2 * 2 ^ (7 - r) := by rw [show 8 - r = (7 - r) + 1 by omega, Nat.pow_succ, Nat.mul_comm]
  have hpos : 0 < 2 ^ (7 - r) := Nat.pow_pos (by decide)
  rcases hb with rfl | rfl
  · have := u8_or_nat n 0 (by omega) (by decide)
    simpa using this
  · have e : ((1 : Int) * 2 ^ (7 - r)) = ((2 ^ (7 - r) : Nat) : Int) := by push_cast; omega
    rw [e, show (((2 ^ (7 - r) : Nat) : Int) % 256) = ((2 ^ (7 - r) : Nat) : Int) by omega, u8_or_nat n _ (by omega) (by omega), nat_join (8 - r) n _ hx' (by omega)]
    push_cast; omega
/-! ### bytes from bits, and back -/
theorem bitsOf_cons (n : Int) (m : Nat) : bitsOf n (m + 1) = (n / 2 ^ m % 2) :: bitsOf n m := by
  apply List.ext_getElem?
  intro j
  cases j with
  | zero => rw [bitsOf_get n (m + 1) 0 (by omega)]; simp
  | succ j =>
    rw [List.getElem?_cons_succ]
    by_cases h : j < m
    · rw [bitsOf_get n (m + 1) (j + 1) (by omega), bitsOf_get n m j h, show m + 1 - 1 - (j + 1) = m - 1 - j by omega]
    · rw [List.getElem?_eq_none (by rw [bitsOf_length]; omega), List.getElem?_eq_none (by rw [bitsOf_length]; omega)]
theorem eight {c : List Int} (h : c.length = 8) : ∃ a0 a1 a2 a3 a4 a5 a6 a7, c = [a0, a1, a2, a3, a4, a5, a6, a7] := by
  match c, h with
  | [a0, a1, a2, a3, a4, a5, a6, a7], _ => exact ⟨a0, a1, a2, a3, a4, a5, a6, a7, rfl⟩
theorem bytesB_cons8 (c l : List Int) (h : c.length = 8) : bytesB (c ++ l) = valB c :: bytesB l := by
  obtain ⟨a0, a1, a2, a3, a4, a5, a6, a7, rfl⟩ := eight h
  unfold bytesB
  rw [show (([a0, a1, a2, a3, a4, a5, a6, a7] ++ l : List Int).length / 8) = l.length / 8 + 1 by simp only [List.length_append, List.length_cons, List.length_nil]; omega, List.range_succ_eq_map, List.map_cons, List.map_map]
  refine List.cons_eq_cons.mpr ⟨?_, ?_⟩
  · simp only [byteAt, valB, List.foldl_cons, List.foldl_nil, Nat.mul_zero, Nat.zero_add, List.cons_append, List.nil_append, List.getD_cons_zero, List.getD_cons_succ]; omega
  · refine List.map_congr_left fun q _ => ?_
    show byteAt _ (q + 1) = byteAt _ q
    have e : ∀ s, ([a0, a1, a2, a3, a4, a5, a6, a7] ++ l : List Int).getD (8 * (q + 1) + s) 0 = l.getD (8 * q + s) 0 := fun s => by
      rw [List.getD_eq_getElem?_getD, List.getD_eq_getElem?_getD, List.getElem?_append_right (by simp only [List.length_cons, List.length_nil]; omega)]
      congr 2
      simp only [List.length_cons, List.length_nil]; omega
    have e0 := e 0
    simp only [Nat.add_zero] at e0
    simp only [byteAt, e0, e]
theorem bytes_spread : ∀ b : List Int, (∀ x ∈ b, U8 x) → bytesB (spreadB b) = b := by
  intro b
  induction b with
  | nil => intro _; rfl
  | cons x b ih =>
    intro h
    have hx := h x (by simp)
    rw [show spreadB (x :: b) = bitsOf (wrap64 x) 8 ++ spreadB b from rfl, bytesB_cons8 _ _ (bitsOf_length _ _), ih (fun y hy => h y (by simp [hy])), wrap_u8 hx]
    unfold U8 at hx
    rw [valB_bitsOf 8 x hx.1 (by omega)]
theorem spread_right : ∀ b : List Int, rightB (spreadB b) = true := by
  intro b
  induction b with
  | nil => rfl
  | cons x b ih => rw [show spreadB (x :: b) = bitsOf (wrap64 x) 8 ++ spreadB b from rfl, rightB_append, bitsOf_right, ih]; rfl
theorem spread_len : ∀ b : List Int, (spreadB b).length = 8 * b.length := by
  intro b
  induction b with
  | nil => rfl
  | cons x b ih => rw [show spreadB (x :: b) = bitsOf (wrap64 x) 8 ++ spreadB b from rfl, List.length_append, bitsOf_length, ih, List.length_cons]; omega
theorem spread_append (a b : List Int) : spreadB (a ++ b) = spreadB a ++ spreadB b := by simp [spreadB, List.flatMap_append]
theorem join_spread (b : List Int) (h : ∀ x ∈ b, U8 x) : joinB (spreadB b) = (b, true) := by
  unfold joinB
  rw [if_pos (by rw [spread_len]; omega), if_pos (spread_right b), bytes_spread b h]
theorem spread_bytes : ∀ (n : Nat) (l : List Int), l.length = 8 * n → rightB l = true → spreadB (bytesB l) = l ∧ ∀ x ∈ bytesB l, U8 x := by
  intro n
  induction n with
  | zero => intro l hl _; obtain rfl : l = [] := List.eq_nil_of_length_eq_zero (by omega); exact ⟨rfl, by simp [bytesB]⟩
  | succ n ih =>
    intro l hl hr
    have hc : (l.take 8).length = 8 := by rw [List.length_take]; omega
    have hr' := hr
    rw [← List.take_append_drop 8 l, rightB_append, Bool.and_eq_true] at hr'
    obtain ⟨i1, i2⟩ := ih (l.drop 8) (by rw [List.length_drop]; omega) hr'.2
    have hv := valB_range hr'.1
    rw [hc] at hv
    have hu : U8 (valB (l.take 8)) := by unfold U8; omega
    have e : bytesB l = valB (l.take 8) :: bytesB (l.drop 8) := by
      have := bytesB_cons8 (l.take 8) (l.drop 8) hc
      rwa [List.take_append_drop] at this
    rw [e]
    refine ⟨?_, ?_⟩
    · rw [show spreadB (valB (l.take 8) :: bytesB (l.drop 8)) = bitsOf (wrap64 (valB (l.take 8))) 8 ++ spreadB (bytesB (l.drop 8)) from rfl, i1, wrap_u8 hu]
      have := bitsOf_valB hr'.1
      rw [hc] at this
      rw [this, List.take_append_drop]
    · intro x hx
      rcases List.mem_cons.mp hx with rfl | hx
      · exact hu
      · exact i2 x hx
theorem bytesB_length (l : List Int) : (bytesB l).length = l.length / 8 := by simp [bytesB]
end Go.Proofs.Ytfbmgflkfpppmaa.H

/- Plain words on rows that are put together, exclusively, and on rows of which some places are others. -/
import Derived.Test.YtonffeckadmlcaaPureCrc
set_option linter.unusedVariables false
set_option linter.unusedSimpArgs false
namespace Go.Proofs.Ytonffeckadmlcaa.PB
open Go.RowKit Go.Proofs.Ytonffeckadmlcaa.Px Go.Proofs.YtonffeckadmlcaaW.PrintWords Go.Proofs.YtonffeckadmlcaaW.PrintLast Go.Proofs.YtonffeckadmlcaaW.PrintMore

theorem bits_bv {n : Nat} (hn : n ≤ 62) (a b : BitVec n) : Go.bits .xor .i64 (a.toNat : Int) (b.toNat : Int) = ((a ^^^ b).toNat : Int) := by
  have hp : (2 : Nat) ^ n ≤ 2 ^ 62 := Nat.pow_le_pow_right (by decide) hn
  have ha := a.isLt
  have hb := b.isLt
  rw [H.xor_i64 _ _ (by omega) (by omega), BitVec.toNat_xor]
theorem wraps_u8 (n : Int) (h₀ : 0 ≤ n) (h₁ : n < 2 ^ 8) : IntKind.u8.wrap n = n := by rw [IntKind.wrap_u8]; omega
theorem xor_u8 (a b : Nat) (ha : a < 256) (hb : b < 256) : Go.bits .xor .u8 a b = ((a ^^^ b : Nat) : Int) := H.bits_xor_nat .u8 8 (by decide) wraps_u8 a b ha hb
theorem xor_lt8 {a b : Nat} (ha : a < 256) (hb : b < 256) : a ^^^ b < 256 := Nat.xor_lt_two_pow (n := 8) ha hb
theorem u8_nat {x : Int} (h : H.U8 x) : ∃ n : Nat, n < 256 ∧ x = (n : Int) := by
  unfold H.U8 at h
  obtain ⟨m, rfl⟩ := Int.eq_ofNat_of_zero_le h.1
  exact ⟨m, by omega, rfl⟩
theorem xor_U8 {a b : Int} (ha : H.U8 a) (hb : H.U8 b) : H.U8 (Go.bits .xor .u8 a b) := by
  obtain ⟨m, hm, rfl⟩ := u8_nat ha
  obtain ⟨n, hn, rfl⟩ := u8_nat hb
  rw [xor_u8 m n hm hn]
  have := xor_lt8 hm hn
  unfold H.U8; omega
theorem ofInt_xor {w : Nat} {a b : Int} (ha : H.U8 a) (hb : H.U8 b) : BitVec.ofInt w (Go.bits .xor .u8 a b) = BitVec.ofInt w a ^^^ BitVec.ofInt w b := by
  obtain ⟨m, hm, rfl⟩ := u8_nat ha
  obtain ⟨n, hn, rfl⟩ := u8_nat hb
  rw [xor_u8 m n hm hn, H.ofInt_nat, H.ofInt_nat, H.ofInt_nat]
  apply BitVec.eq_of_getLsbD_eq
  intro i hi
  rw [BitVec.getLsbD_xor, BitVec.getLsbD_ofNat, BitVec.getLsbD_ofNat, BitVec.getLsbD_ofNat, Nat.testBit_xor]
  simp [hi]
theorem atTop_xor (n : Nat) (a b : Bool) : H.atTop n (a ^^ b) = H.atTop n a ^^^ H.atTop n b := by
  unfold H.atTop
  cases a <;> cases b <;> simp
/-- Two rows put together, exclusively. -/
def zx (a b : List Int) : List Int := List.zipWith (Go.bits .xor .u8) a b
theorem zx_U8 : ∀ a b : List Int, (∀ x ∈ a, H.U8 x) → (∀ x ∈ b, H.U8 x) → ∀ x ∈ zx a b, H.U8 x
  | [], _, _, _, x, hx => by simp [zx] at hx
  | _ :: _, [], _, _, x, hx => by simp [zx] at hx
  | x :: a, y :: b, ha, hb, z, hz => by
    rw [zx, List.zipWith_cons_cons] at hz
    rcases List.mem_cons.mp hz with rfl | hz
    · exact xor_U8 (ha x (by simp)) (hb y (by simp))
    · exact zx_U8 a b (fun w hw => ha w (by simp [hw])) (fun w hw => hb w (by simp [hw])) z hz
theorem zx_map {w : Nat} : ∀ a b : List Int, (∀ x ∈ a, H.U8 x) → (∀ x ∈ b, H.U8 x) → (zx a b).map (BitVec.ofInt w) = List.zipWith (· ^^^ ·) (a.map (BitVec.ofInt w)) (b.map (BitVec.ofInt w))
  | [], _, _, _ => by simp [zx]
  | _ :: _, [], _, _ => by simp [zx]
  | x :: a, y :: b, ha, hb => by
    have ih := zx_map (w := w) a b (fun w hw => ha w (by simp [hw])) (fun w hw => hb w (by simp [hw]))
    rw [zx] at ih
    rw [zx, List.zipWith_cons_cons, List.map_cons, List.map_cons, List.map_cons, List.zipWith_cons_cons, ih, ofInt_xor (ha x (by simp)) (hb y (by simp))]
theorem isOne_bit (m j : Nat) : H.isOne ((m : Int) / 2 ^ j % 2) = m.testBit j := by
  rw [Nat.testBit_eq_decide_div_mod_eq]
  unfold H.isOne
  have e : ((m : Int) / 2 ^ j % 2) = ((m / 2 ^ j % 2 : Nat) : Int) := by push_cast; rfl
  rw [e]
  rcases Nat.mod_two_eq_zero_or_one (m / 2 ^ j) with h | h <;> rw [h] <;> rfl
theorem tops_bits (n : Nat) (m c : Nat) : H.tops n (H.bitsOf (m : Int) c) = (List.range c).map fun j => H.atTop n (m.testBit (c - 1 - j)) := by
  unfold H.tops H.bitsOf
  rw [List.map_map, List.map_map]
  refine List.map_congr_left fun j _ => ?_
  show H.atTop n (H.isOne _) = _
  rw [isOne_bit]
theorem zip_map {α β : Type} (g : β → β → β) (f h : α → β) : ∀ l : List α, List.zipWith g (l.map f) (l.map h) = l.map fun x => g (f x) (h x)
  | [] => rfl
  | x :: l => by rw [List.map_cons, List.map_cons, List.zipWith_cons_cons, zip_map g f h l, List.map_cons]
theorem tops_xor (n : Nat) (a b : Nat) (c : Nat) : H.tops n (H.bitsOf ((a ^^^ b : Nat) : Int) c) = List.zipWith (· ^^^ ·) (H.tops n (H.bitsOf (a : Int) c)) (H.tops n (H.bitsOf (b : Int) c)) := by
  rw [tops_bits, tops_bits, tops_bits, zip_map]
  refine List.map_congr_left fun j _ => ?_
  rw [Nat.testBit_xor, atTop_xor]
theorem tops_length (n : Nat) (l : List Int) : (H.tops n l).length = l.length := by simp [H.tops]
theorem tops_append (n : Nat) (a b : List Int) : H.tops n (a ++ b) = H.tops n a ++ H.tops n b := by simp [H.tops]
theorem tops_spread (n : Nat) : ∀ a b : List Int, (∀ x ∈ a, H.U8 x) → (∀ x ∈ b, H.U8 x) → a.length = b.length → H.tops n (H.spreadB (zx a b)) = List.zipWith (· ^^^ ·) (H.tops n (H.spreadB a)) (H.tops n (H.spreadB b))
  | [], [], _, _, _ => rfl
  | [], _ :: _, _, _, hl => by simp at hl
  | _ :: _, [], _, _, hl => by simp at hl
  | x :: a, y :: b, ha, hb, hl => by
    have ih := tops_spread n a b (fun w hw => ha w (by simp [hw])) (fun w hw => hb w (by simp [hw])) (by simpa using hl)
    have hx := ha x (by simp)
    have hy := hb y (by simp)
    rw [show zx (x :: a) (y :: b) = Go.bits .xor .u8 x y :: zx a b from rfl, show H.spreadB (Go.bits .xor .u8 x y :: zx a b) = H.bitsOf (wrap64 (Go.bits .xor .u8 x y)) 8 ++ H.spreadB (zx a b) from rfl, show H.spreadB (x :: a) = H.bitsOf (wrap64 x) 8 ++ H.spreadB a from rfl, show H.spreadB (y :: b) = H.bitsOf (wrap64 y) 8 ++ H.spreadB b from rfl, tops_append, tops_append, tops_append, ih, H.wrap_u8 hx, H.wrap_u8 hy, H.wrap_u8 (xor_U8 hx hy)]
    obtain ⟨p, hp, rfl⟩ := u8_nat hx
    obtain ⟨q, hq, rfl⟩ := u8_nat hy
    rw [xor_u8 p q hp hq, tops_xor, List.zipWith_append (by rw [tops_length, tops_length, H.bitsOf_length, H.bitsOf_length])]

/-! ### rows of which some places are others -/
/-- The c places from the k-th on are altered. -/
def pat (f : Nat → Int → Int) (k c : Nat) (l : List Int) : List Int := l.take k ++ ((List.range c).map (fun j => f j (l.getD (k + j) 0)) ++ l.drop (k + c))
theorem pat_zero (f : Nat → Int → Int) (k : Nat) (l : List Int) : pat f k 0 l = l := by simp [pat]
theorem pat_split (f : Nat → Int → Int) {k c : Nat} {l : List Int} (h : k + c < l.length) : pat f k c l = (l.take k ++ (List.range c).map (fun j => f j (l.getD (k + j) 0))) ++ (l.getD (k + c) 0 :: l.drop (k + c + 1)) := by
  rw [pat, ← rd_drop h, List.append_assoc]
theorem pat_front (f : Nat → Int → Int) {k c : Nat} {l : List Int} (h : k ≤ l.length) : (l.take k ++ (List.range c).map (fun j => f j (l.getD (k + j) 0))).length = k + c := by
  rw [List.length_append, List.length_take, List.length_map, List.length_range]; omega
theorem pat_length (f : Nat → Int → Int) {k c : Nat} {l : List Int} (h : k + c ≤ l.length) : (pat f k c l).length = l.length := by
  unfold pat
  rw [List.length_append, List.length_append, List.length_take, List.length_map, List.length_range, List.length_drop]; omega
theorem pat_at (f : Nat → Int → Int) {k c : Nat} {l : List Int} (h : k + c < l.length) : (pat f k c l).getD (k + c) 0 = l.getD (k + c) 0 := by
  have hf := pat_front f (c := c) (show k ≤ l.length by omega)
  rw [pat_split f h, List.getD_eq_getElem?_getD, List.getElem?_append_right (by omega), hf, Nat.sub_self]; rfl
theorem pat_succ (f : Nat → Int → Int) {k c : Nat} {l : List Int} (h : k + c < l.length) : (pat f k c l).set (k + c) (f c (l.getD (k + c) 0)) = pat f k (c + 1) l := by
  have hf := pat_front f (c := c) (show k ≤ l.length by omega)
  rw [pat_split f h, List.set_append_right _ _ (by omega), hf, Nat.sub_self, List.set_cons_zero, pat, List.range_succ, List.map_append]
  simp [Nat.add_assoc]
theorem pat_id {k : Nat} {l : List Int} : ∀ c : Nat, k + c ≤ l.length → pat (fun _ x => x) k c l = l
  | 0, _ => pat_zero _ _ _
  | c + 1, h => by
    have := pat_succ (fun _ x => x) (k := k) (c := c) (l := l) (by omega)
    rw [← this, pat_id c (by omega)]
    apply List.ext_getElem?
    intro j
    rw [List.getElem?_set]
    split
    · rename_i e
      subst e
      rw [if_pos (by omega), List.getD_eq_getElem?_getD, List.getElem?_eq_getElem (by omega)]; rfl
    · rfl
end Go.Proofs.Ytonffeckadmlcaa.PB

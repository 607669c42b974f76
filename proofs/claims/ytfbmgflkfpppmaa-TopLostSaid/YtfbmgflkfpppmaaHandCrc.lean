/- Plain algebra of this session's own for sums over bits and bytes (CRC): a step that is linear and one-to-one. No program in sight. -/
import Derived.Test.YtfbmgflkfpppmaaHandBits
set_option linter.unusedVariables false
set_option linter.unusedSimpArgs false
namespace Go.Proofs.Ytfbmgflkfpppmaa.H
open Go.RowKit

section
variable {n : Nat}
theorem xor_left_comm (a b c : BitVec n) : a ^^^ (b ^^^ c) = b ^^^ (a ^^^ c) := by rw [← BitVec.xor_assoc, BitVec.xor_comm a b, BitVec.xor_assoc]
theorem xor4 (a b c d : BitVec n) : (a ^^^ b) ^^^ (c ^^^ d) = (a ^^^ c) ^^^ (b ^^^ d) := by
  rw [BitVec.xor_assoc, xor_left_comm b c d, ← BitVec.xor_assoc]
theorem xor_cancel (a b : BitVec n) : a ^^^ (a ^^^ b) = b := by rw [← BitVec.xor_assoc, BitVec.xor_self, BitVec.zero_xor]
/-- A linear step. -/
structure Lin (L : BitVec n → BitVec n) : Prop where
  add : ∀ a b, L (a ^^^ b) = L a ^^^ L b
theorem Lin.zero {L : BitVec n → BitVec n} (h : Lin L) : L 0#n = 0#n := by
  have := h.add 0#n 0#n
  rw [BitVec.xor_self, BitVec.xor_self] at this
  exact this
theorem Lin.comp {L M : BitVec n → BitVec n} (h : Lin L) (k : Lin M) : Lin (fun x => L (M x)) := ⟨fun a b => by show L (M (a ^^^ b)) = _; rw [k.add, h.add]⟩
/-- It takes nothing but 0 to 0. -/
def One (L : BitVec n → BitVec n) : Prop := ∀ a, L a = 0#n → a = 0#n
theorem One.comp {L M : BitVec n → BitVec n} (h : One L) (k : One M) : One (fun x => L (M x)) := fun a ha => k a (h _ ha)
def iter (L : BitVec n → BitVec n) : Nat → BitVec n → BitVec n
  | 0, s => s
  | m + 1, s => iter L m (L s)
theorem iter_lin {L : BitVec n → BitVec n} (h : Lin L) : ∀ m, Lin (iter L m)
  | 0 => ⟨fun _ _ => rfl⟩
  | m + 1 => ⟨fun a b => by show iter L m (L (a ^^^ b)) = iter L m (L a) ^^^ iter L m (L b); rw [h.add, (iter_lin h m).add]⟩
theorem iter_one {L : BitVec n → BitVec n} (h : One L) : ∀ m, One (iter L m)
  | 0 => fun _ ha => ha
  | m + 1 => fun a ha => h _ (iter_one h m _ ha)
theorem iter_succ' (L : BitVec n → BitVec n) : ∀ m s, iter L (m + 1) s = L (iter L m s)
  | 0, _ => rfl
  | m + 1, s => by show iter L (m + 1) (L s) = L (iter L m (L s)); exact iter_succ' L m (L s)
/-- A register that takes words, one by one. -/
def fold (L : BitVec n → BitVec n) (s : BitVec n) (xs : List (BitVec n)) : BitVec n := xs.foldl (fun s x => L (s ^^^ x)) s
theorem fold_append (L : BitVec n → BitVec n) (s : BitVec n) (xs ys : List (BitVec n)) : fold L s (xs ++ ys) = fold L (fold L s xs) ys := by simp [fold, List.foldl_append]
theorem fold_cons (L : BitVec n → BitVec n) (s x : BitVec n) (xs : List (BitVec n)) : fold L s (x :: xs) = fold L (L (s ^^^ x)) xs := rfl
theorem fold_zip {L : BitVec n → BitVec n} (h : Lin L) : ∀ (xs ys : List (BitVec n)) (s t : BitVec n), xs.length = ys.length → fold L (s ^^^ t) (List.zipWith (· ^^^ ·) xs ys) = fold L s xs ^^^ fold L t ys
  | [], [], _, _, _ => rfl
  | x :: xs, y :: ys, s, t, hl => by
    rw [List.zipWith_cons_cons, fold_cons, fold_cons, fold_cons, xor4, h.add]
    exact fold_zip h xs ys _ _ (by simpa using hl)
  | [], _ :: _, _, _, hl => by simp at hl
  | _ :: _, [], _, _, hl => by simp at hl
theorem fold_same {L : BitVec n → BitVec n} (h : Lin L) (xs : List (BitVec n)) : ∀ s t, fold L s xs ^^^ fold L t xs = iter L xs.length (s ^^^ t) := by
  induction xs with
  | nil => intro s t; rfl
  | cons x xs ih =>
    intro s t
    rw [fold_cons, fold_cons, ih, ← h.add, xor4, BitVec.xor_self, BitVec.xor_zero]
    rfl
theorem fold_zeros {L : BitVec n → BitVec n} (h : Lin L) : ∀ m, fold L 0#n (List.replicate m 0#n) = 0#n
  | 0 => rfl
  | m + 1 => by rw [List.replicate_succ, fold_cons, BitVec.xor_zero, h.zero, fold_zeros h m]
/-- Rows that part in their middles alone have sums that part by what the middles make. -/
theorem fold_mid {L : BitVec n → BitVec n} (h : Lin L) (s : BitVec n) (pre a b post : List (BitVec n)) (hl : a.length = b.length) :
    fold L s (pre ++ (a ++ post)) ^^^ fold L s (pre ++ (b ++ post)) = iter L post.length (fold L 0#n (List.zipWith (· ^^^ ·) a b)) := by
  rw [fold_append, fold_append, fold_append, fold_append, fold_same h, ← fold_zip h a b _ _ hl, BitVec.xor_self]
theorem fold_mid_ne {L : BitVec n → BitVec n} (h : Lin L) (k : One L) (s : BitVec n) (pre a b post : List (BitVec n)) (hl : a.length = b.length) (hd : fold L 0#n (List.zipWith (· ^^^ ·) a b) ≠ 0#n) :
    fold L s (pre ++ (a ++ post)) ≠ fold L s (pre ++ (b ++ post)) := by
  intro he
  have := fold_mid h s pre a b post hl
  rw [he, BitVec.xor_self] at this
  exact hd (iter_one k _ _ this.symm)

/-! ### the step of a polynomial, the highest bit first -/
def stepZ (p : BitVec n) (s : BitVec n) : BitVec n := if s.msb then s <<< 1 ^^^ p else s <<< 1
theorem stepZ_lin (p : BitVec n) : Lin (stepZ p) := ⟨fun a b => by
  unfold stepZ
  rw [BitVec.msb_xor, BitVec.shiftLeft_xor_distrib]
  cases a.msb <;> cases b.msb <;> simp
  · rw [BitVec.xor_assoc]
  · rw [BitVec.xor_assoc, BitVec.xor_assoc, BitVec.xor_comm p]
  · rw [xor4, BitVec.xor_self, BitVec.xor_zero]⟩
theorem stepZ_one {p : BitVec n} (hn : 0 < n) (hp : p.getLsbD 0 = true) : One (stepZ p) := fun a ha => by
  unfold stepZ at ha
  cases hm : a.msb with
  | true =>
    rw [hm, if_pos rfl] at ha
    have : (a <<< 1 ^^^ p).getLsbD 0 = (0#n).getLsbD 0 := by rw [ha]
    rw [BitVec.getLsbD_xor, BitVec.getLsbD_shiftLeft, hp] at this
    simp at this
  | false =>
    rw [hm, if_neg (by decide)] at ha
    apply BitVec.eq_of_getLsbD_eq
    intro i hi
    rw [BitVec.getLsbD_zero]
    by_cases h1 : i + 1 < n
    · have : (a <<< 1).getLsbD (i + 1) = (0#n).getLsbD (i + 1) := by rw [ha]
      rw [BitVec.getLsbD_shiftLeft] at this
      simpa [h1] using this
    · rw [BitVec.msb_eq_getLsbD_last] at hm
      rw [show i = n - 1 by omega]; exact hm
theorem stepZ_shift (p : BitVec n) {t : BitVec n} (h0 : t.getLsbD 0 = false) : stepZ p (t >>> 1) = t := by
  have hm : (t >>> 1).msb = false := by
    rw [BitVec.msb_eq_getLsbD_last, BitVec.getLsbD_ushiftRight]
    exact BitVec.getLsbD_of_ge _ _ (by omega)
  unfold stepZ
  rw [hm, if_neg (by decide)]
  apply BitVec.eq_of_getLsbD_eq
  intro i hi
  rw [BitVec.getLsbD_shiftLeft, BitVec.getLsbD_ushiftRight]
  rcases Nat.eq_zero_or_pos i with rfl | h
  · simp [h0]
  · simp [hi, show ¬ i < 1 by omega, show 1 + (i - 1) = i by omega]
/-- A bit at the top. -/
def atTop (n : Nat) (b : Bool) : BitVec n := if b then BitVec.twoPow n (n - 1) else 0#n
/-- Bits as a number's highest ones. -/
def top (n : Nat) : List Bool → BitVec n
  | [] => 0#n
  | b :: p => atTop n b ^^^ (top n p >>> 1)
theorem atTop_low {b : Bool} {i : Nat} (h : i + 1 < n) : (atTop n b).getLsbD i = false := by
  unfold atTop
  cases b
  · simp
  · rw [if_pos rfl, BitVec.getLsbD_twoPow]; simp; omega
theorem top_low : ∀ (p : List Bool) (i : Nat), i + p.length < n → (top n p).getLsbD i = false
  | [], _, _ => by simp [top]
  | b :: p, i, h => by
    rw [List.length_cons] at h
    rw [top, BitVec.getLsbD_xor, BitVec.getLsbD_ushiftRight, atTop_low (by omega), top_low p (1 + i) (by omega)]; rfl
/-- Bits that a register takes one by one are as good as taken at once. -/
theorem fold_top (P : BitVec n) : ∀ (p : List Bool) (s : BitVec n), p.length ≤ n → fold (stepZ P) s (p.map (atTop n)) = iter (stepZ P) p.length (s ^^^ top n p)
  | [], s, _ => by simp [fold, iter, top]
  | b :: p, s, h => by
    rw [List.length_cons] at h
    rw [List.map_cons, fold_cons, fold_top P p _ (by omega), List.length_cons]
    show iter _ p.length _ = iter _ p.length (stepZ P (s ^^^ (atTop n b ^^^ (top n p >>> 1))))
    rw [← BitVec.xor_assoc, (stepZ_lin P).add (s ^^^ atTop n b), stepZ_shift P (top_low p 0 (by omega))]
theorem top_zero (hn : 0 < n) : ∀ p : List Bool, p.length ≤ n → top n p = 0#n → ∀ b ∈ p, b = false
  | [], _, _, b, hb => by simp at hb
  | b :: p, h, h0, c, hc => by
    rw [List.length_cons] at h
    have hm : (top n (b :: p)).msb = false := by rw [h0]; simp
    have hm2 : (top n p >>> 1).msb = false := by
      rw [BitVec.msb_eq_getLsbD_last, BitVec.getLsbD_ushiftRight]
      exact BitVec.getLsbD_of_ge _ _ (by omega)
    rw [top, BitVec.msb_xor, hm2] at hm
    have hb : b = false := by
      cases b
      · rfl
      · simp [atTop, BitVec.msb_twoPow] at hm; omega
    subst hb
    have ht : top n p >>> 1 = 0#n := by simpa [top, atTop] using h0
    have ht2 : top n p = 0#n := by
      have := stepZ_shift 0#n (top_low p 0 (by omega) : (top n p).getLsbD 0 = false)
      rw [ht, (stepZ_lin 0#n).zero] at this
      exact this.symm
    rcases List.mem_cons.mp hc with rfl | hc
    · rfl
    · exact top_zero hn p (by omega) ht2 c hc
end

/-! ### the register of the program's text -/
def isOne (b : Int) : Bool := b == 1
theorem regB_bit {n : Nat} (hn : 0 < n) (hn2 : n ≤ 62) (P s : BitVec n) {b : Int} (hb : b = 0 ∨ b = 1) : regB P s b = stepZ P (s ^^^ atTop n (isOne b)) := by
  have hlt := s.isLt
  have h2 : 2 ^ n = 2 * 2 ^ (n - 1) := by rw [show n = (n - 1) + 1 by omega, Nat.pow_succ, Nat.mul_comm]; simp
  have hpos : 0 < 2 ^ (n - 1) := Nat.pow_pos (by decide)
  have hm : s.msb = decide (2 ^ (n - 1) ≤ s.toNat) := BitVec.msb_eq_decide s
  have hq : s.toNat / 2 ^ (n - 1) = if s.msb then 1 else 0 := by
    rw [hm]
    by_cases h : 2 ^ (n - 1) ≤ s.toNat
    · rw [decide_eq_true h, if_pos rfl]
      exact Nat.div_eq_of_lt_le (by omega) (by omega)
    · rw [decide_eq_false h, if_neg (by decide)]
      exact Nat.div_eq_of_lt (by omega)
  have htm : (s ^^^ BitVec.twoPow n (n - 1)).msb = !s.msb := by rw [BitVec.msb_xor, BitVec.msb_twoPow]; simp [show n - 1 < n by omega]
  have hsh : (s ^^^ BitVec.twoPow n (n - 1)) <<< 1 = s <<< 1 := by
    rw [BitVec.shiftLeft_xor_distrib]
    have : BitVec.twoPow n (n - 1) <<< 1 = 0#n := by
      apply BitVec.eq_of_getLsbD_eq
      intro i hi
      rw [BitVec.getLsbD_shiftLeft, BitVec.getLsbD_twoPow]
      simp
      omega
    rw [this, BitVec.xor_zero]
  unfold regB
  rw [hq]
  unfold stepZ
  rcases hb with rfl | rfl
  · simp only [isOne, atTop, show ((0 : Int) == 1) = false from rfl, if_neg (show ¬ (false = true) by decide), BitVec.xor_zero]
    cases s.msb
    · simp [show Go.bits .xor .i64 0 0 = 0 from rfl]
    · simp [show Go.bits .xor .i64 1 0 = 1 from rfl]
  · simp only [isOne, atTop, show ((1 : Int) == 1) = true from rfl, if_pos, htm, hsh]
    cases s.msb
    · simp [show Go.bits .xor .i64 0 1 = 1 from rfl]
    · simp [show Go.bits .xor .i64 1 1 = 0 from rfl]
def tops (n : Nat) (l : List Int) : List (BitVec n) := (l.map isOne).map (atTop n)
theorem reg_fold {n : Nat} (hn : 0 < n) (hn2 : n ≤ 62) (P : BitVec n) : ∀ (l : List Int) (s : BitVec n), rightB l = true → l.foldl (regB P) s = fold (stepZ P) s (tops n l)
  | [], _, _ => rfl
  | b :: l, s, h => by
    have hb := rightB_mem h b (by simp)
    have hl : rightB l = true := rightB_of fun x hx => rightB_mem h x (by simp [hx])
    show List.foldl _ (regB P s b) l = fold _ (stepZ P (s ^^^ atTop n (isOne b))) (tops n l)
    rw [reg_fold hn hn2 P l _ hl, regB_bit hn hn2 P s hb]
abbrev P15 : BitVec 15 := 0x4599#15
abbrev P8 : BitVec 8 := 0x1D#8
theorem crcB_fold {l : List Int} (h : rightB l = true) : crcB l = fold (stepZ P15) 0#15 (tops 15 l) := reg_fold (by decide) (by decide) _ l _ h
theorem lin15 : Lin (stepZ P15) := stepZ_lin _
theorem one15 : One (stepZ P15) := stepZ_one (by decide) (by decide)
theorem lin8 : Lin (stepZ P8) := stepZ_lin _
theorem one8 : One (stepZ P8) := stepZ_one (by decide) (by decide)

/-! ### a number's bits at the top -/
theorem top_get {n : Nat} : ∀ (p : List Bool) (i : Nat) (h : i < p.length), p.length ≤ n → (top n p).getLsbD (n - 1 - i) = p[i]
  | b :: p, 0, h, hn => by
    rw [List.length_cons] at hn
    rw [top, BitVec.getLsbD_xor, BitVec.getLsbD_ushiftRight, BitVec.getLsbD_of_ge (top n p) _ (by omega), List.getElem_cons_zero]
    unfold atTop
    cases b
    · simp
    · rw [if_pos rfl, BitVec.getLsbD_twoPow]; simp; omega
  | b :: p, i + 1, h, hn => by
    rw [List.length_cons] at h hn
    rw [top, BitVec.getLsbD_xor, BitVec.getLsbD_ushiftRight, atTop_low (by omega), Bool.false_xor, show 1 + (n - 1 - (i + 1)) = n - 1 - i by omega, top_get p i (by omega) (by omega), List.getElem_cons_succ]
theorem top_bits {n : Nat} (s : BitVec n) : top n ((bitsOf (s.toNat : Int) n).map isOne) = s := by
  apply BitVec.eq_of_getLsbD_eq
  intro i hi
  have hl : ((bitsOf (s.toNat : Int) n).map isOne).length = n := by rw [List.length_map, bitsOf_length]
  have := top_get (n := n) ((bitsOf (s.toNat : Int) n).map isOne) (n - 1 - i) (by omega) (by omega)
  rw [show n - 1 - (n - 1 - i) = i by omega] at this
  rw [this, List.getElem_map]
  have hg := bitsOf_get (s.toNat : Int) n (n - 1 - i) (by omega)
  rw [show n - 1 - (n - 1 - i) = i by omega] at hg
  have hg2 := (List.getElem?_eq_some_iff.1 hg).2
  rw [hg2]
  show isOne _ = s.toNat.testBit i
  rw [Nat.testBit_eq_decide_div_mod_eq]
  unfold isOne
  have e : ((s.toNat : Int) / 2 ^ i % 2) = ((s.toNat / 2 ^ i % 2 : Nat) : Int) := by push_cast; rfl
  rw [e]
  rcases Nat.mod_two_eq_zero_or_one (s.toNat / 2 ^ i) with h | h <;> rw [h] <;> rfl
/-- A row and its sum's own bits behind it have the sum 0. -/
theorem crcB_own {l : List Int} (h : rightB l = true) : crcB (l ++ bitsOf ((crcB l).toNat : Int) 15) = 0#15 := by
  have hr : rightB (l ++ bitsOf ((crcB l).toNat : Int) 15) = true := by rw [rightB_append, h, bitsOf_right]; rfl
  rw [crcB_fold hr]
  unfold tops
  rw [List.map_append, List.map_append, fold_append, show fold (stepZ P15) 0#15 (List.map (atTop 15) (List.map isOne l)) = crcB l from (crcB_fold h).symm, fold_top P15 _ _ (by rw [List.length_map, bitsOf_length]; exact Nat.le_refl _), top_bits, BitVec.xor_self, (iter_lin lin15 _).zero]

/-! ### the sum of 8 bits over bytes -/
def E8 : BitVec 8 → BitVec 8 := iter (stepZ P8) 8
theorem linE8 : Lin E8 := iter_lin lin8 8
theorem oneE8 : One E8 := iter_one one8 8
theorem ofInt_nat {w : Nat} (x : Nat) : BitVec.ofInt w (x : Int) = BitVec.ofNat w x := by simp
theorem regX_E8 (s : BitVec 8) {x : Int} (hx : U8 x) : regX s x = E8 (s ^^^ BitVec.ofInt 8 x) := by
  have h1 : regX s x = (bitsOf (wrap64 x) 8).foldl (regB P8) s := rfl
  have hx' := hx
  unfold U8 at hx'
  obtain ⟨m, rfl⟩ := Int.eq_ofNat_of_zero_le hx'.1
  rw [h1, wrap_u8 hx, reg_fold (by decide) (by decide) P8 _ _ (bitsOf_right _ _)]
  unfold tops
  rw [fold_top P8 _ _ (by rw [List.length_map, bitsOf_length]; exact Nat.le_refl _), List.length_map, bitsOf_length]
  have e : (m : Int) = ((BitVec.ofNat 8 m).toNat : Int) := by rw [BitVec.toNat_ofNat]; omega
  rw [ofInt_nat]
  conv => lhs; rw [e, top_bits]
  rfl
def bytes8 (l : List Int) : List (BitVec 8) := l.map (BitVec.ofInt 8)
theorem crcX_fold : ∀ (l : List Int) (s : BitVec 8), (∀ x ∈ l, U8 x) → l.foldl regX s = fold E8 s (bytes8 l)
  | [], _, _ => rfl
  | x :: l, s, h => by
    show List.foldl regX (regX s x) l = fold E8 (E8 (s ^^^ BitVec.ofInt 8 x)) (bytes8 l)
    rw [crcX_fold l _ (fun y hy => h y (by simp [hy])), regX_E8 s (h x (by simp))]

/-! ### the sum of 32 bits over bytes -/
theorem oneW_eq (c : BitVec 32) : oneW c = c >>> 1 ^^^ (if c.getLsbD 0 then 0xEDB88320#32 else 0#32) := by
  unfold oneW
  have : c.getLsbD 0 = decide (c.toNat % 2 = 1) := by
    show c.toNat.testBit 0 = _
    rw [Nat.testBit_eq_decide_div_mod_eq]; simp
  rw [this]
  by_cases h : c.toNat % 2 = 1
  · rw [if_pos h, decide_eq_true h, if_pos rfl]
  · rw [if_neg h, decide_eq_false h, if_neg (by decide)]
theorem linW1 : Lin oneW := ⟨fun a b => by
  rw [oneW_eq, oneW_eq, oneW_eq, BitVec.getLsbD_xor, BitVec.ushiftRight_xor_distrib]
  cases a.getLsbD 0 <;> cases b.getLsbD 0
  · simp
  · simp [BitVec.xor_assoc]
  · simp only [Bool.true_xor, Bool.not_false, if_true, if_false, BitVec.xor_zero]
    rw [BitVec.xor_assoc, BitVec.xor_assoc, BitVec.xor_comm (b >>> 1)]; simp
  · rw [xor4, BitVec.xor_self]; simp⟩
theorem oneW1 : One oneW := fun a ha => by
  rw [oneW_eq] at ha
  cases hm : a.getLsbD 0 with
  | true =>
    rw [hm, if_pos rfl] at ha
    have : (a >>> 1 ^^^ 0xEDB88320#32).getLsbD 31 = (0#32).getLsbD 31 := by rw [ha]
    rw [BitVec.getLsbD_xor, BitVec.getLsbD_ushiftRight, BitVec.getLsbD_of_ge a _ (by omega)] at this
    exact absurd this (by decide)
  | false =>
    rw [hm, if_neg (by decide), BitVec.xor_zero] at ha
    apply BitVec.eq_of_getLsbD_eq
    intro i hi
    rw [BitVec.getLsbD_zero]
    rcases Nat.eq_zero_or_pos i with rfl | h
    · exact hm
    · have : (a >>> 1).getLsbD (i - 1) = (0#32).getLsbD (i - 1) := by rw [ha]
      rw [BitVec.getLsbD_ushiftRight, show 1 + (i - 1) = i by omega, BitVec.getLsbD_zero] at this
      exact this
theorem eightW_iter : eightW = iter oneW 8 := rfl
theorem linW : Lin eightW := iter_lin linW1 8
theorem oneW8 : One eightW := iter_one oneW1 8
theorem oneW_shift {y : BitVec 32} (h : y.getLsbD 31 = false) : oneW (y <<< 1) = y := by
  rw [oneW_eq, BitVec.getLsbD_shiftLeft]
  simp only [show ((decide (0 < 32) && !decide (0 < 1) && y.getLsbD (0 - 1)) = false) by simp, if_neg (show ¬ (false = true) by decide), BitVec.xor_zero]
  apply BitVec.eq_of_getLsbD_eq
  intro i hi
  rw [BitVec.getLsbD_ushiftRight, BitVec.getLsbD_shiftLeft]
  by_cases h31 : i < 31
  · simp [show 1 + i < 32 by omega]
  · rw [show i = 31 by omega, h]; simp
theorem iter_shift : ∀ (m : Nat) (y : BitVec 32), (∀ i, 32 - m ≤ i → y.getLsbD i = false) → m ≤ 32 → iter oneW m (y <<< m) = y
  | 0, y, _, _ => by simp [iter]
  | m + 1, y, h, hm => by
    show iter oneW m (oneW (y <<< (m + 1))) = y
    rw [BitVec.shiftLeft_add, oneW_shift, iter_shift m y (fun i hi => h i (by omega)) (by omega)]
    rw [BitVec.getLsbD_shiftLeft]
    by_cases h31 : 31 < m
    · simp [h31]
    · rw [h (31 - m) (by omega)]; simp
/-- No bit from the k-th on. -/
def Low (k : Nat) (y : BitVec 32) : Prop := ∀ i, k ≤ i → y.getLsbD i = false
theorem eightW_back {u v : BitVec 32} (hv : Low 24 v) (h : eightW u = v) : u = v <<< 8 := by
  have h1 : eightW (v <<< 8) = v := iter_shift 8 v (fun i hi => hv i (by omega)) (by omega)
  have h2 : eightW (u ^^^ v <<< 8) = 0#32 := by rw [linW.add, h, h1, BitVec.xor_self]
  exact BitVec.xor_eq_zero_iff.mp (oneW8 _ h2)
theorem Low.put {k : Nat} {d w : BitVec 32} (hd : Low 8 d) (hw : Low k w) : Low (k + 8) (d ^^^ w <<< 8) := fun i hi => by
  rw [BitVec.getLsbD_xor, BitVec.getLsbD_shiftLeft, hd i (by omega), hw (i - 8) (by omega)]; simp
theorem put_zero {d w : BitVec 32} (hd : Low 8 d) (hw : Low 24 w) (h : d ^^^ w <<< 8 = 0#32) : d = 0#32 ∧ w = 0#32 := by
  have hb : ∀ i, (d ^^^ w <<< 8).getLsbD i = false := fun i => by rw [h, BitVec.getLsbD_zero]
  constructor
  · apply BitVec.eq_of_getLsbD_eq
    intro i hi
    rw [BitVec.getLsbD_zero]
    by_cases h8 : i < 8
    · have := hb i
      rw [BitVec.getLsbD_xor, BitVec.getLsbD_shiftLeft] at this
      simpa [h8] using this
    · exact hd i (by omega)
  · apply BitVec.eq_of_getLsbD_eq
    intro i hi
    rw [BitVec.getLsbD_zero]
    by_cases h24 : i < 24
    · have := hb (i + 8)
      rw [BitVec.getLsbD_xor, BitVec.getLsbD_shiftLeft, hd (i + 8) (by omega)] at this
      simpa [show i + 8 < 32 by omega] using this
    · exact hw i (by omega)
theorem four_zero {d0 d1 d2 d3 : BitVec 32} (h0 : Low 8 d0) (h1 : Low 8 d1) (h2 : Low 8 d2) (h3 : Low 8 d3) (h : fold eightW 0#32 [d0, d1, d2, d3] = 0#32) : d0 = 0#32 ∧ d1 = 0#32 ∧ d2 = 0#32 ∧ d3 = 0#32 := by
  have e : eightW (eightW (eightW (eightW (0#32 ^^^ d0) ^^^ d1) ^^^ d2) ^^^ d3) = 0#32 := h
  rw [BitVec.zero_xor] at e
  have a3 := oneW8 _ e
  have b3 := BitVec.xor_eq_zero_iff.mp a3
  have c3 := eightW_back (fun i hi => h3 i (by omega)) b3
  have l3 : Low 16 (d2 ^^^ d3 <<< 8) := h2.put h3
  have b2 : eightW (eightW d0 ^^^ d1) = d2 ^^^ d3 <<< 8 := by rw [← c3, BitVec.xor_comm _ d2, xor_cancel]
  have c2 := eightW_back (fun i hi => l3 i (by omega)) b2
  have l2 : Low 24 (d1 ^^^ (d2 ^^^ d3 <<< 8) <<< 8) := h1.put l3
  have b1 : eightW d0 = d1 ^^^ (d2 ^^^ d3 <<< 8) <<< 8 := by rw [← c2, BitVec.xor_comm _ d1, xor_cancel]
  have c1 := eightW_back l2 b1
  have z1 := put_zero (d := d0) (w := d1 ^^^ (d2 ^^^ d3 <<< 8) <<< 8) h0 l2 (BitVec.xor_eq_zero_iff.mpr c1)
  have z2 := put_zero h1 (fun i hi => l3 i (by omega)) z1.2
  have z3 := put_zero h2 (fun i hi => h3 i (by omega)) z2.2
  exact ⟨z1.1, z2.1, z3.1, z3.2⟩
def bytes32 (l : List Int) : List (BitVec 32) := l.map (BitVec.ofInt 32)
theorem crcW_fold (c : BitVec 32) (l : List Int) : crcW c l = fold eightW c (bytes32 l) := by
  unfold crcW fold bytes32
  rw [List.foldl_map]; rfl
theorem low_byte {x : Int} (h : U8 x) : Low 8 (BitVec.ofInt 32 x) := fun i hi => by
  unfold U8 at h
  obtain ⟨m, rfl⟩ := Int.eq_ofNat_of_zero_le h.1
  rw [ofInt_nat]
  show (BitVec.ofNat 32 m).toNat.testBit i = false
  rw [BitVec.toNat_ofNat]
  refine Nat.testBit_lt_two_pow (Nat.lt_of_le_of_lt (Nat.mod_le _ _) (Nat.lt_of_lt_of_le (show m < 2 ^ 8 by omega) (Nat.pow_le_pow_right (by decide) hi)))
end Go.Proofs.Ytfbmgflkfpppmaa.H

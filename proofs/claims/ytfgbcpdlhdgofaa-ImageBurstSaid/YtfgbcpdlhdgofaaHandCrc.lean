/- Plain algebra of this session's own for sums over bits and bytes (CRC): a step that is linear and one-to-one. No program in sight. -/
import Derived.Test.YtfgbcpdlhdgofaaHandBits
set_option linter.unusedVariables false
set_option linter.unusedSimpArgs false
namespace Go.Proofs.Ytfgbcpdlhdgofaa.H
open Go.RowKit
section
variable {n : Nat}
theorem xor_left_comm (a b c : BitVec n) : a ^^^ (b ^^^ c) = b ^^^ (a ^^^ c) := by rw [← BitVec.xor_assoc, BitVec.xor_comm a b, BitVec.xor_assoc]
theorem xor4 (a b c d : BitVec n) : (a ^^^ b) ^^^ (c ^^^ d) = (a ^^^ c) ^^^ (b ^^^ d) := by
  rw [BitVec.xor_assoc, xor_left_comm b c d, ← BitVec.xor_assoc]
theorem xor_cancel (a b : BitVec n) : a ^^^ (a ^^^ b) = b := by rw [← BitVec.xor_assoc, BitVec.xor_self, BitVec.zero_xor]
structure Lin (L : BitVec n → BitVec n) : Prop where
  add : ∀ a b, L (a ^^^ b) = L a ^^^ L b
theorem Lin.zero {L : BitVec n → BitVec n} (h : Lin L) : L 0#n = 0#n := by
  have := h.add 0#n 0#n
  rw [BitVec.xor_self, BitVec.xor_self] at this
  exact this
def One (L : BitVec n → BitVec n) : Prop := ∀ a, L a = 0#n → a = 0#n
def iter (L : BitVec n → BitVec n) : Nat → BitVec n → BitVec n
  | 0, s => s
  | m + 1, s => iter L m (L s)
theorem iter_lin {L : BitVec n → BitVec n} (h : Lin L) : ∀ m, Lin (iter L m)
  | 0 => ⟨fun _ _ => rfl⟩
  | m + 1 => ⟨fun a b => by show iter L m (L (a ^^^ b)) = iter L m (L a) ^^^ iter L m (L b); rw [h.add, (iter_lin h m).add]⟩
theorem iter_one {L : BitVec n → BitVec n} (h : One L) : ∀ m, One (iter L m)
  | 0 => fun _ ha => ha
  | m + 1 => fun a ha => h _ (iter_one h m _ ha)
def fold (L : BitVec n → BitVec n) (s : BitVec n) (xs : List (BitVec n)) : BitVec n := xs.foldl (fun s x => L (s ^^^ x)) s
theorem fold_append (L : BitVec n → BitVec n) (s : BitVec n) (xs ys : List (BitVec n)) : fold L s (xs ++ ys) = fold L (fold L s xs) ys := by simp [fold, List.foldl_append]
theorem fold_cons (L : BitVec n → BitVec n) (s x : BitVec n) (xs : List (BitVec n)) : fold L s (x :: xs) = fold L (L (s ^^^ x)) xs := rfl
theorem fold_zip {L : BitVec n → BitVec n} (h : Lin L) : ∀ (xs ys : List (BitVec n)) (s t : BitVec n), xs.length = ys.length → fold L (s ^^^ t) (List.zipWith (· ^^^ ·) xs ys) = fold L s xs ^^^ fold L t ys
  | [], [], _, _, _ => rfl
  | x :: xs, y :: ys, s, t, hl => by
    rw [List.zipWith_cons_cons, fold_cons, fold_cons, fold_cons, xor4, h.add]
    exact fold_zip h xs ys _ _ (by simpa using hl)
  | [], _ :: _, _, _, hl => by simp at hl
  | _ :: _, [], _, _, hl => by simp at hl
theorem fold_same {L : BitVec n → BitVec n} (h : Lin L) (xs : List (BitVec n)) : ∀ s t, fold L s xs ^^^ fold L t xs = iter L xs.length (s ^^^ t) := by
  induction xs with
  | nil => intro s t; rfl
  | cons x xs ih =>
    intro s t
    rw [fold_cons, fold_cons, ih, ← h.add, xor4, BitVec.xor_self, BitVec.xor_zero]
    rfl
theorem fold_mid {L : BitVec n → BitVec n} (h : Lin L) (s : BitVec n) (pre a b post : List (BitVec n)) (hl : a.length = b.length) :
    fold L s (pre ++ (a ++ post)) ^^^ fold L s (pre ++ (b ++ post)) = iter L post.length (fold L 0#n (List.zipWith (· ^^^ ·) a b)) := by
  rw [fold_append, fold_append, fold_append, fold_append, fold_same h, ← fold_zip h a b _ _ hl, BitVec.xor_self]
theorem fold_mid_ne {L : BitVec n → BitVec n} (h : Lin L) (k : One L) (s : BitVec n) (pre a b post : List (BitVec n)) (hl : a.length = b.length) (hd : fold L 0#n (List.zipWith (· ^^^ ·) a b) ≠ 0#n) :
    fold L s (pre ++ (a ++ post)) ≠ fold L s (pre ++ (b ++ post)) := by
  intro he
  have := fold_mid h s pre a b post hl
  rw [he, BitVec.xor_self] at this
  exact hd (iter_one k _ _ this.symm)
def atTop (n : Nat) (b : Bool) : BitVec n := if b then BitVec.twoPow n (n - 1) else 0#n
def top (n : Nat) : List Bool → BitVec n
  | [] => 0#n
  | b :: p => atTop n b ^^^ (top n p >>> 1)
end
theorem ofInt_nat {w : Nat} (x : Nat) : BitVec.ofInt w (x : Int) = BitVec.ofNat w x := by simp
theorem oneW_eq (c : BitVec 32) : oneW c = c >>> 1 ^^^ (if c.getLsbD 0 then 0xEDB88320#32 else 0#32) := by
  unfold oneW
  have : c.getLsbD 0 = decide (c.toNat % 2 = 1) := by
    show c.toNat.testBit 0 = _
    rw [Nat.testBit_eq_decide_div_mod_eq]; simp
  rw [this]
  by_cases h : c.toNat % 2 = 1
  · rw [if_pos h, decide_eq_true h, if_pos rfl]
  · rw [if_neg h, decide_eq_false h, if_neg (by decide)]
theorem linW1 : Lin oneW := ⟨fun a b => by
  rw [oneW_eq, oneW_eq, oneW_eq, BitVec.getLsbD_xor, BitVec.ushiftRight_xor_distrib]
  cases a.getLsbD 0 <;> cases b.getLsbD 0
  · simp
  · simp [BitVec.xor_assoc]
  · simp only [Bool.true_xor, Bool.not_false, if_true, if_false, BitVec.xor_zero]
    rw [BitVec.xor_assoc, BitVec.xor_assoc, BitVec.xor_comm (b >>> 1)]; simp
  · rw [xor4, BitVec.xor_self]; simp⟩
theorem oneW1 : One oneW := fun a ha => by
  rw [oneW_eq] at ha
  cases hm : a.getLsbD 0 with
  | true =>
    rw [hm, if_pos rfl] at ha
    have : (a >>> 1 ^^^ 0xEDB88320#32).getLsbD 31 = (0#32).getLsbD 31 := by rw [ha]
    rw [BitVec.getLsbD_xor, BitVec.getLsbD_ushiftRight, BitVec.getLsbD_of_ge a _ (by omega)] at this
    exact absurd this (by decide)
  | false =>
    rw [hm, if_neg (by decide), BitVec.xor_zero] at ha
    apply BitVec.eq_of_getLsbD_eq
    intro i hi
    rw [BitVec.getLsbD_zero]
    rcases Nat.eq_zero_or_pos i with rfl | h
    · exact hm
    · have : (a >>> 1).getLsbD (i - 1) = (0#32).getLsbD (i - 1) := by rw [ha]
      rw [BitVec.getLsbD_ushiftRight, show 1 + (i - 1) = i by omega, BitVec.getLsbD_zero] at this
      exact this
theorem linW : Lin eightW := iter_lin linW1 8
theorem oneW8 : One eightW := iter_one oneW1 8
theorem oneW_shift {y : BitVec 32} (h : y.getLsbD 31 = false) : oneW (y <<< 1) = y := by
  rw [oneW_eq, BitVec.getLsbD_shiftLeft]
  simp only [show ((decide (0 < 32) && !decide (0 < 1) && y.getLsbD (0 - 1)) = false) by simp, if_neg (show ¬ (false = true) by decide), BitVec.xor_zero]
  apply BitVec.eq_of_getLsbD_eq
  intro i hi
  rw [BitVec.getLsbD_ushiftRight, BitVec.getLsbD_shiftLeft]
  by_cases h31 : i < 31
  · simp [show 1 + i < 32 by omega]
  · rw [show i = 31 by omega, h]; simp
theorem iter_shift : ∀ (m : Nat) (y : BitVec 32), (∀ i, 32 - m ≤ i → y.getLsbD i = false) → m ≤ 32 → iter oneW m (y <<< m) = y
  | 0, y, _, _ => by simp [iter]
  | m + 1, y, h, hm => by
    show iter oneW m (oneW (y <<< (m + 1))) = y
    rw [BitVec.shiftLeft_add, oneW_shift, iter_shift m y (fun i hi => h i (by omega)) (by omega)]
    rw [BitVec.getLsbD_shiftLeft]
    by_cases h31 : 31 < m
    · simp [h31]
    · rw [h (31 - m) (by omega)]; simp
def Low (k : Nat) (y : BitVec 32) : Prop := ∀ i, k ≤ i → y.getLsbD i = false
theorem eightW_back {u v : BitVec 32} (hv : Low 24 v) (h : eightW u = v) : u = v <<< 8 := by
  have h1 : eightW (v <<< 8) = v := iter_shift 8 v (fun i hi => hv i (by omega)) (by omega)
  have h2 : eightW (u ^^^ v <<< 8) = 0#32 := by rw [linW.add, h, h1, BitVec.xor_self]
  exact BitVec.xor_eq_zero_iff.mp (oneW8 _ h2)
theorem Low.put {k : Nat} {d w : BitVec 32} (hd : Low 8 d) (hw : Low k w) : Low (k + 8) (d ^^^ w <<< 8) := fun i hi => by
  rw [BitVec.getLsbD_xor, BitVec.getLsbD_shiftLeft, hd i (by omega), hw (i - 8) (by omega)]; simp
theorem put_zero {d w : BitVec 32} (hd : Low 8 d) (hw : Low 24 w) (h : d ^^^ w <<< 8 = 0#32) : d = 0#32 ∧ w = 0#32 := by
  have hb : ∀ i, (d ^^^ w <<< 8).getLsbD i = false := fun i => by rw [h, BitVec.getLsbD_zero]
  constructor
  · apply BitVec.eq_of_getLsbD_eq
    intro i hi
    rw [BitVec.getLsbD_zero]
    by_cases h8 : i < 8
    · have := hb i
      rw [BitVec.getLsbD_xor, BitVec.getLsbD_shiftLeft] at this
      simpa [h8] using this
    · exact hd i (by omega)
  · apply BitVec.eq_of_getLsbD_eq
    intro i hi
    rw [BitVec.getLsbD_zero]
    by_cases h24 : i < 24
    · have := hb (i + 8)
      rw [BitVec.getLsbD_xor, BitVec.getLsbD_shiftLeft, hd (i + 8) (by omega)] at this
      simpa [show i + 8 < 32 by omega] using this
    · exact hw i (by omega)
theorem four_zero {d0 d1 d2 d3 : BitVec 32} (h0 : Low 8 d0) (h1 : Low 8 d1) (h2 : Low 8 d2) (h3 : Low 8 d3) (h : fold eightW 0#32 [d0, d1, d2, d3] = 0#32) : d0 = 0#32 ∧ d1 = 0#32 ∧ d2 = 0#32 ∧ d3 = 0#32 := by
  have e : eightW (eightW (eightW (eightW (0#32 ^^^ d0) ^^^ d1) ^^^ d2) ^^^ d3) = 0#32 := h
  rw [BitVec.zero_xor] at e
  have a3 := oneW8 _ e
  have b3 := BitVec.xor_eq_zero_iff.mp a3
  have c3 := eightW_back (fun i hi => h3 i (by omega)) b3
  have l3 : Low 16 (d2 ^^^ d3 <<< 8) := h2.put h3
  have b2 : eightW (eightW d0 ^^^ d1) = d2 ^^^ d3 <<< 8 := by rw [← c3, BitVec.xor_comm _ d2, xor_cancel]
  have c2 := eightW_back (fun i hi => l3 i (by omega)) b2
  have l2 : Low 24 (d1 ^^^ (d2 ^^^ d3 <<< 8) <<< 8) := h1.put l3
  have b1 : eightW d0 = d1 ^^^ (d2 ^^^ d3 <<< 8) <<< 8 := by rw [← c2, BitVec.xor_comm _ d1, xor_cancel]
  have c1 := eightW_back l2 b1
  have z1 := put_zero (d := d0) (w := d1 ^^^ (d2 ^^^ d3 <<< 8) <<< 8) h0 l2 (BitVec.xor_eq_zero_iff.mpr c1)
  have z2 := put_zero h1 (fun i hi => l3 i (by omega)) z1.2
  have z3 := put_zero h2 (fun i hi => h3 i (by omega)) z2.2
  exact ⟨z1.1, z2.1, z3.1, z3.2⟩
def bytes32 (l : List Int) : List (BitVec 32) := l.map (BitVec.ofInt 32)
theorem crcW_fold (c : BitVec 32) (l : List Int) : crcW c l = fold eightW c (bytes32 l) := by
  unfold crcW fold bytes32
  rw [List.foldl_map]; rfl
theorem low_byte {x : Int} (h : U8 x) : Low 8 (BitVec.ofInt 32 x) := fun i hi => by
  unfold U8 at h
  obtain ⟨m, rfl⟩ := Int.eq_ofNat_of_zero_le h.1
  rw [ofInt_nat]
  show (BitVec.ofNat 32 m).toNat.testBit i = false
  rw [BitVec.toNat_ofNat]
  refine Nat.testBit_lt_two_pow (Nat.lt_of_le_of_lt (Nat.mod_le _ _) (Nat.lt_of_lt_of_le (show m < 2 ^ 8 by omega) (Nat.pow_le_pow_right (by decide) hi)))
end Go.Proofs.Ytfgbcpdlhdgofaa.H

/- What the printed functions of guarded bytes come to, and sums of bytes that part within eight bits. -/
import Derived.Test.YtfbmgflkfpppmaaPx1
import Derived.Test.YtfbmgflkfpppmaaPx4
import Derived.Test.YtfbmgflkfpppmaaPureHead16
set_option linter.unusedVariables false
set_option linter.unusedSimpArgs false
namespace Go.Proofs.Ytfbmgflkfpppmaa.PB
open Go.RowKit Go.Proofs.Ytfbmgflkfpppmaa.Px Go.Proofs.YtfbmgflkfpppmaaW.PrintWords Go.Proofs.YtfbmgflkfpppmaaW.PrintLast Go.Proofs.YtfbmgflkfpppmaaW.PrintMore
def wrapT (a c : Int) (l : List Int) : List Int × Bool := if a / 65536 = 0 ∧ 0 ≤ c ∧ c < 15 ∧ l.length ≤ 6 then (tsum a c l :: c % 256 :: l, true) else ([], false)
theorem wrap_eq (a c : Int) (l : List Int) : trust_Wrap.f a c l = some (wrapT a c l) := by
  unfold trust_Wrap.f wrapT
  by_cases h1 : a / 65536 = 0
  · rw [if_pos h1]
    by_cases h2 : c < 0
    · rw [if_pos h2, if_neg (by omega)]
    rw [if_neg h2]
    by_cases h3 : c ≥ 15
    · rw [if_pos h3, if_neg (by omega)]
    rw [if_neg h3]
    by_cases h4 : (l.length : Int) > 6
    · rw [if_pos h4, if_neg (by omega)]
    rw [if_neg h4, trustSum_eq a c l (by omega), Option.bind_some, Option.bind_some, if_pos (by simp only [List.length_cons, List.length_nil]; omega), if_pos ⟨h1, by omega, by omega, by omega⟩]
    rfl
  · rw [if_neg h1, if_neg (fun h => h1 h.1)]
def openT (a : Int) : List Int → List Int × Int × Bool
  | x :: y :: r => if a / 65536 = 0 ∧ r.length ≤ 6 ∧ y < 15 ∧ tsum a y r = x then (r, y, true) else ([], 0, false)
  | _ => ([], 0, false)
theorem openT_cons (a x y : Int) (r : List Int) : openT a (x :: y :: r) = if a / 65536 = 0 ∧ r.length ≤ 6 ∧ y < 15 ∧ tsum a y r = x then (r, y, true) else ([], 0, false) := rfl
theorem open_eq (a : Int) (l : List Int) (hw : ∀ x ∈ l, H.U8 x) : trust_Open.f a l = some (openT a l) := by
  match l with
  | [] => unfold trust_Open.f openT; split <;> rfl
  | [x] => unfold trust_Open.f openT; split <;> rfl
  | x :: y :: r =>
    have hy := hw y (by simp)
    have hx' := hw x (by simp)
    have hy' := hy
    unfold H.U8 at hx' hy'
    have e1 : rd (x :: y :: r) 1 = y := rfl
    have e0 : rd (x :: y :: r) 0 = x := rfl
    unfold trust_Open.f openT
    simp only [List.length_cons]
    by_cases c1 : a / 65536 = 0
    case neg => rw [if_neg c1, if_neg (fun h => c1 h.1)]
    rw [if_pos c1, if_neg (by omega)]
    by_cases c3 : r.length ≤ 6
    case neg => rw [if_pos (by omega), if_neg (fun h => c3 h.2.1)]
    rw [if_neg (by omega), if_pos (by omega), e1]
    by_cases c4 : y ≥ 15
    · rw [if_pos c4, if_neg (fun h => by omega)]
    rw [if_neg c4, if_pos (by omega), H.wrap_u8 hy, show (x :: y :: r).drop 2 = r from rfl, trustSum_eq a y r (by omega), Option.bind_some, if_pos (by omega), e0]
    by_cases c5 : tsum a y r = x
    · rw [if_pos c5, show bytes_Clone.f r = some r from if_pos (by omega), Option.bind_some, if_pos ⟨c1, c3, by omega, c5⟩]
    · rw [if_neg c5, if_neg (fun h => c5 h.2.2.2)]
theorem tsum_U8 (a c : Int) (l : List Int) : H.U8 (tsum a c l) := by have := tsum_range a c l; unfold H.U8; omega
theorem wrapT_U8 (a c : Int) (l : List Int) (hw : ∀ x ∈ l, H.U8 x) : ∀ x ∈ (wrapT a c l).1, H.U8 x := by
  unfold wrapT
  split
  · intro x hx
    rcases List.mem_cons.mp hx with rfl | hx
    · exact tsum_U8 _ _ _
    rcases List.mem_cons.mp hx with rfl | hx
    · unfold H.U8; omega
    · exact hw x hx
  · intro x hx; cases hx
theorem openT_U8 (a : Int) : ∀ (l : List Int), (∀ x ∈ l, H.U8 x) → ∀ x ∈ (openT a l).1, H.U8 x
  | [], _, x, hx => by simp [openT] at hx
  | [_], _, x, hx => by simp [openT] at hx
  | a0 :: b0 :: r, h, x, hx => by
    rw [openT_cons] at hx
    by_cases c : a / 65536 = 0 ∧ r.length ≤ 6 ∧ b0 < 15 ∧ tsum a b0 r = a0
    · rw [if_pos c] at hx; exact h x (List.mem_cons_of_mem _ (List.mem_cons_of_mem _ hx))
    · rw [if_neg c] at hx; cases hx
/-- What was wrapped is opened. -/
theorem open_wrap (a c : Int) (l : List Int) (h1 : a / 65536 = 0) (h2 : 0 ≤ c) (h3 : c < 15) (h4 : l.length ≤ 6) : wrapT a c l = (tsum a c l :: c :: l, true) ∧ openT a (tsum a c l :: c :: l) = (l, c, true) := by
  constructor
  · unfold wrapT; rw [if_pos ⟨h1, h2, h3, h4⟩, show c % 256 = c by omega]
  · rw [openT_cons, if_pos ⟨h1, h4, h3, rfl⟩]
theorem tsum_inj {a c a' c' : Int} {l l' : List Int} (h : tsum a c l = tsum a' c' l') : H.crcX ([(a / 256) % 256, a % 256, c % 256] ++ l) = H.crcX ([(a' / 256) % 256, a' % 256, c' % 256] ++ l') := by
  unfold tsum at h
  have h1 : H.crcX ([(a / 256) % 256, a % 256, c % 256] ++ l) ^^^ 0xFF#8 = H.crcX ([(a' / 256) % 256, a' % 256, c' % 256] ++ l') ^^^ 0xFF#8 := BitVec.eq_of_toNat_eq (by omega)
  have h2 := congrArg (· ^^^ 0xFF#8) h1
  simpa [BitVec.xor_assoc] using h2
theorem ofInt8_inj {x y : Int} (hx : H.U8 x) (hy : H.U8 y) (h : BitVec.ofInt 8 x = BitVec.ofInt 8 y) : x = y := by
  unfold H.U8 at hx hy
  have := congrArg BitVec.toNat h
  rw [BitVec.toNat_ofInt, BitVec.toNat_ofInt] at this
  omega
theorem crcX_one (pre post : List Int) (x y : Int) (hp : ∀ z ∈ pre, H.U8 z) (hq : ∀ z ∈ post, H.U8 z) (hx : H.U8 x) (hy : H.U8 y) (hne : x ≠ y) : H.crcX (pre ++ x :: post) ≠ H.crcX (pre ++ y :: post) := by
  have hX : ∀ z ∈ pre ++ x :: post, H.U8 z := fun z hz => by
    rcases List.mem_append.mp hz with h | h
    · exact hp z h
    rcases List.mem_cons.mp h with rfl | h
    · exact hx
    · exact hq z h
  have hY : ∀ z ∈ pre ++ y :: post, H.U8 z := fun z hz => by
    rcases List.mem_append.mp hz with h | h
    · exact hp z h
    rcases List.mem_cons.mp h with rfl | h
    · exact hy
    · exact hq z h
  unfold H.crcX
  rw [H.crcX_fold _ _ hX, H.crcX_fold _ _ hY]
  unfold H.bytes8
  rw [List.map_append, List.map_append, List.map_cons, List.map_cons]
  refine H.fold_mid_ne H.linE8 H.oneE8 _ _ [BitVec.ofInt 8 x] [BitVec.ofInt 8 y] _ rfl ?_
  show H.E8 (0#8 ^^^ (BitVec.ofInt 8 x ^^^ BitVec.ofInt 8 y)) ≠ 0#8
  intro he
  have h1 := H.oneE8 _ he
  rw [BitVec.zero_xor] at h1
  exact hne (ofInt8_inj hx hy (BitVec.xor_eq_zero_iff.mp h1))
theorem head3_U8 (a c : Int) : ∀ z ∈ [(a / 256) % 256, a % 256, c % 256], H.U8 z := fun z hz => by
  simp only [List.mem_cons, List.not_mem_nil, or_false] at hz
  rcases hz with rfl | rfl | rfl <;> (unfold H.U8; omega)
theorem tsum_count (a c c' : Int) (l : List Int) (hl : ∀ z ∈ l, H.U8 z) (hc : H.U8 c) (hc' : H.U8 c') (hne : c ≠ c') : tsum a c l ≠ tsum a c' l := fun h => by
  have h1 := tsum_inj h
  unfold H.U8 at hc hc'
  refine crcX_one [(a / 256) % 256, a % 256] l (c % 256) (c' % 256) ?_ hl ?_ ?_ (by omega) h1
  · intro z hz
    simp only [List.mem_cons, List.not_mem_nil, or_false] at hz
    rcases hz with rfl | rfl <;> (unfold H.U8; omega)
  · unfold H.U8; omega
  · unfold H.U8; omega
theorem tsum_byte (a c : Int) (l : List Int) (hl : ∀ z ∈ l, H.U8 z) (k : Nat) (hk : k < l.length) (z : Int) (hz : H.U8 z) (hne : z ≠ l.getD k 0) : tsum a c (l.set k z) ≠ tsum a c l := fun h => by
  have h1 := tsum_inj h
  have e1 : l.set k z = l.take k ++ z :: l.drop (k + 1) := List.set_eq_take_append_cons_drop .. |>.trans (by rw [if_pos hk])
  have e2 : l = l.take k ++ l.getD k 0 :: l.drop (k + 1) := by
    rw [← rd_drop hk, List.take_append_drop]
  rw [e1] at h1
  conv at h1 => rhs; rw [e2]
  rw [← List.append_assoc, ← List.append_assoc] at h1
  refine crcX_one _ _ z (l.getD k 0) ?_ ?_ hz ?_ hne h1
  · intro y hy
    rcases List.mem_append.mp hy with h | h
    · exact head3_U8 a c y h
    · exact hl y (List.mem_of_mem_take h)
  · exact fun y hy => hl y (List.mem_of_mem_drop hy)
  · exact hl _ (rd_mem hk)
/-- A byte of what was wrapped is another one: it is not opened. -/
theorem open_turned (a c : Int) (l : List Int) (hl : ∀ z ∈ l, H.U8 z) (h0 : 0 ≤ c) (h1 : c < 15) (k : Nat) (hk : k < l.length + 2) (z : Int) (hz : H.U8 z) (hne : z ≠ (tsum a c l :: c :: l).getD k 0) : (openT a ((tsum a c l :: c :: l).set k z)).2.2 = false := by
  have hc : H.U8 c := by unfold H.U8; omega
  match k, hk, hne with
  | 0, _, hne =>
    show (openT a (z :: c :: l)).2.2 = false
    rw [openT_cons, if_neg (fun h => hne h.2.2.2.symm)]
  | 1, _, hne =>
    show (openT a (tsum a c l :: z :: l)).2.2 = false
    rw [openT_cons, if_neg (fun h => tsum_count a z c l hl hz hc hne h.2.2.2)]
  | k + 2, hk, hne =>
    show (openT a (tsum a c l :: c :: l.set k z)).2.2 = false
    rw [openT_cons, if_neg (fun h => tsum_byte a c l hl k (by omega) z hz hne h.2.2.2)]
theorem two_ne : ∀ x : Fin 256, x.val ≠ 0 → ∀ s : Fin 9, H.E8 (H.E8 (BitVec.ofNat 8 (x.val * 2 ^ s.val / 256)) ^^^ BitVec.ofNat 8 (x.val * 2 ^ s.val % 256)) ≠ 0#8 := by decide +kernel
/-- An id of which some bits, all within eight, one behind the other, are others. -/
theorem tsum_other (_a c : Int) (l : List Int) (hl : ∀ z ∈ l, H.U8 z) (m x s : Nat) (hm : m < 65536) (hx : x < 256) (h0 : x ≠ 0) (hs : s < 9) : tsum ((m ^^^ (x * 2 ^ s) : Nat) : Int) c l ≠ tsum (m : Int) c l := fun h => by
  have h1 := tsum_inj h
  have hX : ∀ z ∈ [((m ^^^ (x * 2 ^ s) : Nat) : Int) / 256 % 256, ((m ^^^ (x * 2 ^ s) : Nat) : Int) % 256, c % 256] ++ l, H.U8 z := fun z hz => by
    rcases List.mem_append.mp hz with h | h
    · exact head3_U8 _ c z h
    · exact hl z h
  have hY : ∀ z ∈ [(m : Int) / 256 % 256, (m : Int) % 256, c % 256] ++ l, H.U8 z := fun z hz => by
    rcases List.mem_append.mp hz with h | h
    · exact head3_U8 _ c z h
    · exact hl z h
  unfold H.crcX at h1
  rw [H.crcX_fold _ _ hX, H.crcX_fold _ _ hY] at h1
  unfold H.bytes8 at h1
  rw [List.map_append, List.map_append] at h1
  have ht : x * 2 ^ s < 65536 := by
    have : 2 ^ s ≤ 2 ^ 8 := Nat.pow_le_pow_right (by decide) (by omega)
    calc x * 2 ^ s ≤ 255 * 2 ^ 8 := Nat.mul_le_mul (by omega) this
      _ < 65536 := by decide
  have b1 : ∀ u : Nat, u < 65536 → BitVec.ofInt 8 ((u : Int) / 256 % 256) = BitVec.ofNat 8 (u / 256) := fun u hu => by
    rw [show (u : Int) / 256 % 256 = ((u / 256 : Nat) : Int) by omega, H.ofInt_nat]
  have b2 : ∀ u : Nat, BitVec.ofInt 8 ((u : Int) % 256) = BitVec.ofNat 8 (u % 256) := fun u => by
    rw [show (u : Int) % 256 = ((u % 256 : Nat) : Int) by omega, H.ofInt_nat]
  have hxor : m ^^^ (x * 2 ^ s) < 65536 := Nat.xor_lt_two_pow (n := 16) hm ht
  refine H.fold_mid_ne (n := 8) (L := H.E8) H.linE8 H.oneE8 0xFF#8 [] [BitVec.ofInt 8 (((m ^^^ (x * 2 ^ s) : Nat) : Int) / 256 % 256), BitVec.ofInt 8 (((m ^^^ (x * 2 ^ s) : Nat) : Int) % 256)] [BitVec.ofInt 8 ((m : Int) / 256 % 256), BitVec.ofInt 8 ((m : Int) % 256)] (BitVec.ofInt 8 (c % 256) :: l.map (BitVec.ofInt 8)) rfl ?_ h1
  have hb : ∀ u v : Nat, BitVec.ofNat 8 (u ^^^ v) ^^^ BitVec.ofNat 8 u = BitVec.ofNat 8 v := fun u v => by
    apply BitVec.eq_of_getLsbD_eq
    intro i hi
    rw [BitVec.getLsbD_xor, BitVec.getLsbD_ofNat, BitVec.getLsbD_ofNat, BitVec.getLsbD_ofNat, Nat.testBit_xor]
    cases m : u.testBit i <;> cases n : v.testBit i <;> simp [hi]
  have e1 : BitVec.ofInt 8 (((m ^^^ (x * 2 ^ s) : Nat) : Int) / 256 % 256) ^^^ BitVec.ofInt 8 ((m : Int) / 256 % 256) = BitVec.ofNat 8 (x * 2 ^ s / 256) := by
    rw [b1 _ hxor, b1 _ hm, show (m ^^^ (x * 2 ^ s)) / 256 = (m / 256) ^^^ (x * 2 ^ s / 256) from Nat.xor_div_two_pow (n := 8) .., hb]
  have e2 : BitVec.ofInt 8 (((m ^^^ (x * 2 ^ s) : Nat) : Int) % 256) ^^^ BitVec.ofInt 8 ((m : Int) % 256) = BitVec.ofNat 8 (x * 2 ^ s % 256) := by
    rw [b2, b2, show (m ^^^ (x * 2 ^ s)) % 256 = (m % 256) ^^^ (x * 2 ^ s % 256) from Nat.xor_mod_two_pow (n := 8) .., hb]
  show H.E8 (H.E8 (0#8 ^^^ (_ ^^^ _)) ^^^ (_ ^^^ _)) ≠ 0#8
  rw [BitVec.zero_xor, e1, e2]
  exact two_ne ⟨x, hx⟩ h0 ⟨s, hs⟩
end Go.Proofs.Ytfbmgflkfpppmaa.PB

/- Rows of bytes that differ only within four places one behind the other have unlike sums of 32 bits. -/
import Derived.Test.YtfgbcpdlhdgofaaPureImage
set_option linter.unusedVariables false
set_option linter.unusedSimpArgs false
namespace Go.Proofs.Ytfgbcpdlhdgofaa.PB
open Go.RowKit Go.Proofs.Ytfgbcpdlhdgofaa.Px Go.Proofs.YtfgbcpdlhdgofaaW.PrintWords Go.Proofs.YtfgbcpdlhdgofaaW.PrintLast Go.Proofs.YtfgbcpdlhdgofaaW.PrintMore
theorem moreW_f (s : Int) (l : List Int) : H.moreW s l = ~~~ H.fold H.eightW (~~~ BitVec.ofInt 32 s) (H.bytes32 l) := by unfold H.moreW; rw [H.crcW_fold]
theorem not_inj' {n : Nat} {a b : BitVec n} (h : ~~~ a = ~~~ b) : a = b := by
  rw [← BitVec.not_not (b := a), h, BitVec.not_not]
theorem ofInt32_inj {a b : Int} (ha : H.U8 a) (hb : H.U8 b) (h : BitVec.ofInt 32 a = BitVec.ofInt 32 b) : a = b := by
  obtain ⟨m, hm, rfl⟩ := u8_nat ha
  obtain ⟨n, hn, rfl⟩ := u8_nat hb
  rw [H.ofInt_nat, H.ofInt_nat] at h
  have := congrArg BitVec.toNat h
  rw [BitVec.toNat_ofNat, BitVec.toNat_ofNat] at this
  omega
theorem eight0 : H.eightW (0#32 ^^^ 0#32) = 0#32 := by rw [BitVec.xor_self]; exact H.linW.zero
/-- Up to four bytes that put nothing are none. -/
theorem few_zero : ∀ d : List (BitVec 32), d.length ≤ 4 → (∀ x ∈ d, H.Low 8 x) → H.fold H.eightW 0#32 d = 0#32 → ∀ x ∈ d, x = 0#32 := by
  have lz : H.Low 8 0#32 := fun i hi => by simp
  intro d hd hl hf
  match d, hd, hl, hf with
  | [], _, _, _ => intro x hx; cases hx
  | [a], _, hl, hf =>
    have := H.four_zero lz lz lz (hl a (by simp)) (by rw [H.fold_cons, eight0, H.fold_cons, eight0, H.fold_cons, eight0]; exact hf)
    intro x hx; simp only [List.mem_cons, List.not_mem_nil, or_false] at hx; rw [hx]; exact this.2.2.2
  | [a, b], _, hl, hf =>
    have := H.four_zero lz lz (hl a (by simp)) (hl b (by simp)) (by rw [H.fold_cons, eight0, H.fold_cons, eight0]; exact hf)
    intro x hx; simp only [List.mem_cons, List.not_mem_nil, or_false] at hx; rcases hx with rfl | rfl
    · exact this.2.2.1
    · exact this.2.2.2
  | [a, b, c], _, hl, hf =>
    have := H.four_zero lz (hl a (by simp)) (hl b (by simp)) (hl c (by simp)) (by rw [H.fold_cons, eight0]; exact hf)
    intro x hx; simp only [List.mem_cons, List.not_mem_nil, or_false] at hx; rcases hx with rfl | rfl | rfl
    · exact this.2.1
    · exact this.2.2.1
    · exact this.2.2.2
  | [a, b, c, e], _, hl, hf =>
    have := H.four_zero (hl a (by simp)) (hl b (by simp)) (hl c (by simp)) (hl e (by simp)) hf
    intro x hx; simp only [List.mem_cons, List.not_mem_nil, or_false] at hx; rcases hx with rfl | rfl | rfl | rfl
    · exact this.1
    · exact this.2.1
    · exact this.2.2.1
    · exact this.2.2.2
  | _ :: _ :: _ :: _ :: _ :: _, hd, _, _ => simp only [List.length_cons] at hd; omega
theorem low_xor {a b : BitVec 32} (ha : H.Low 8 a) (hb : H.Low 8 b) : H.Low 8 (a ^^^ b) := fun i hi => by
  rw [BitVec.getLsbD_xor, ha i hi, hb i hi]; rfl
theorem zip_low : ∀ a b : List Int, (∀ x ∈ a, H.U8 x) → (∀ x ∈ b, H.U8 x) → ∀ x ∈ List.zipWith (· ^^^ ·) (H.bytes32 a) (H.bytes32 b), H.Low 8 x
  | [], _, _, _ => fun x hx => by simp [H.bytes32] at hx
  | _ :: _, [], _, _ => fun x hx => by simp [H.bytes32] at hx
  | a :: a', b :: b', ha, hb => fun x hx => by
    simp only [H.bytes32, List.map_cons, List.zipWith_cons_cons, List.mem_cons] at hx
    rcases hx with rfl | hx
    · exact low_xor (H.low_byte (ha a (by simp))) (H.low_byte (hb b (by simp)))
    · exact zip_low a' b' (fun z hz => ha z (by simp [hz])) (fun z hz => hb z (by simp [hz])) x hx
theorem zip_same : ∀ a b : List Int, a.length = b.length → (∀ x ∈ a, H.U8 x) → (∀ x ∈ b, H.U8 x) → (∀ x ∈ List.zipWith (· ^^^ ·) (H.bytes32 a) (H.bytes32 b), x = 0#32) → a = b
  | [], [], _, _, _, _ => rfl
  | [], _ :: _, h, _, _, _ => by simp at h
  | _ :: _, [], h, _, _, _ => by simp at h
  | a :: a', b :: b', h, ha, hb, hz => by
    simp only [H.bytes32, List.map_cons, List.zipWith_cons_cons, List.mem_cons] at hz
    have h0 := hz _ (Or.inl rfl)
    have e0 : a = b := ofInt32_inj (ha a (by simp)) (hb b (by simp)) (by
      rw [← BitVec.xor_zero (x := BitVec.ofInt 32 a), ← h0, H.xor_cancel])
    rw [e0, zip_same a' b' (by simpa using h) (fun z hz => ha z (by simp [hz])) (fun z hz => hb z (by simp [hz])) (fun x hx => hz x (Or.inr hx))]
theorem burst_eq {p u v q : List Int} (hl : u.length = v.length) (h4 : u.length ≤ 4) (hu : ∀ x ∈ u, H.U8 x) (hv : ∀ x ∈ v, H.U8 x) {s : Int} (h : H.moreW s (p ++ (u ++ q)) = H.moreW s (p ++ (v ++ q))) : u = v := by
  rw [moreW_f, moreW_f] at h
  have h := not_inj' h
  unfold H.bytes32 at h
  rw [List.map_append, List.map_append, List.map_append, List.map_append] at h
  have hlen : (List.map (BitVec.ofInt 32) u).length = (List.map (BitVec.ofInt 32) v).length := by rw [List.length_map, List.length_map, hl]
  have hf : H.fold H.eightW 0#32 (List.zipWith (· ^^^ ·) (u.map (BitVec.ofInt 32)) (v.map (BitVec.ofInt 32))) = 0#32 :=
    Classical.byContradiction fun hne => H.fold_mid_ne H.linW H.oneW8 _ _ _ _ _ hlen hne h
  exact zip_same u v hl hu hv (few_zero _ (by unfold H.bytes32; rw [List.length_zipWith, List.length_map, List.length_map]; omega) (zip_low u v hu hv) hf)
/-- Two rows that are alike but within four places from k on. -/
def Win (k : Nat) (a b : List Int) : Prop := a.length = b.length ∧ a.take k = b.take k ∧ a.drop (k + 4) = b.drop (k + 4)
theorem win_split (k : Nat) (a : List Int) : a = a.take k ++ ((a.drop k).take 4 ++ a.drop (k + 4)) := by
  rw [← List.drop_drop, List.take_append_drop, List.take_append_drop]
theorem win_eq {k : Nat} {a b : List Int} (hw : Win k a b) (ha : ∀ x ∈ a, H.U8 x) (hb : ∀ x ∈ b, H.U8 x) {s : Int} (h : H.moreW s a = H.moreW s b) : a = b := by
  obtain ⟨hl, ht, hd⟩ := hw
  rw [win_split k a, win_split k b, ht, hd] at h
  have := burst_eq (by rw [List.length_take, List.length_take, List.length_drop, List.length_drop, hl]) (by rw [List.length_take]; omega) (fun x hx => ha x (List.mem_of_mem_drop (List.mem_of_mem_take hx))) (fun x hx => hb x (List.mem_of_mem_drop (List.mem_of_mem_take hx))) h
  rw [win_split k a, win_split k b, ht, hd, this]
theorem win_put {k : Nat} {a b : List Int} (hw : Win k a b) (p q : List Int) : Win (p.length + k) (p ++ a ++ q) (p ++ b ++ q) := by
  obtain ⟨hl, ht, hd⟩ := hw
  refine ⟨by simp [hl], ?_, ?_⟩
  · rw [List.append_assoc, List.append_assoc, List.take_length_add_append, List.take_length_add_append, List.take_append, List.take_append, ht, hl]
  · rw [List.append_assoc, List.append_assoc, Nat.add_assoc, List.drop_length_add_append, List.drop_length_add_append, List.drop_append, List.drop_append, hd, hl]
theorem wv_win {k : Nat} {a b : List Int} (hw : Win k a b) (ha : ∀ x ∈ a, H.U8 x) (hb : ∀ x ∈ b, H.U8 x) (h : wv a = wv b) : a = b := by
  unfold wv at h
  exact win_eq hw ha hb (BitVec.eq_of_toNat_eq (by exact_mod_cast h))
theorem seal_win {k : Nat} {a b : List Int} (hw : Win k a b) (ha : ∀ x ∈ a, H.U8 x) (hb : ∀ x ∈ b, H.U8 x) {key : Int} (h : sealV a key = sealV b key) : a = b := by
  unfold sealV at h
  have := wv_win (win_put hw (w4 key) (w4 key)) (U8_app (U8_app (w4_U8 _) ha) (w4_U8 _)) (U8_app (U8_app (w4_U8 _) hb) (w4_U8 _)) h
  rw [List.append_assoc, List.append_assoc] at this
  exact (List.append_inj (List.append_inj this rfl).2 hw.1).1
/-- The row behind so many rounds. -/
def turnL (b : List Int) (at_ : Nat) (x : Int → Int) : Nat → List Int
  | 0 => b
  | i + 1 => if at_ + i < b.length then (turnL b at_ x i).set (at_ + i) (Go.bits .xor .u8 ((turnL b at_ x i).getD (at_ + i) 0) (x (i : Int))) else turnL b at_ x i
theorem turnL_length (b : List Int) (at_ : Nat) (x : Int → Int) : ∀ i, (turnL b at_ x i).length = b.length
  | 0 => rfl
  | i + 1 => by
    unfold turnL
    split
    · rw [List.length_set, turnL_length b at_ x i]
    · exact turnL_length b at_ x i
theorem turnL_U8 {b : List Int} (hb : ∀ z ∈ b, H.U8 z) (at_ : Nat) {x : Int → Int} (hx : ∀ i, H.U8 (x i)) : ∀ i, ∀ z ∈ turnL b at_ x i, H.U8 z
  | 0 => hb
  | i + 1 => by
    intro z hz
    unfold turnL at hz
    split at hz
    · rename_i h
      rcases List.mem_or_eq_of_mem_set hz with h1 | rfl
      · exact turnL_U8 hb at_ hx i z h1
      · exact xor_U8 (getD_U8 (turnL_U8 hb at_ hx i) _) (hx _)
    · exact turnL_U8 hb at_ hx i z hz
theorem turnL_take (b : List Int) (at_ : Nat) (x : Int → Int) : ∀ i, (turnL b at_ x i).take at_ = b.take at_
  | 0 => rfl
  | i + 1 => by
    unfold turnL
    split
    · rw [List.take_set_of_le (by omega), turnL_take b at_ x i]
    · exact turnL_take b at_ x i
theorem turnL_drop (b : List Int) (at_ : Nat) (x : Int → Int) : ∀ i, ∀ m, at_ + i ≤ m → (turnL b at_ x i).drop m = b.drop m
  | 0 => fun _ _ => rfl
  | i + 1 => fun m hm => by
    unfold turnL
    split
    · rw [List.drop_set_of_lt (by omega), turnL_drop b at_ x i m (by omega)]
    · exact turnL_drop b at_ x i m (by omega)
theorem turn_win (b : List Int) (at_ : Nat) (x : Int → Int) : Win at_ (turnL b at_ x 4) b := ⟨turnL_length _ _ _ _, turnL_take _ _ _ _, turnL_drop _ _ _ _ _ (Nat.le_refl _)⟩
theorem turnL_stop {b : List Int} {at_ : Nat} {x : Int → Int} : ∀ {i j : Nat}, i ≤ j → b.length ≤ at_ + i → turnL b at_ x j = turnL b at_ x i
  | i, 0, h, _ => by rw [Nat.le_zero.mp h]
  | i, j + 1, h, hl => by
    by_cases e : i = j + 1
    · rw [e]
    · conv => lhs; unfold turnL
      rw [if_neg (by omega)]; exact turnL_stop (by omega) hl
end Go.Proofs.Ytfgbcpdlhdgofaa.PB

/- What is read of bits, backwards. -/
import Derived.Test.YthgeekcobmhbfaaPureFRead
set_option linter.unusedVariables false
set_option linter.unusedSimpArgs false
namespace Go.Proofs.Ythgeekcobmhbfaa.PB
open Go.RowKit Go.Proofs.Ythgeekcobmhbfaa.Px Go.Proofs.YthgeekcobmhbfaaW.PrintWords Go.Proofs.YthgeekcobmhbfaaW.PrintLast Go.Proofs.YthgeekcobmhbfaaW.PrintMore
open Go.Proofs.Ythgeekcobmhbfaa.H (RankL lessB whereB leastB Parts IdOk rankF bitI bitsOf spreadB)
theorem err_ne {v : Int} (hv : v ≠ 0) (h : (frame_err v).1 = 0) : False := hv h
theorem join_back {l : List Int} (h : H.rightB l = true) (n : Nat) (hn : l.length = 8 * n) : (H.joinB l).1.length = n ∧ spreadB (H.joinB l).1 = l ∧ ∀ x ∈ (H.joinB l).1, H.U8 x := by
  obtain ⟨h1, h2⟩ := H.spread_bytes n l hn h
  have h3 := H.bytesB_length l
  unfold H.joinB
  rw [if_pos (by omega), if_pos h]
  exact ⟨by show (H.bytesB l).length = n; omega, h1, h2⟩
theorem bit_of_num {l : List Int} (h : H.rightB l = true) (i : Nat) (hl : i + 1 ≤ l.length) : frame_bitsAt l i 1 = [frame_numAt l i 1] ∧ (frame_numAt l i 1 = 0 ∨ frame_numAt l i 1 = 1) := by
  obtain ⟨h1, h2, h3⟩ := numAt_bits h i 1 (by decide) hl
  have h4 : frame_numAt l i 1 = 0 ∨ frame_numAt l i 1 = 1 := by omega
  exact ⟨h1.trans (bit_one _ h4), h4⟩
theorem tail_back {l : List Int} {e : Bool} {id : Int} {rm : Bool} {at_ : Nat} (hr : H.rightB l = true) (hz : (frame_tailB l e id rm at_).1 = 0) : ∃ ln d, frame_tailB l e id rm at_ = (0, e, id, rm, ln, d, at_ + 5 + 8 * d.length) ∧ 0 ≤ ln ∧ ln ≤ 8 ∧ (d.length : Int) = (if rm = true then 0 else ln) ∧ (∀ x ∈ d, H.U8 x) ∧ at_ + 5 + 8 * d.length ≤ l.length ∧ l.take (at_ + 5 + 8 * d.length) = l.take at_ ++ ([0] ++ (bitsOf ln 4 ++ spreadB d)) := by
  unfold frame_tailB at hz ⊢
  by_cases c1 : l.length < at_ + 1
  · rw [if_pos c1] at hz; exact (err_ne (by decide) hz).elim
  rw [if_neg c1] at hz ⊢
  by_cases c2 : ¬ frame_numAt l at_ 1 = 0
  · rw [if_pos c2] at hz; exact (err_ne (by decide) hz).elim
  rw [if_neg c2] at hz ⊢
  by_cases c3 : l.length < at_ + 5
  · rw [if_pos c3] at hz; exact (err_ne (by decide) hz).elim
  rw [if_neg c3] at hz ⊢
  by_cases c4 : 8 < frame_numAt l (at_ + 1) 4
  · rw [if_pos c4] at hz; exact (err_ne (by decide) hz).elim
  rw [if_neg c4] at hz ⊢
  obtain ⟨b1, _⟩ := bit_of_num hr at_ (by omega)
  obtain ⟨n1, n2, n3⟩ := numAt_bits hr (at_ + 1) 4 (by decide) (by omega)
  have e5 : l.take (at_ + 5) = l.take at_ ++ ([0] ++ bitsOf (frame_numAt l (at_ + 1) 4) 4) := by
    rw [show at_ + 5 = (at_ + 1) + 4 by omega, take_bitsAt, take_bitsAt, b1, n1, Decidable.not_not.mp c2, List.append_assoc]
  cases rm with
  | true =>
    rw [if_pos rfl]
    refine ⟨_, [], rfl, n2, by omega, rfl, fun x hx => (by cases hx), (by rw [List.length_nil]; omega), ?_⟩
    rw [List.length_nil, Nat.mul_zero, Nat.add_zero, e5]
    show _ = l.take at_ ++ ([0] ++ (bitsOf (frame_numAt l (at_ + 1) 4) 4 ++ spreadB []))
    rw [show spreadB ([] : List Int) = [] from rfl, List.append_nil]
  | false =>
    rw [if_neg (by simp)] at hz ⊢
    by_cases c5 : l.length < at_ + 5 + 8 * (frame_numAt l (at_ + 1) 4).toNat
    · rw [if_pos c5] at hz; exact (err_ne (by decide) hz).elim
    rw [if_neg c5]
    have hbl := frame_bitsAt_len l (at_ + 5) (8 * (frame_numAt l (at_ + 1) 4).toNat) (by omega)
    obtain ⟨j1, j2, j3⟩ := join_back (bitsAt_right hr (at_ + 5) (8 * (frame_numAt l (at_ + 1) 4).toNat)) (frame_numAt l (at_ + 1) 4).toNat hbl
    refine ⟨_, _, ?_, n2, by omega, ?_, j3, ?_, ?_⟩
    · rw [j1]
    · rw [j1, if_neg (by simp)]; omega
    · rw [j1]; omega
    · rw [j1, take_bitsAt, e5, j2, List.append_assoc, List.append_assoc]
/-- Bits of which a frame is read begin with its head, and the frame is right. -/
theorem read_back {l : List Int} (hr : H.rightB l = true) (hz : (frame_readB l).1 = 0) : ∃ e id rm ln d, frame_readB l = (0, e, id, rm, ln, d, (headF e id rm ln d).length) ∧ FRight e id rm ln d ∧ (∀ x ∈ d, H.U8 x) ∧ (headF e id rm ln d).length ≤ l.length ∧ l.take (headF e id rm ln d).length = headF e id rm ln d := by
  unfold frame_readB at hz ⊢
  by_cases c1 : l.length < 1
  · rw [if_pos c1] at hz; exact (err_ne (by decide) hz).elim
  rw [if_neg c1] at hz ⊢
  by_cases c2 : ¬ frame_numAt l 0 1 = 0
  · rw [if_pos c2] at hz; exact (err_ne (by decide) hz).elim
  rw [if_neg c2] at hz ⊢
  by_cases c3 : l.length < 12
  · rw [if_pos c3] at hz; exact (err_ne (by decide) hz).elim
  rw [if_neg c3] at hz ⊢
  by_cases c4 : l.length < 13
  · rw [if_pos c4] at hz; exact (err_ne (by decide) hz).elim
  rw [if_neg c4] at hz ⊢
  by_cases c5 : l.length < 14
  · rw [if_pos c5] at hz; exact (err_ne (by decide) hz).elim
  rw [if_neg c5] at hz ⊢
  obtain ⟨b0, _⟩ := bit_of_num hr 0 (by omega)
  obtain ⟨b12, v12⟩ := bit_of_num hr 12 (by omega)
  obtain ⟨b13, v13⟩ := bit_of_num hr 13 (by omega)
  obtain ⟨n1, n2, n3⟩ := numAt_bits hr 1 11 (by decide) (by omega)
  have e14 : l.take 14 = [0] ++ (bitsOf (frame_numAt l 1 11) 11 ++ ([frame_numAt l 12 1] ++ [frame_numAt l 13 1])) := by
    have t1 := take_bitsAt l 13 1
    have t2 := take_bitsAt l 12 1
    have t3 := take_bitsAt l 1 11
    have t4 := take_bitsAt l 0 1
    rw [show l.take 14 = l.take (13 + 1) from rfl, t1, show l.take 13 = l.take (12 + 1) from rfl, t2, show l.take 12 = l.take (1 + 11) from rfl, t3, show l.take 1 = l.take (0 + 1) from rfl, t4, b0, b12, b13, n1, Decidable.not_not.mp c2]
    simp
  by_cases c6 : frame_numAt l 13 1 = 1
  · rw [if_pos c6] at hz ⊢
    by_cases c7 : ¬ frame_numAt l 12 1 = 1
    · rw [if_pos c7] at hz; exact (err_ne (by decide) hz).elim
    rw [if_neg c7] at hz ⊢
    by_cases c8 : l.length < 32
    · rw [if_pos c8] at hz; exact (err_ne (by decide) hz).elim
    rw [if_neg c8] at hz ⊢
    by_cases c9 : l.length < 33
    · rw [if_pos c9] at hz; exact (err_ne (by decide) hz).elim
    rw [if_neg c9] at hz ⊢
    by_cases c10 : l.length < 34
    · rw [if_pos c10] at hz; exact (err_ne (by decide) hz).elim
    rw [if_neg c10] at hz ⊢
    by_cases c11 : ¬ frame_numAt l 33 1 = 0
    · rw [if_pos c11] at hz; exact (err_ne (by decide) hz).elim
    rw [if_neg c11] at hz ⊢
    obtain ⟨ln, d, t1, t2, t3, t4, t5, t6, t7⟩ := tail_back hr hz
    obtain ⟨m1, m2, m3⟩ := numAt_bits hr 14 18 (by decide) (by omega)
    obtain ⟨b32, v32⟩ := bit_of_num hr 32 (by omega)
    obtain ⟨b33, _⟩ := bit_of_num hr 33 (by omega)
    have hid := or_parts n2 n3 m2 m3
    rw [hid] at t1 ⊢
    have hrm : bitI (decide (frame_numAt l 32 1 = 1)) = frame_numAt l 32 1 := by rcases v32 with h | h <;> rw [h] <;> rfl
    have hlen : (headF true (frame_numAt l 1 11 * 262144 + frame_numAt l 14 18) (decide (frame_numAt l 32 1 = 1)) ln d).length = 34 + 5 + 8 * d.length := by rw [headF_len, if_pos rfl]
    refine ⟨true, frame_numAt l 1 11 * 262144 + frame_numAt l 14 18, decide (frame_numAt l 32 1 = 1), ln, d, ?_, ⟨⟨by omega, by rw [if_pos rfl]; omega⟩, t2, t3, t4⟩, t5, by omega, ?_⟩
    · rw [t1, hlen]
    · rw [hlen, t7]
      have e34 : l.take 34 = l.take 14 ++ (bitsOf (frame_numAt l 14 18) 18 ++ ([frame_numAt l 32 1] ++ [0])) := by
        rw [show l.take 34 = l.take (33 + 1) from rfl, take_bitsAt, show l.take 33 = l.take (32 + 1) from rfl, take_bitsAt, show l.take 32 = l.take (14 + 18) from rfl, take_bitsAt, m1, b32, b33, Decidable.not_not.mp c11]
        simp [List.append_assoc]
      rw [e34, e14, c6, Decidable.not_not.mp c7]
      unfold headF preF rankF
      rw [if_pos rfl, if_pos rfl, hrm, show (frame_numAt l 1 11 * 262144 + frame_numAt l 14 18) / 262144 = frame_numAt l 1 11 by omega, show (frame_numAt l 1 11 * 262144 + frame_numAt l 14 18) % 262144 = frame_numAt l 14 18 by omega]
      simp [List.append_assoc]
  · rw [if_neg c6] at hz ⊢
    have c13 : frame_numAt l 13 1 = 0 := v13.resolve_right c6
    obtain ⟨ln, d, t1, t2, t3, t4, t5, t6, t7⟩ := tail_back hr hz
    have hrm : bitI (decide (frame_numAt l 12 1 = 1)) = frame_numAt l 12 1 := by rcases v12 with h | h <;> rw [h] <;> rfl
    have hlen : (headF false (frame_numAt l 1 11) (decide (frame_numAt l 12 1 = 1)) ln d).length = 14 + 5 + 8 * d.length := by rw [headF_len, if_neg (by simp)]
    refine ⟨false, frame_numAt l 1 11, decide (frame_numAt l 12 1 = 1), ln, d, ?_, ⟨⟨n2, by rw [if_neg (by simp)]; omega⟩, t2, t3, t4⟩, t5, by omega, ?_⟩
    · rw [t1, hlen]
    · rw [hlen, t7, e14, c13]
      unfold headF preF rankF
      rw [if_neg (by simp), if_neg (by simp), hrm]
      simp [List.append_assoc]
/-- What is wrong, where nothing is read. -/
theorem tail_errs (l : List Int) (e : Bool) (id : Int) (rm : Bool) (at_ : Nat) : (frame_tailB l e id rm at_).1 = 0 ∨ ∃ v, frame_tailB l e id rm at_ = frame_err v ∧ (v = 40 ∨ v = 41 ∨ v = 42) := by
  unfold frame_tailB
  repeat' split
  all_goals first | exact Or.inl rfl | exact Or.inr ⟨_, rfl, by decide⟩
theorem read_errs (l : List Int) : (frame_readB l).1 = 0 ∨ ∃ v, frame_readB l = frame_err v ∧ (v = 40 ∨ v = 41 ∨ v = 42) := by
  unfold frame_readB
  by_cases h2 : l.length < 1
  · rw [if_pos h2]; exact Or.inr ⟨40, rfl, by decide⟩
  rw [if_neg h2]
  by_cases h5 : ¬ frame_numAt l 0 1 = 0
  · rw [if_pos h5]; exact Or.inr ⟨42, rfl, by decide⟩
  rw [if_neg h5]
  by_cases h8 : l.length < 12
  · rw [if_pos h8]; exact Or.inr ⟨40, rfl, by decide⟩
  rw [if_neg h8]
  by_cases h11 : l.length < 13
  · rw [if_pos h11]; exact Or.inr ⟨40, rfl, by decide⟩
  rw [if_neg h11]
  by_cases h14 : l.length < 14
  · rw [if_pos h14]; exact Or.inr ⟨40, rfl, by decide⟩
  rw [if_neg h14]
  by_cases g : frame_numAt l 13 1 = 1
  · rw [if_pos g]
    by_cases h19 : ¬ frame_numAt l 12 1 = 1
    · rw [if_pos h19]; exact Or.inr ⟨42, rfl, by decide⟩
    rw [if_neg h19]
    by_cases h22 : l.length < 32
    · rw [if_pos h22]; exact Or.inr ⟨40, rfl, by decide⟩
    rw [if_neg h22]
    by_cases h25 : l.length < 33
    · rw [if_pos h25]; exact Or.inr ⟨40, rfl, by decide⟩
    rw [if_neg h25]
    by_cases h28 : l.length < 34
    · rw [if_pos h28]; exact Or.inr ⟨40, rfl, by decide⟩
    rw [if_neg h28]
    by_cases h31 : ¬ frame_numAt l 33 1 = 0
    · rw [if_pos h31]; exact Or.inr ⟨42, rfl, by decide⟩
    rw [if_neg h31]
    exact tail_errs _ _ _ _ _
  · rw [if_neg g]; exact tail_errs _ _ _ _ _
end Go.Proofs.Ythgeekcobmhbfaa.PB

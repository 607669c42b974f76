/- What is read of bits: of a head, of less than a head, of any bits. -/
import Derived.Test.YthgeekcobmhbfaaPureFrame
set_option linter.unusedVariables false
set_option linter.unusedSimpArgs false
namespace Go.Proofs.Ythgeekcobmhbfaa.PB
open Go.RowKit Go.Proofs.Ythgeekcobmhbfaa.Px Go.Proofs.YthgeekcobmhbfaaW.PrintWords Go.Proofs.YthgeekcobmhbfaaW.PrintLast Go.Proofs.YthgeekcobmhbfaaW.PrintMore
open Go.Proofs.Ythgeekcobmhbfaa.H (RankL lessB whereB leastB Parts IdOk rankF bitI bitsOf spreadB)
theorem bitsAt_mid (a b c : List Int) : frame_bitsAt (a ++ (b ++ c)) a.length b.length = b := by
  unfold frame_bitsAt
  rw [← List.append_assoc, ← List.length_append, List.take_left', List.drop_left'] <;> rfl
theorem bitsAt_of {l a b c : List Int} {i m : Nat} (h : l = a ++ (b ++ c)) (ha : a.length = i) (hb : b.length = m) : frame_bitsAt l i m = b := by
  subst ha; subst hb; rw [h]; exact bitsAt_mid a b c
theorem getB_bitsOf {n : Int} {m : Nat} (hm : m ≤ 32) (h0 : 0 ≤ n) (h1 : n < 2 ^ m) : H.getB (bitsOf n m) = (n, true) := by
  rw [H.getB_right (H.bitsOf_right n m) (by rw [H.bitsOf_length]; exact hm), H.valB_bitsOf m n h0 h1]
theorem numAt_of {l a c : List Int} {i m : Nat} {n : Int} (h : l = a ++ (bitsOf n m ++ c)) (ha : a.length = i) (hm : m ≤ 32) (h0 : 0 ≤ n) (h1 : n < 2 ^ m) : frame_numAt l i m = n := by
  unfold frame_numAt
  rw [bitsAt_of h ha (H.bitsOf_length n m), getB_bitsOf hm h0 h1]
theorem numAt_take (l : List Int) (i m k : Nat) (h : i + m ≤ k) : frame_numAt (l.take k) i m = frame_numAt l i m := by
  unfold frame_numAt frame_bitsAt
  rw [List.take_take, Nat.min_eq_left h]
theorem bitsAt_take (l : List Int) (i m k : Nat) (h : i + m ≤ k) : frame_bitsAt (l.take k) i m = frame_bitsAt l i m := by
  unfold frame_bitsAt
  rw [List.take_take, Nat.min_eq_left h]
theorem bit_one (x : Int) (h : x = 0 ∨ x = 1) : bitsOf x 1 = [x] := by rcases h with rfl | rfl <;> decide
/-- What stands where in a head. -/
structure Heads (l : List Int) (e : Bool) (id : Int) (rm : Bool) (ln : Int) (d : List Int) : Prop where
  n0 : frame_numAt l 0 1 = 0
  n1 : e = false → frame_numAt l 1 11 = id ∧ frame_numAt l 12 1 = bitI rm ∧ frame_numAt l 13 1 = 0 ∧ frame_numAt l 14 1 = 0 ∧ frame_numAt l 15 4 = ln ∧ frame_bitsAt l 19 (8 * d.length) = spreadB d
  n2 : e = true → frame_numAt l 1 11 = id / 262144 ∧ frame_numAt l 12 1 = 1 ∧ frame_numAt l 13 1 = 1 ∧ frame_numAt l 14 18 = id % 262144 ∧ frame_numAt l 32 1 = bitI rm ∧ frame_numAt l 33 1 = 0 ∧ frame_numAt l 34 1 = 0 ∧ frame_numAt l 35 4 = ln ∧ frame_bitsAt l 39 (8 * d.length) = spreadB d
theorem heads_of {e : Bool} {id : Int} {rm : Bool} {ln : Int} {d : List Int} (h : FRight e id rm ln d) (more : List Int) : Heads (headF e id rm ln d ++ more) e id rm ln d := by
  obtain ⟨⟨h0, h1⟩, h2, h3, h4⟩ := h
  have hrb : bitI rm = 0 ∨ bitI rm = 1 := by unfold bitI; cases rm <;> simp
  have b0 : bitsOf 0 1 = [0] := by decide
  have b1 : bitsOf 1 1 = [1] := by decide
  have br := bit_one (bitI rm) hrb
  have hr0 : 0 ≤ bitI rm := by omega
  have hr1 : bitI rm < 2 ^ 1 := by omega
  have hsl := H.spread_len d
  cases e with
  | false =>
    rw [if_neg (by simp)] at h1
    have hl : headF false id rm ln d ++ more = [0] ++ (bitsOf id 11 ++ ([bitI rm] ++ ([0] ++ ([0] ++ (bitsOf ln 4 ++ (spreadB d ++ more)))))) := by
      unfold headF preF rankF; simp [List.append_assoc]
    have l11 := H.bitsOf_length id 11
    have l4 := H.bitsOf_length ln 4
    refine ⟨?_, fun _ => ⟨?_, ?_, ?_, ?_, ?_, ?_⟩, fun h => (by cases h)⟩
    · exact numAt_of (a := []) (n := 0) (c := bitsOf id 11 ++ ([bitI rm] ++ ([0] ++ ([0] ++ (bitsOf ln 4 ++ (spreadB d ++ more)))))) (by rw [hl, b0]; rfl) rfl (by decide) (by decide) (by decide)
    · exact numAt_of (a := [0]) hl rfl (by decide) h0 h1
    · exact numAt_of (a := [0] ++ bitsOf id 11) (by rw [hl, br, List.append_assoc]) (by rw [List.length_append, l11]; rfl) (by decide) hr0 hr1
    · exact numAt_of (a := [0] ++ bitsOf id 11 ++ [bitI rm]) (n := 0) (c := [0] ++ (bitsOf ln 4 ++ (spreadB d ++ more))) (by rw [hl, b0]; simp [List.append_assoc]) (by simp only [List.length_append, l11, List.length_singleton]) (by decide) (by decide) (by decide)
    · exact numAt_of (a := [0] ++ bitsOf id 11 ++ [bitI rm] ++ [0]) (n := 0) (c := bitsOf ln 4 ++ (spreadB d ++ more)) (by rw [hl, b0]; simp [List.append_assoc]) (by simp only [List.length_append, l11, List.length_singleton]) (by decide) (by decide) (by decide)
    · exact numAt_of (a := [0] ++ bitsOf id 11 ++ [bitI rm] ++ [0] ++ [0]) (c := spreadB d ++ more) (by rw [hl]; simp [List.append_assoc]) (by simp only [List.length_append, l11, List.length_singleton]) (by decide) h2 (by omega)
    · exact bitsAt_of (a := [0] ++ bitsOf id 11 ++ [bitI rm] ++ [0] ++ [0] ++ bitsOf ln 4) (c := more) (by rw [hl]; simp [List.append_assoc]) (by simp only [List.length_append, l11, l4, List.length_singleton]) hsl
  | true =>
    rw [if_pos rfl] at h1
    have hl : headF true id rm ln d ++ more = [0] ++ (bitsOf (id / 262144) 11 ++ ([1] ++ ([1] ++ (bitsOf (id % 262144) 18 ++ ([bitI rm] ++ ([0] ++ ([0] ++ (bitsOf ln 4 ++ (spreadB d ++ more))))))))) := by
      unfold headF preF rankF; simp [List.append_assoc]
    have l11 := H.bitsOf_length (id / 262144) 11
    have l18 := H.bitsOf_length (id % 262144) 18
    have l4 := H.bitsOf_length ln 4
    refine ⟨?_, fun h => (by cases h), fun _ => ⟨?_, ?_, ?_, ?_, ?_, ?_, ?_, ?_, ?_⟩⟩
    · exact numAt_of (a := []) (n := 0) (c := bitsOf (id / 262144) 11 ++ ([1] ++ ([1] ++ (bitsOf (id % 262144) 18 ++ ([bitI rm] ++ ([0] ++ ([0] ++ (bitsOf ln 4 ++ (spreadB d ++ more))))))))) (by rw [hl, b0]; rfl) rfl (by decide) (by decide) (by decide)
    · exact numAt_of (a := [0]) hl rfl (by decide) (by omega) (by omega)
    · exact numAt_of (a := [0] ++ bitsOf (id / 262144) 11) (n := 1) (c := [1] ++ (bitsOf (id % 262144) 18 ++ ([bitI rm] ++ ([0] ++ ([0] ++ (bitsOf ln 4 ++ (spreadB d ++ more))))))) (by rw [hl, b1]; simp [List.append_assoc]) (by simp only [List.length_append, l11, List.length_singleton]) (by decide) (by decide) (by decide)
    · exact numAt_of (a := [0] ++ bitsOf (id / 262144) 11 ++ [1]) (n := 1) (c := bitsOf (id % 262144) 18 ++ ([bitI rm] ++ ([0] ++ ([0] ++ (bitsOf ln 4 ++ (spreadB d ++ more)))))) (by rw [hl, b1]; simp [List.append_assoc]) (by simp only [List.length_append, l11, List.length_singleton]) (by decide) (by decide) (by decide)
    · exact numAt_of (a := [0] ++ bitsOf (id / 262144) 11 ++ [1] ++ [1]) (c := [bitI rm] ++ ([0] ++ ([0] ++ (bitsOf ln 4 ++ (spreadB d ++ more))))) (by rw [hl]; simp [List.append_assoc]) (by simp only [List.length_append, l11, List.length_singleton]) (by decide) (by omega) (by omega)
    · exact numAt_of (a := [0] ++ bitsOf (id / 262144) 11 ++ [1] ++ [1] ++ bitsOf (id % 262144) 18) (c := [0] ++ ([0] ++ (bitsOf ln 4 ++ (spreadB d ++ more)))) (by rw [hl, br]; simp [List.append_assoc]) (by simp only [List.length_append, l11, l18, List.length_singleton]) (by decide) hr0 hr1
    · exact numAt_of (a := [0] ++ bitsOf (id / 262144) 11 ++ [1] ++ [1] ++ bitsOf (id % 262144) 18 ++ [bitI rm]) (n := 0) (c := [0] ++ (bitsOf ln 4 ++ (spreadB d ++ more))) (by rw [hl, b0]; simp [List.append_assoc]) (by simp only [List.length_append, l11, l18, List.length_singleton]) (by decide) (by decide) (by decide)
    · exact numAt_of (a := [0] ++ bitsOf (id / 262144) 11 ++ [1] ++ [1] ++ bitsOf (id % 262144) 18 ++ [bitI rm] ++ [0]) (n := 0) (c := bitsOf ln 4 ++ (spreadB d ++ more)) (by rw [hl, b0]; simp [List.append_assoc]) (by simp only [List.length_append, l11, l18, List.length_singleton]) (by decide) (by decide) (by decide)
    · exact numAt_of (a := [0] ++ bitsOf (id / 262144) 11 ++ [1] ++ [1] ++ bitsOf (id % 262144) 18 ++ [bitI rm] ++ [0] ++ [0]) (c := spreadB d ++ more) (by rw [hl]; simp [List.append_assoc]) (by simp only [List.length_append, l11, l18, List.length_singleton]) (by decide) h2 (by omega)
    · exact bitsAt_of (a := [0] ++ bitsOf (id / 262144) 11 ++ [1] ++ [1] ++ bitsOf (id % 262144) 18 ++ [bitI rm] ++ [0] ++ [0] ++ bitsOf ln 4) (c := more) (by rw [hl]; simp [List.append_assoc]) (by simp only [List.length_append, l11, l18, l4, List.length_singleton]) hsl
theorem wrap_i64_small (x : Int) (h0 : 0 ≤ x) (h1 : x < 9223372036854775808) : IntKind.i64.wrap x = x := by rw [IntKind.wrap_i64]; omega
theorem or_parts {hi lo : Int} (h0 : 0 ≤ hi) (h1 : hi < 2048) (k0 : 0 ≤ lo) (k1 : lo < 262144) : Go.bits .or .i64 (IntKind.i64.wrap (hi * 262144)) lo = hi * 262144 + lo := by
  rw [wrap_i64_small _ (by omega) (by omega)]
  obtain ⟨a, rfl⟩ := Int.eq_ofNat_of_zero_le h0
  obtain ⟨b, rfl⟩ := Int.eq_ofNat_of_zero_le k0
  have e : ((a : Int) * 262144) = ((a * 262144 : Nat) : Int) := by omega
  rw [e, H.or_i64 _ _ (by omega) (by omega)]
  have h2 : a * 262144 ||| b = a * 262144 + b := by
    have := Nat.shiftLeft_add_eq_or_of_lt (show b < 2 ^ 18 by omega) a
    rw [Nat.shiftLeft_eq] at this
    exact this.symm
  rw [h2]; omega
theorem bitI_one (rm : Bool) : decide (bitI rm = 1) = rm := by cases rm <;> rfl
theorem tail_of {l : List Int} {e : Bool} {id : Int} {rm : Bool} {ln : Int} {d : List Int} {at_ : Nat} (hw : ∀ x ∈ d, H.U8 x) (h2 : 0 ≤ ln) (h3 : ln ≤ 8) (h4 : (d.length : Int) = if rm = true then 0 else ln) (e0 : frame_numAt l at_ 1 = 0) (e1 : frame_numAt l (at_ + 1) 4 = ln) (e2 : frame_bitsAt l (at_ + 5) (8 * d.length) = spreadB d) (hl : at_ + 5 + 8 * d.length ≤ l.length) :
    frame_tailB l e id rm at_ = (0, e, id, rm, ln, d, at_ + 5 + 8 * d.length) := by
  unfold frame_tailB
  rw [if_neg (by omega), if_neg (fun h => h e0), if_neg (by omega), e1, if_neg (by omega)]
  cases rm with
  | true =>
    rw [if_pos rfl] at h4
    obtain rfl : d = [] := List.eq_nil_of_length_eq_zero (by omega)
    rw [if_pos rfl]; rfl
  | false =>
    rw [if_neg (by simp)] at h4
    have ht : ln.toNat = d.length := by omega
    rw [if_neg (by simp), ht, if_neg (by omega), e2, H.join_spread d hw]
/-- A right frame is read of its head, whatever stands behind. -/
theorem read_head {e : Bool} {id : Int} {rm : Bool} {ln : Int} {d : List Int} (h : FRight e id rm ln d) (hw : ∀ x ∈ d, H.U8 x) (more : List Int) : frame_readB (headF e id rm ln d ++ more) = (0, e, id, rm, ln, d, (headF e id rm ln d).length) := by
  have hh := heads_of h more
  have hlen := headF_len e id rm ln d
  have hL : (headF e id rm ln d ++ more).length = (headF e id rm ln d).length + more.length := List.length_append
  generalize headF e id rm ln d ++ more = l at hh hL
  obtain ⟨⟨h0, h1⟩, h2, h3, h4⟩ := h
  unfold frame_readB
  cases e with
  | false =>
    rw [if_neg (by simp)] at hlen
    obtain ⟨a1, a2, a3, a4, a5, a6⟩ := hh.n1 rfl
    rw [if_neg (by omega), if_neg (fun g => g hh.n0), if_neg (by omega), if_neg (by omega), if_neg (by omega), if_neg (by rw [a3]; decide), a1, a2, bitI_one, tail_of hw h2 h3 h4 a4 a5 a6 (by omega), hlen]
  | true =>
    rw [if_pos rfl] at hlen h1
    obtain ⟨a1, a2, a3, a4, a5, a6, a7, a8, a9⟩ := hh.n2 rfl
    rw [if_neg (by omega), if_neg (fun g => g hh.n0), if_neg (by omega), if_neg (by omega), if_neg (by omega), if_pos a3, if_neg (fun g => g a2), if_neg (by omega), if_neg (by omega), if_neg (by omega), if_neg (fun g => g a6), a1, a4, a5, bitI_one, or_parts (by omega) (by omega) (by omega) (by omega), show id / 262144 * 262144 + id % 262144 = id by omega, tail_of hw h2 h3 h4 a7 a8 a9 (by omega), hlen]
/-- Of less than its head none is. -/
theorem read_less {e : Bool} {id : Int} {rm : Bool} {ln : Int} {d : List Int} (h : FRight e id rm ln d) (k : Nat) (hk : k < (headF e id rm ln d).length) : frame_readB ((headF e id rm ln d).take k) = frame_err 40 := by
  have hh := heads_of h []
  rw [List.append_nil] at hh
  have hlen := headF_len e id rm ln d
  have hL : ((headF e id rm ln d).take k).length = k := by rw [List.length_take]; omega
  have hN : ∀ i m, i + m ≤ k → frame_numAt ((headF e id rm ln d).take k) i m = frame_numAt (headF e id rm ln d) i m := fun i m hi => numAt_take _ i m k hi
  generalize headF e id rm ln d = l at hh hL hN hlen hk
  obtain ⟨⟨h0, h1⟩, h2, h3, h4⟩ := h
  have htail : ∀ (at_ : Nat) (e' : Bool) (id' : Int), frame_numAt l at_ 1 = 0 → frame_numAt l (at_ + 1) 4 = ln → k < at_ + 5 + 8 * d.length → frame_tailB (l.take k) e' id' rm at_ = frame_err 40 := fun at_ e' id' t0 t1 t2 => by
    unfold frame_tailB
    rw [hL]
    by_cases c1 : k < at_ + 1
    · rw [if_pos c1]
    rw [if_neg c1, hN at_ 1 (by omega), if_neg (fun g => g t0)]
    by_cases c2 : k < at_ + 5
    · rw [if_pos c2]
    rw [if_neg c2, hN (at_ + 1) 4 (by omega), t1, if_neg (by omega)]
    cases rm with
    | true => rw [if_pos rfl] at h4; omega
    | false => rw [if_neg (by simp)] at h4; rw [if_neg (by simp), if_pos (by omega)]
  unfold frame_readB
  rw [hL]
  by_cases c0 : k < 1
  · rw [if_pos c0]
  rw [if_neg c0, hN 0 1 (by omega), if_neg (fun g => g hh.n0)]
  by_cases c1 : k < 12
  · rw [if_pos c1]
  rw [if_neg c1]
  by_cases c2 : k < 13
  · rw [if_pos c2]
  rw [if_neg c2]
  by_cases c3 : k < 14
  · rw [if_pos c3]
  rw [if_neg c3, hN 13 1 (by omega), hN 12 1 (by omega)]
  cases e with
  | false =>
    rw [if_neg (by simp)] at hlen
    obtain ⟨a1, a2, a3, a4, a5, a6⟩ := hh.n1 rfl
    rw [if_neg (by rw [a3]; decide), a2, bitI_one]
    exact htail 14 _ _ a4 a5 (by omega)
  | true =>
    rw [if_pos rfl] at hlen
    obtain ⟨a1, a2, a3, a4, a5, a6, a7, a8, a9⟩ := hh.n2 rfl
    rw [if_pos a3, if_neg (fun g => g a2)]
    by_cases c4 : k < 32
    · rw [if_pos c4]
    rw [if_neg c4]
    by_cases c5 : k < 33
    · rw [if_pos c5]
    rw [if_neg c5]
    by_cases c6 : k < 34
    · rw [if_pos c6]
    rw [if_neg c6, hN 33 1 (by omega), if_neg (fun g => g a6), hN 32 1 (by omega), a5, bitI_one]
    exact htail 34 _ _ a7 a8 (by omega)
/-- The printed reading, of numbers that are any. -/
theorem fread_eq (l : List Int) (hl : l.length ≤ 1073741824) (hw : ∀ x ∈ l, H.W64 x) : frame_Read.f l = some ((frame_readB l).2.1, (frame_readB l).2.2.1, (frame_readB l).2.2.2.1, (frame_readB l).2.2.2.2.1, (frame_readB l).2.2.2.2.2.1, ((frame_readB l).2.2.2.2.2.2 : Int), (frame_readB l).1) := by
  unfold frame_Read.f
  rw [if_pos hl, if_pos (List.all_eq_true.mpr fun x hx => decide_eq_true (show -9223372036854775808 ≤ x ∧ x ≤ 9223372036854775807 from hw x hx))]
theorem right_W64 {l : List Int} (h : H.rightB l = true) : ∀ x ∈ l, H.W64 x := fun x hx => by
  have := H.rightB_mem h x hx
  unfold H.W64; omega
/-! ### what was read, backwards -/
theorem bitsAt_right {l : List Int} (h : H.rightB l = true) (i m : Nat) : H.rightB (frame_bitsAt l i m) = true := H.rightB_of fun x hx => H.rightB_mem h x (List.mem_of_mem_take (List.mem_of_mem_drop hx))
theorem numAt_bits {l : List Int} (h : H.rightB l = true) (i m : Nat) (hm : m ≤ 32) (hl : i + m ≤ l.length) : frame_bitsAt l i m = bitsOf (frame_numAt l i m) m ∧ 0 ≤ frame_numAt l i m ∧ frame_numAt l i m < 2 ^ m := by
  have hlen := frame_bitsAt_len l i m hl
  have hr := bitsAt_right h i m
  have hg := H.getB_right hr (by omega)
  have hv : frame_numAt l i m = H.valB (frame_bitsAt l i m) := by unfold frame_numAt; rw [hg]
  have hb := H.bitsOf_valB hr
  have hrg := H.valB_range hr
  rw [hlen] at hb hrg
  rw [hv]
  exact ⟨hb.symm, hrg⟩
theorem take_bitsAt (l : List Int) (i m : Nat) : l.take (i + m) = l.take i ++ frame_bitsAt l i m := by
  have := List.take_append_drop i (l.take (i + m))
  rw [List.take_take, Nat.min_eq_left (by omega)] at this
  exact this.symm
theorem numAt_one {l : List Int} (h : H.rightB l = true) (i : Nat) (hl : i < l.length) : frame_numAt l i 1 = l.getD i 0 := by
  have hb : frame_bitsAt l i 1 = [l.getD i 0] := by
    unfold frame_bitsAt
    rw [H.take_snoc 0 l i hl, List.drop_append_of_le_length (by rw [List.length_take]; omega), List.drop_eq_nil_of_le (by rw [List.length_take]; omega)]; rfl
  have hr := bitsAt_right h i 1
  unfold frame_numAt
  rw [H.getB_right hr (by rw [hb]; simp), hb]
  unfold H.valB; simp
end Go.Proofs.Ythgeekcobmhbfaa.PB

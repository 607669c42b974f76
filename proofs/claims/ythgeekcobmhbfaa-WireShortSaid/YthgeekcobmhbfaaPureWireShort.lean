/- A frame as it is heard, cut off anywhere, is short there; bits that are a frame are that frame's, as it is heard. -/
import Derived.Test.YthgeekcobmhbfaaPx16
import Derived.Test.YthgeekcobmhbfaaPureEar
import Derived.Test.YthgeekcobmhbfaaPureFR4
set_option linter.unusedVariables false
set_option linter.unusedSimpArgs false
namespace Go.Proofs.Ythgeekcobmhbfaa.PB
open Go.RowKit Go.Proofs.Ythgeekcobmhbfaa.Px Go.Proofs.YthgeekcobmhbfaaW.PrintWords Go.Proofs.YthgeekcobmhbfaaW.PrintLast Go.Proofs.YthgeekcobmhbfaaW.PrintMore
open Go.Proofs.Ythgeekcobmhbfaa.H (IdOk rankF bitI bitsOf spreadB Bit runS stuffGo stuffD)
/-- What was heard is what was sent. -/
def Sent (R : List Int) (tt : Nat) (s : Int × Int) (had : List Int) : Prop := (∀ b ∈ had, Bit b) ∧ ∀ l, stuffGo (-1, 0) (had ++ l) = R.take tt ++ stuffD s l
/-- A fault, and its place. -/
def Bad (R : List Int) (s : EarS) : Prop := s.1 = false ∧ (s.2.2.2.2.2 = 1 ∨ s.2.2.2.2.2 = 2 ∨ s.2.2.2.2.2 = 3 ∨ s.2.2.2.2.2 = 4) ∧ 0 ≤ s.2.2.2.2.1 ∧ s.2.2.2.2.1 ≤ (R.length : Int)
theorem Sent.start (R : List Int) : Sent R 0 (-1, 0) [] := ⟨fun b h => (by cases h), fun l => by rw [List.take_zero, List.nil_append, List.nil_append, stuffD_go (by decide)]⟩
theorem At.take {R : List Int} {tt : Nat} {s : Int × Int} {b : Int} {T : List Int} (h : At R tt s (b :: T)) : R.take (tt + 1) = R.take tt ++ [b] := by
  rw [H.take_snoc 0 R tt h.bit.1, h.bit.2.1]
theorem At.in {R : List Int} {tt : Nat} {s : Int × Int} {b : Int} {T : List Int} (h : At R tt s (b :: T)) (hr : ∀ x ∈ R, Bit x) : Bit b := by
  rw [← h.bit.2.1]; exact hr _ (fb_rd_mem h.bit.1)
theorem Sent.next {R : List Int} {tt : Nat} {s : Int × Int} {b : Int} {T had : List Int} (h : At R tt s (b :: T)) (hb : Bit b) (h5 : s.2 ≠ 5) (hS : Sent R tt s had) : Sent R (tt + 1) (runS s b) (had ++ [b]) := by
  refine ⟨fun x hx => ?_, fun l => ?_⟩
  · rcases List.mem_append.mp hx with hx | hx
    · exact hS.1 x hx
    · rw [List.mem_singleton.mp hx]; exact hb
  · rw [List.append_assoc, hS.2, List.singleton_append, stuffD_go h5, stuffGo_D, h.take, List.append_assoc]; rfl
theorem Sent.skip {R : List Int} {tt : Nat} {s : Int × Int} {b : Int} {T had : List Int} (h : At R tt s (b :: T)) (h5 : s.2 = 5) (hn : b = 1 - s.1) (hS : Sent R tt s had) : Sent R (tt + 1) (b, 1) had := by
  refine ⟨hS.1, fun l => ?_⟩
  rw [hS.2, stuffD_5 h5, h.take, stuffD_go (by show (1 : Int) ≠ 5; omega), List.append_assoc, ← hn]; rfl
theorem turn_of {b c : Int} (hb : Bit b) (hc : Bit c) (h : b ≠ c) : b = 1 - c := by rcases hb with rfl | rfl <;> rcases hc with rfl | rfl <;> first | rfl | exact absurd rfl h
theorem next_conv {R : List Int} (hr : ∀ x ∈ R, Bit x) {tt : Nat} {s : Int × Int} {T had : List Int} (h : At R tt s T) (hS : Sent R tt s had) (x : Bool) (a : Int) :
    Bad R (ear_next R (x, tt, s.2, had, a, 0)) ∨ ∃ (tt' : Nat) (s' : Int × Int) (T' : List Int) (b : Int), ear_next R (x, tt, s.2, had, a, 0) = (true, tt', s'.2, had ++ [b], (tt' : Int) - 1, 0) ∧ At R tt' s' T' ∧ Sent R tt' s' (had ++ [b]) ∧ tt < tt' := by
  have hl := h.len
  cases T with
  | nil => rw [ear_end_ h]; exact .inl ⟨rfl, .inl rfl, by show (0 : Int) ≤ (R.length : Int); omega, Int.le_refl _⟩
  | cons c T =>
    have hc := h.in hr
    rw [List.length_cons] at hl
    by_cases h5 : s.2 = 5
    · by_cases he : c = s.1
      · rw [ear_bad h hc h5 he]; exact .inl ⟨rfl, .inr (.inl rfl), by show (0 : Int) ≤ (tt : Int); omega, by show (tt : Int) ≤ (R.length : Int); omega⟩
      · rw [ear_skip h hc h5 he]
        have h' := h.skip hc
        have hS' := hS.skip h h5 (turn_of hc (h.five h5) he)
        have hl' := h'.len
        cases T with
        | nil =>
          rw [ear_end_ (s := (c, 1)) h']; exact .inl ⟨rfl, .inl rfl, by show (0 : Int) ≤ (R.length : Int); omega, Int.le_refl _⟩
        | cons b T =>
          have hb := h'.in hr
          have h51 : ((c, 1) : Int × Int).2 ≠ 5 := by show (1 : Int) ≠ 5; omega
          exact .inr ⟨tt + 1 + 1, _, T, b, by rw [ear_bit (s := (c, 1)) h' hb h51]; congr 5; push_cast; omega, h'.next hb h51, hS'.next h' hb h51, by omega⟩
    · exact .inr ⟨tt + 1, _, T, c, by rw [ear_bit h hc h5]; congr 5; push_cast; omega, h.next hc h5, hS.next h hc h5, by omega⟩
theorem head_conv {R : List Int} (hr : ∀ x ∈ R, Bit x) : ∀ (k tt : Nat) (s : Int × Int) (T had : List Int) (x : Bool) (a : Int), At R tt s T → Sent R tt s had → (∀ m, 0 < m → m ≤ had.length → (frame_readB (had.take m)).1 ≠ 0) → R.length - tt < k →
    Bad R (headT R k (x, tt, s.2, had, a, 0)) ∨ ∃ (tt' : Nat) (s' : Int × Int) (T' had' : List Int), headT R k (x, tt, s.2, had, a, 0) = (true, tt', s'.2, had', (tt' : Int) - 1, 0) ∧ At R tt' s' T' ∧ Sent R tt' s' had' ∧ 0 < tt' ∧ (frame_readB had').1 = 0 ∧ (∀ m, 0 < m → m < had'.length → (frame_readB (had'.take m)).1 ≠ 0) := by
  intro k
  induction k with
  | zero => intro _ _ _ _ _ _ _ _ _ h; omega
  | succ k ih =>
    intro tt s T had x a hA hS hp hk
    rw [headT]
    rcases next_conv hr hA hS x a with hB | ⟨tt', s', T', b, he, hA', hS', hlt⟩
    · rw [if_neg (by rw [hB.1]; exact Bool.false_ne_true)]; exact .inl hB
    · rw [he, if_pos rfl]
      dsimp only
      have hle := hA'.1
      have hpp : ∀ m, 0 < m → m < (had ++ [b]).length → (frame_readB ((had ++ [b]).take m)).1 ≠ 0 := fun m h0 hm => by
        rw [List.length_append, List.length_singleton] at hm
        rw [List.take_append_of_le_length (by omega)]
        exact hp m h0 (by omega)
      by_cases h0 : (frame_readB (had ++ [b])).1 = 0
      · rw [if_pos h0]
        exact .inr ⟨tt', s', T', had ++ [b], rfl, hA', hS', by omega, h0, hpp⟩
      · rw [if_neg h0]
        by_cases h4 : (frame_readB (had ++ [b])).1 = 42 ∨ (frame_readB (had ++ [b])).1 = 41
        · rw [if_pos h4]
          exact .inl ⟨rfl, .inr (.inr (.inl rfl)), by show (0 : Int) ≤ (tt' : Int) - 1; omega, by show (tt' : Int) - 1 ≤ (R.length : Int); omega⟩
        · rw [if_neg h4]
          refine ih tt' s' T' (had ++ [b]) true ((tt' : Int) - 1) hA' hS' (fun m hm0 hm => ?_) (by omega)
          rcases Nat.lt_or_eq_of_le hm with h | h
          · exact hpp m hm0 h
          · rw [h, List.take_length]; exact h0
theorem many_conv {R : List Int} (hr : ∀ x ∈ R, Bit x) : ∀ (k tt : Nat) (s : Int × Int) (T had : List Int), At R tt s T → Sent R tt s had →
    Bad R (manyT R k (true, tt, s.2, had, (tt : Int) - 1, 0)) ∨ ∃ (tt' : Nat) (s' : Int × Int) (T' t : List Int), manyT R k (true, tt, s.2, had, (tt : Int) - 1, 0) = (true, tt', s'.2, had ++ t, (tt' : Int) - 1, 0) ∧ At R tt' s' T' ∧ Sent R tt' s' (had ++ t) ∧ tt ≤ tt' ∧ t.length = k := by
  intro k
  induction k with
  | zero => intro tt s T had hA hS; exact .inr ⟨tt, s, T, [], by rw [List.append_nil]; rfl, hA, by rw [List.append_nil]; exact hS, Nat.le_refl _, rfl⟩
  | succ k ih =>
    intro tt s T had hA hS
    rw [manyT, if_pos rfl]
    rcases next_conv hr hA hS true ((tt : Int) - 1) with hB | ⟨tt', s', T', b, he, hA', hS', hlt⟩
    · rw [many_false R k _ hB.1]; exact .inl hB
    · rw [he]
      rcases ih tt' s' T' (had ++ [b]) hA' hS' with hB | ⟨t2, s2, T2, t, he2, hA2, hS2, hlt2, hl⟩
      · exact .inl hB
      · exact .inr ⟨t2, s2, T2, b :: t, by rw [he2, List.append_assoc]; rfl, hA2, by rw [List.append_assoc] at hS2; exact hS2, by omega, by rw [List.length_cons, hl]⟩
theorem end_conv {R : List Int} (hr : ∀ x ∈ R, Bit x) {tt : Nat} {s : Int × Int} {T had : List Int} (h : At R tt s T) (hS : Sent R tt s had) (h0 : 0 < tt) (x : Bool) :
    Bad R (endT R (x, tt, s.2, had, (tt : Int) - 1, 0)).2 ∨ ∃ en, endT R (x, tt, s.2, had, (tt : Int) - 1, 0) = (en, true, tt, s.2, had, (tt : Int) - 1, 0) ∧ en ≤ R.length ∧ 0 < en ∧ stuffGo (-1, 0) had = R.take en := by
  have h1 := hS.2 []
  have hl := h.len
  rw [List.append_nil] at h1
  unfold endT
  dsimp only
  by_cases h5 : s.2 = 5
  · rw [if_pos h5]
    cases T with
    | nil =>
      rw [List.length_nil] at hl
      rw [if_pos (by omega)]
      exact .inl ⟨rfl, .inl rfl, by show (0 : Int) ≤ (tt : Int); omega, by show (tt : Int) ≤ (R.length : Int); omega⟩
    | cons c T =>
      obtain ⟨b1, b2, b3⟩ := h.bit
      have hc := h.in hr
      rcases h.2.2.2 with ⟨h9, _⟩ | ⟨_, h2, h3, _⟩
      · omega
      rw [if_neg (by omega), b2, show ((tt : Int) - 1).toNat = tt - 1 by omega, h2]
      by_cases he : c = s.1
      · rw [if_pos he]
        exact .inl ⟨rfl, .inr (.inl rfl), by show (0 : Int) ≤ (tt : Int); omega, by show (tt : Int) ≤ (R.length : Int); omega⟩
      · rw [if_neg he]
        refine .inr ⟨tt + 1, rfl, b1, Nat.succ_pos _, ?_⟩
        rw [h1, stuffD_5 h5, stuffGo, h.take, ← turn_of hc h3 he]
  · rw [if_neg h5]
    refine .inr ⟨tt, rfl, h.1, h0, ?_⟩
    rw [h1, stuffD_go h5, stuffGo, List.append_nil]
/-- A sum that is right was a frame's. -/
theorem sum_conv {R : List Int} (hr : ∀ x ∈ R, Bit x) :
    Bad R (sumT R ear_s0).2 ∨ ∃ (en : Nat) (s' : Nat × Int × List Int × Int × Int) (e : Bool) (id : Int) (rm : Bool) (ln : Int) (d : List Int), sumT R ear_s0 = (en, true, s') ∧ en ≤ R.length ∧ FRight e id rm ln d ∧ (∀ x ∈ d, H.U8 x) ∧ (sumH R ear_s0).2.2.2.1 = headF e id rm ln d ∧ R.take en = H.stuffB (bodyF (headF e id rm ln d)) := by
  have e0 : sumH R ear_s0 = headT R (R.length + 1) (false, 0, ((-1, 0) : Int × Int).2, [], 0, 0) := rfl
  rcases head_conv hr (R.length + 1) 0 (-1, 0) R [] false 0 (At.start R) (Sent.start R) (fun m h0 hm => by rw [List.length_nil] at hm; omega) (by omega) with hB | ⟨t1, s1, T1, hd, he, hA1, hS1, hp1, hz, hpre⟩
  · rw [← e0] at hB
    have em : sumM R ear_s0 = sumH R ear_s0 := by unfold sumM; exact many_false _ _ _ hB.1
    unfold sumT; rw [em, if_neg (by rw [hB.1]; exact Bool.false_ne_true)]
    exact .inl hB
  · rw [← e0] at he
    have hh : (sumH R ear_s0).2.2.2.1 = hd := by rw [he]
    have hrb : H.rightB hd = true := H.rightB_of hS1.1
    obtain ⟨e, id, rm, ln, d, hrd, hF, hU, hn, htk⟩ := read_back hrb hz
    have hh0 : 0 < (headF e id rm ln d).length := by rw [headF_len]; split <;> omega
    have hhd : hd = headF e id rm ln d := by
      rcases Nat.lt_or_eq_of_le hn with h | h
      · have h2 := hpre _ hh0 h
        rw [htk] at h2
        have h3 := read_head hF hU []
        rw [List.append_nil] at h3
        rw [h3] at h2
        exact absurd rfl h2
      · rw [h, List.take_length] at htk; exact htk
    rcases many_conv hr 15 t1 s1 T1 hd hA1 hS1 with hB | ⟨t2, s2, T2, t, he2, hA2, hS2, hlt2, hl⟩
    · have em : sumM R ear_s0 = manyT R 15 (true, t1, s1.2, hd, (t1 : Int) - 1, 0) := by unfold sumM; rw [he]
      unfold sumT; rw [em, if_neg (by rw [hB.1]; exact Bool.false_ne_true)]
      exact .inl hB
    · have em : sumM R ear_s0 = (true, t2, s2.2, hd ++ t, (t2 : Int) - 1, 0) := by unfold sumM; rw [he, he2]
      rcases end_conv hr hA2 hS2 (by omega) true with hB | ⟨en, he3, hen, hen0, htk2⟩
      · unfold sumT; rw [em, if_pos rfl, if_neg (by rw [hB.1]; exact Bool.false_ne_true)]
        exact .inl hB
      · unfold sumT
        rw [em, if_pos rfl, he3, if_pos rfl, hh]
        dsimp only
        rw [List.drop_left' rfl, List.take_left' rfl]
        by_cases hc : (H.getB t).1 = ((H.crcB hd).toNat : Int)
        · rw [if_pos hc]
          have htr : H.rightB t = true := H.rightB_of fun b hb => hS2.1 b (List.mem_append_right _ hb)
          have ht : t = bitsOf ((H.crcB hd).toNat : Int) 15 := by
            rw [H.getB_right htr (by omega)] at hc
            rw [← hc, ← hl, H.bitsOf_valB htr]
          refine .inr ⟨en, _, e, id, rm, ln, d, rfl, hen, hF, hU, hhd, ?_⟩
          rw [← htk2, ← hhd, ht]
          exact (H.stuffB_go (H.rightB_mem (body_right hrb))).symm
        · rw [if_neg hc]
          exact .inl ⟨rfl, .inr (.inr (.inr rfl)), by show (0 : Int) ≤ (en : Int) - 1; omega, by show (en : Int) - 1 ≤ (R.length : Int); omega⟩
theorem ten_cases {R : List Int} {en : Nat} : ∀ j, j ≤ 10 → en + (10 - j) ≤ R.length → (∀ i, i < 10 - j → en + i < R.length ∧ (i = 1 ∨ R.getD (en + i) 0 ≠ 0)) →
    (tenT R en j = none ∧ ∀ i, i < 10 → en + i < R.length ∧ (i = 1 ∨ R.getD (en + i) 0 ≠ 0)) ∨ ∃ p, tenT R en j = some p ∧ (p.1 = 1 ∨ p.1 = 3) ∧ 0 ≤ p.2 ∧ p.2 ≤ (R.length : Int)
  | 0, _, _, h => .inl ⟨rfl, h⟩
  | j + 1, hj, hl, h => by
    rw [tenT, show 9 - j = 10 - (j + 1) by omega]
    obtain ⟨i, hi⟩ : ∃ i, i = 10 - (j + 1) := ⟨_, rfl⟩
    rw [← hi] at h hl ⊢
    by_cases h1 : en + i = R.length
    · rw [if_pos h1]; exact .inr ⟨_, rfl, .inl rfl, by show (0 : Int) ≤ (R.length : Int); omega, Int.le_refl _⟩
    · rw [if_neg h1]
      by_cases h2 : ¬ i = 1 ∧ R.getD (en + i) 0 = 0
      · rw [if_pos h2]; exact .inr ⟨_, rfl, .inr rfl, by show (0 : Int) ≤ ((en + i : Nat) : Int); omega, by show ((en + i : Nat) : Int) ≤ (R.length : Int); omega⟩
      · rw [if_neg h2]
        refine ten_cases j (by omega) (by omega) (fun q hq => ?_)
        rcases Nat.lt_or_ge q i with h3 | h3
        · exact h q h3
        · have : q = i := by omega
          subst this
          exact ⟨by omega, by
            by_cases h4 : q = 1
            · exact .inl h4
            · exact .inr (fun h5 => h2 ⟨h4, h5⟩)⟩
/-- What is told of any bits. -/
theorem read_conv {R : List Int} (hr : ∀ x ∈ R, Bit x) :
    ((wire_readB R).1 = false ∧ (wire_readB R).2.1 ≠ 0 ∧ 0 ≤ (wire_readB R).2.2 ∧ (wire_readB R).2.2 ≤ (R.length : Int)) ∨
    ∃ (en : Nat) (e : Bool) (id : Int) (rm : Bool) (ln : Int) (d : List Int), FRight e id rm ln d ∧ (∀ x ∈ d, H.U8 x) ∧ (sumH R ear_s0).2.2.2.1 = headF e id rm ln d ∧ R.take en = H.stuffB (bodyF (headF e id rm ln d)) ∧ (∀ i, i < 10 → en + i < R.length ∧ (i = 1 ∨ R.getD (en + i) 0 ≠ 0)) ∧
      ((wire_readB R = (true, 5, ((en + 1 : Nat) : Int))) ∨ (wire_readB R = (true, 0, -1) ∧ R.getD (en + 1) 0 ≠ 1)) := by
  rcases sum_conv hr with hB | ⟨en, s', e, id, rm, ln, d, he, hen, hF, hU, hh, htk⟩
  · left
    unfold wire_readB
    rw [if_neg (by rw [hB.1]; exact Bool.false_ne_true)]
    refine ⟨rfl, ?_, hB.2.2⟩
    show (sumT R ear_s0).2.2.2.2.2.2 ≠ 0
    rcases hB.2.1 with h | h | h | h <;> rw [h] <;> decide
  · unfold wire_readB
    rw [he, if_pos rfl]
    dsimp only
    rcases ten_cases (R := R) (en := en) 10 (by decide) (by omega) (fun i hi => absurd hi (by omega)) with ⟨h1, h2⟩ | ⟨p, h1, h2, h3, h4⟩
    · rw [h1]
      dsimp only
      refine .inr ⟨en, e, id, rm, ln, d, hF, hU, hh, htk, h2, ?_⟩
      by_cases h : R.getD (en + 1) 0 = 1
      · rw [if_pos h]; exact .inl rfl
      · rw [if_neg h]; exact .inr ⟨rfl, h⟩
    · rw [h1]
      left
      refine ⟨rfl, ?_, h3, h4⟩
      show p.1 ≠ 0
      rcases h2 with h | h <;> rw [h] <;> decide
theorem ten0_some : ∀ i, i < 10 → i = 1 ∨ ten0.getD i 0 ≠ 0 := by decide
theorem cut_short {e : Bool} {id : Int} {rm : Bool} {ln : Int} {d : List Int} (h : FRight e id rm ln d) (hw : ∀ x ∈ d, H.U8 x) {j : Nat} (hj : j < (stuffF (headF e id rm ln d)).length + 10) : wire_Read.f ((stuffF (headF e id rm ln d) ++ ten0).take j) = some (false, 0, false, 0, [], 1, (j : Int)) := by
  have hS := stuffF_len (headF_right e id rm ln d)
  have hn := headF_len2 h
  have hbits : H.rightB (stuffF (headF e id rm ln d) ++ ten0) = true := by rw [H.rightB_append, H.rightB_of (stuffF_bits (headF_right e id rm ln d))]; rfl
  obtain ⟨R, hR⟩ : ∃ R, R = (stuffF (headF e id rm ln d) ++ ten0).take j := ⟨_, rfl⟩
  have hl : R.length = j := by rw [hR, List.length_take, List.length_append]; show min j (_ + 10) = j; omega
  have hrr : H.rightB R = true := by rw [hR]; exact H.rightB_of fun x hx => H.rightB_mem hbits x (List.mem_of_mem_take hx)
  have hU : (stuffF (headF e id rm ln d) ++ ten0).drop j ≠ [] := by
    intro k; have := congrArg List.length k; rw [List.length_drop, List.length_append, List.length_nil] at this; have h10 : ten0.length = 10 := rfl; omega
  have hcat : R ++ (stuffF (headF e id rm ln d) ++ ten0).drop j = H.stuffB (bodyF (headF e id rm ln d)) ++ ten0 := by rw [hR, List.take_append_drop]; rfl
  have hb : wire_readB R = (false, 1, (R.length : Int)) := by
    rcases sent_D h hw hcat with ⟨_, hs⟩ | ⟨en, h1, h2, _, h4⟩
    · exact hs
    · obtain ⟨m, hm⟩ : ∃ m, m = R.length - en := ⟨_, rfl⟩
      have hdl := congrArg List.length h2
      rw [List.length_append, List.length_drop] at hdl
      have hul : 0 < ((stuffF (headF e id rm ln d) ++ ten0).drop j).length := List.length_pos_iff.mpr hU
      have h10 : ten0.length = 10 := rfl
      have hm10 : m < 10 := by omega
      have hget : ∀ i, i < m → R.getD (en + i) 0 = ten0.getD i 0 := fun i hi => by
        rw [← h2, List.getD_eq_getElem?_getD, List.getD_eq_getElem?_getD, List.getElem?_append_left (by rw [List.length_drop]; omega), List.getElem?_drop]
      rw [ten_short hm10 (fun i hi => ⟨by omega, by rw [hget i hi]; exact ten0_some i (by omega)⟩) (by omega)] at h4
      exact h4
  rw [← hR, wread_eq R (by omega) hrr, readF_no (by rw [hb]), hb, hl]
theorem ten_heard {R : List Int} (hr : ∀ x ∈ R, Bit x) {en : Nat} (ht : ∀ i, i < 10 → en + i < R.length ∧ (i = 1 ∨ R.getD (en + i) 0 ≠ 0)) (h1 : R.getD (en + 1) 0 ≠ 1) : R.take (en + 10) = R.take en ++ ten0 := by
  have h9 := (ht 9 (by decide)).1
  have hb : ∀ i, i < 10 → R.getD (en + i) 0 = ten0.getD i 0 := fun i hi => by
    obtain ⟨a, b⟩ := ht i hi
    have hbit := hr _ (fb_rd_mem a)
    by_cases h : i = 1
    · subst h
      rcases hbit with k | k
      · rw [k]; rfl
      · exact absurd k h1
    · have hk : R.getD (en + i) 0 = 1 := by
        rcases hbit with k | k
        · exact absurd k (b.resolve_left h)
        · exact k
      rw [hk]
      match i, hi, h with
      | 0, _, _ | 2, _, _ | 3, _, _ | 4, _, _ | 5, _, _ | 6, _, _ | 7, _, _ | 8, _, _ | 9, _, _ => rfl
  refine List.ext_getElem? fun q => ?_
  have hl : (R.take en).length = en := by rw [List.length_take]; omega
  by_cases hq : q < en
  · rw [List.getElem?_append_left (by omega), List.getElem?_take_of_lt (by omega), List.getElem?_take_of_lt hq]
  · rw [List.getElem?_append_right (by omega), hl]
    by_cases hq2 : q < en + 10
    · rw [List.getElem?_take_of_lt hq2]
      have h := hb (q - en) (by omega)
      rw [show en + (q - en) = q by omega, List.getD_eq_getElem?_getD, List.getD_eq_getElem?_getD] at h
      have h10 : ten0.length = 10 := rfl
      rw [List.getElem?_eq_getElem (show q < R.length by omega), List.getElem?_eq_getElem (show q - en < ten0.length by omega)] at h ⊢
      exact congrArg some h
    · rw [List.getElem?_eq_none (by rw [List.length_take]; omega), List.getElem?_eq_none (by show 10 ≤ _; omega)]
end Go.Proofs.Ythgeekcobmhbfaa.PB
namespace Go.Proofs.Ythgeekcobmhbfaa.Pure
open Go.RowKit Go.Proofs.Ythgeekcobmhbfaa.PB Go.Proofs.Ythgeekcobmhbfaa.Px Go.Proofs.YthgeekcobmhbfaaW.PrintWords Go.Proofs.YthgeekcobmhbfaaW.PrintLast Go.Proofs.YthgeekcobmhbfaaW.PrintMore
open Go.Proofs.Ythgeekcobmhbfaa.H (IdOk rankF bitI bitsOf spreadB Bit)
theorem short_j1 (R : List Int) (hr : H.rightB R = true) (hl : R.length ≤ 1000) : ∃ K, ∀ k, K ≤ k → phaetonlaw05_WireShort.j1 k R true (wire_readB R).2.1 (wire_readB R).2.2 false (wire_readF R).1 (wire_readF R).2.1 (wire_readF R).2.2.1 (wire_readF R).2.2.2.1 (wire_readF R).2.2.2.2 = some true := by
  have hb := H.rightB_mem hr
  have hsz : phaetonref04_Same.f false 0 false 0 [] false 0 false 0 [] = some true := r4same_k (fun x hx => by cases hx)
  rcases read_conv hb with ⟨h1, h2, h3, h4⟩ | ⟨en, e, id, rm, ln, d, hF, hU, hh, htk, ht, h⟩
  · refine ⟨1, fun k hk => ?_⟩
    obtain ⟨k, rfl⟩ : ∃ j, k = j + 1 := ⟨k - 1, by omega⟩
    rw [readF_no h1, phaetonlaw05_WireShort.j1.eq_2, if_neg (by simp), if_neg h2, if_pos rfl, if_pos h3, if_pos h4]
    by_cases h5 : (wire_readB R).2.1 = 5
    · rw [if_pos h5]
    · rw [if_neg h5]; dsimp only; rw [hsz, Option.bind_some, if_pos rfl]
  · have h1l := (ht 1 (by decide)).1
    rcases h with h | ⟨h, h1⟩
    · refine ⟨1, fun k hk => ?_⟩
      obtain ⟨k, rfl⟩ : ∃ j, k = j + 1 := ⟨k - 1, by omega⟩
      rw [h, phaetonlaw05_WireShort.j1.eq_2, if_neg (by simp), if_neg (by show ¬ (5 : Int) = 0; decide), if_pos rfl, if_pos (by show (0 : Int) ≤ ((en + 1 : Nat) : Int); omega), if_pos (by show ((en + 1 : Nat) : Int) ≤ (R.length : Int); omega), if_pos rfl]
    · have hrf := readF_of hF hU hh (by rw [h])
      have hwq := wire_eq hF
      have hSe : R.take en = stuffF (headF e id rm ln d) := htk
      have h9l := (ht 9 (by decide)).1
      have hel : (stuffF (headF e id rm ln d)).length = en := by rw [← hSe, List.length_take]; omega
      have h20 := (stuffF_len (headF_right e id rm ln d)).1
      have hn := headF_len2 hF
      have hten := ten_heard hb ht h1
      rw [hSe] at hten
      have hsf : sentF (headF e id rm ln d) = stuffF (headF e id rm ln d) ++ [1, 1, 1, 1, 1, 1, 1, 1, 1, 1] := by unfold sentF; rw [ones_eq]
      rw [hsf] at hwq
      obtain ⟨K1, k1⟩ := same2_k (stuffF (headF e id rm ln d) ++ ten0) (stuffF (headF e id rm ln d) ++ ten0) (by rw [List.length_append]; show _ + 10 ≤ _; omega)
      rw [decide_eq_true rfl] at k1
      have hr4 := r4right_k e id rm ln d
      rw [decide_eq_true hF] at hr4
      generalize stuffF (headF e id rm ln d) = S at *
      have hwl : (S ++ [1, 1, 1, 1, 1, 1, 1, 1, 1, 1]).length = S.length + 10 := by rw [List.length_append]; rfl
      have hset : (S ++ [1, 1, 1, 1, 1, 1, 1, 1, 1, 1]).set (S.length + 1) 0 = S ++ ten0 := set_behind _ _ _ _
      have hww0 : wrap64 (((S.length + 10 : Nat) : Int) - 9) = ((S.length + 1 : Nat) : Int) := by unfold wrap64; omega
      have W0 := Aside0.mk hww0
      clear hww0
      rw [← hel] at hten
      refine ⟨K1 + 3, fun k hk => ?_⟩
      obtain ⟨k, rfl⟩ : ∃ j, k = j + 1 := ⟨k - 1, by omega⟩
      rw [h, hrf, phaetonlaw05_WireShort.j1.eq_2, if_neg (by simp), if_pos rfl, Option.bind_some]
      dsimp only
      rw [hwq, Option.bind_some, if_pos (by simp only [List.length_nil]; omega), Option.bind_some, List.nil_append, hwl, if_neg (by omega), if_neg (by omega), if_pos rfl, hr4 _ (by omega), Option.bind_some, if_pos rfl, W0.out, if_pos (by omega), if_pos (by omega), if_pos rfl, if_pos (by omega), if_pos (by omega), Int.toNat_natCast, Int.toNat_natCast, hset, hten, k1 _ (by omega), Option.bind_some, if_pos rfl]
theorem WireShort : phaetonlaw05_WireShort.Pure := by
  intro e id rm ln d at_ R _ _ _ hwd hat _ _ _
  have hw := bytes_of hwd
  have ha := H.of_wf8 hat
  obtain ⟨K0, hh⟩ := head05_k
  by_cases hF : FRight e id rm ln d
  case neg =>
    refine ⟨K0 + 2, ?_⟩
    unfold phaetonlaw05_WireShort.f
    rw [hh _ (by omega), Option.bind_some, great_eq, Option.bind_some]
    by_cases g : (d.length : Int) > 100
    · rw [decide_eq_true g, if_pos rfl, phaetonlaw05_WireShort.j0.eq_2, if_pos rfl, if_pos rfl]
    · rw [decide_eq_false g, if_neg (by simp), r4right_k _ _ _ _ _ _ (by omega), Option.bind_some, decide_eq_false hF, if_neg (by simp), phaetonlaw05_WireShort.j0.eq_2, if_pos rfl, if_pos rfl]
  by_cases hm1 : (R.length : Int) > 400
  · refine ⟨K0 + 2, ?_⟩
    unfold phaetonlaw05_WireShort.f
    rw [hh _ (by omega), Option.bind_some, great_eq, Option.bind_some, not_great hF, if_neg (by simp), r4right_k _ _ _ _ _ _ (by omega), Option.bind_some, decide_eq_true hF, if_pos rfl, if_pos hm1, phaetonlaw05_WireShort.j0.eq_2, if_pos rfl, if_pos rfl]
  obtain ⟨K1, k1⟩ := rright_k R (by omega)
  by_cases hr : H.rightB R = true
  case neg =>
    refine ⟨K0 + K1 + 2, ?_⟩
    unfold phaetonlaw05_WireShort.f
    rw [hh _ (by omega), Option.bind_some, great_eq, Option.bind_some, not_great hF, if_neg (by simp), r4right_k _ _ _ _ _ _ (by omega), Option.bind_some, decide_eq_true hF, if_pos rfl, if_neg hm1, k1 _ (by omega), Option.bind_some, Bool.eq_false_iff.mpr hr, Bool.not_false, phaetonlaw05_WireShort.j0.eq_2, if_pos rfl, if_pos rfl]
  obtain ⟨K2, k2⟩ := short_j1 R hr (by omega)
  have hrd := wread_eq R (by omega) hr
  have hhr := headF_right e id rm ln d
  have hl2 := headF_len2 hF
  have hsl := stuffF_len hhr
  obtain ⟨j, hj⟩ : ∃ j : Nat, j = (at_ % (((stuffF (headF e id rm ln d)).length + 10 : Nat) : Int)).toNat := ⟨_, rfl⟩
  have hjlt : j < (stuffF (headF e id rm ln d)).length + 10 := by
    have := Int.emod_lt_of_pos at_ (show (0 : Int) < (((stuffF (headF e id rm ln d)).length + 10 : Nat) : Int) by omega)
    have := Int.emod_nonneg at_ (show (((stuffF (headF e id rm ln d)).length + 10 : Nat) : Int) ≠ 0 by omega)
    omega
  have hja : wrap64 at_ = at_ := H.wrap_u8 ha
  have hjm : Int.tmod at_ (((stuffF (headF e id rm ln d)).length + 10 : Nat) : Int) = (j : Int) := by
    have := Int.emod_nonneg at_ (show (((stuffF (headF e id rm ln d)).length + 10 : Nat) : Int) ≠ 0 by omega)
    unfold H.U8 at ha; rw [Int.tmod_eq_emod_of_nonneg ha.1]; omega
  have hcs := cut_short hF hw hjlt
  have hwq := wire_eq hF
  have hsz : phaetonref04_Same.f false 0 false 0 [] false 0 false 0 [] = some true := r4same_k (fun x hx => by cases hx)
  have hsf : sentF (headF e id rm ln d) = stuffF (headF e id rm ln d) ++ [1, 1, 1, 1, 1, 1, 1, 1, 1, 1] := by unfold sentF; rw [ones_eq]
  rw [hsf] at hwq
  have hju := Aside0.mk hja
  have hjt := Aside0.mk hjm
  clear hja hjm hj ha hat
  generalize stuffF (headF e id rm ln d) = S at *
  have hwl : (S ++ [1, 1, 1, 1, 1, 1, 1, 1, 1, 1]).length = S.length + 10 := by rw [List.length_append]; rfl
  have hset : (S ++ [1, 1, 1, 1, 1, 1, 1, 1, 1, 1]).set (S.length + 1) 0 = S ++ ten0 := set_behind _ _ _ _
  have hww0 : wrap64 (((S.length + 10 : Nat) : Int) - 9) = ((S.length + 1 : Nat) : Int) := by unfold wrap64; omega
  have W0 := Aside0.mk hww0
  clear hww0
  refine ⟨K0 + K1 + K2 + 3, ?_⟩
  unfold phaetonlaw05_WireShort.f
  rw [hh _ (by omega), Option.bind_some, great_eq, Option.bind_some, not_great hF, if_neg (by simp), r4right_k _ _ _ _ _ _ (by omega), Option.bind_some, decide_eq_true hF, if_pos rfl, if_neg hm1, k1 _ (by omega), Option.bind_some, hr, Bool.not_true, phaetonlaw05_WireShort.j0.eq_2, if_neg (by simp), Option.bind_some, hwq, Option.bind_some, if_pos (by simp only [List.length_nil]; omega), Option.bind_some, List.nil_append, hwl, if_neg (by omega), W0.out, if_pos (by omega), if_pos (by omega), if_neg (by omega), hju.out, hjt.out, if_pos (by omega), if_pos (by omega), Int.toNat_natCast, Int.toNat_natCast, hset, hcs, Option.bind_some, hrd, Option.bind_some]
  dsimp only
  rw [hsz, Option.bind_some, if_pos rfl, if_pos rfl, show ((j : Int) != (j : Int)) = false by simp]
  exact k2 _ (by omega)
end Go.Proofs.Ythgeekcobmhbfaa.Pure

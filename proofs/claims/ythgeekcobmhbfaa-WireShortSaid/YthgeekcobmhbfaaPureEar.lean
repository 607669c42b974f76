/- What an ear hears of bits that were stuffed: plain laws of the words that wire.Read is told by. No program in sight. -/
import Derived.Test.YthgeekcobmhbfaaPx9
import Derived.Test.YthgeekcobmhbfaaPureFRead
import Derived.Test.YthgeekcobmhbfaaPureSent
import Derived.Test.YthgeekcobmhbfaaHandCrc
import Derived.Test.YthgeekcobmhbfaaHandStuffLaw
set_option linter.unusedVariables false
set_option linter.unusedSimpArgs false
namespace Go.Proofs.Ythgeekcobmhbfaa.PB
open Go.RowKit Go.Proofs.Ythgeekcobmhbfaa.Px Go.Proofs.YthgeekcobmhbfaaW.PrintWords Go.Proofs.YthgeekcobmhbfaaW.PrintLast Go.Proofs.YthgeekcobmhbfaaW.PrintMore
open Go.Proofs.Ythgeekcobmhbfaa.H (IdOk rankF bitI bitsOf spreadB Bit runS stuffGo stuffD stuffE St)
/-- How an ear stands: so far, the last bit and its run, what is left. -/
def At (R : List Int) (tt : Nat) (s : Int × Int) (T : List Int) : Prop := tt ≤ R.length ∧ R.drop tt = T ∧ s.2 ≤ 5 ∧ ((tt = 0 ∧ s = (-1, 0)) ∨ (0 < tt ∧ R.getD (tt - 1) 0 = s.1 ∧ Bit s.1 ∧ 1 ≤ s.2))
theorem At.start (R : List Int) : At R 0 (-1, 0) R := ⟨Nat.zero_le _, rfl, by decide, .inl ⟨rfl, rfl⟩⟩
theorem At.st {R : List Int} {tt : Nat} {s : Int × Int} {T : List Int} (h : At R tt s T) : St s := by
  rcases h.2.2.2 with ⟨_, rfl⟩ | ⟨_, _, h1, h2⟩
  · exact .inl rfl
  · exact .inr ⟨h1, h2⟩
theorem At.len {R : List Int} {tt : Nat} {s : Int × Int} {T : List Int} (h : At R tt s T) : tt + T.length = R.length := by
  have := h.1; rw [← h.2.1, List.length_drop]; omega
theorem At.bit {R : List Int} {tt : Nat} {s : Int × Int} {b : Int} {T : List Int} (h : At R tt s (b :: T)) : tt < R.length ∧ R.getD tt 0 = b ∧ R.drop (tt + 1) = T := by
  have hl := h.len
  rw [List.length_cons] at hl
  have hlt : tt < R.length := by omega
  have hd := fb_rd_drop hlt
  rw [h.2.1] at hd
  injection hd with h1 h2
  exact ⟨hlt, h1.symm, h2.symm⟩
theorem At.run {R : List Int} {tt : Nat} {s : Int × Int} {T : List Int} (h : At R tt s T) (b : Int) : runS s b = (b, if b = s.1 then s.2 + 1 else 1) := H.run_eq h.st (by have := h.2.2.1; omega) b
theorem At.alike {R : List Int} {tt : Nat} {s : Int × Int} {b : Int} {T : List Int} (h : At R tt s (b :: T)) (hb : Bit b) : (0 < tt ∧ R.getD (tt - 1) 0 = R.getD tt 0) ↔ b = s.1 := by
  rw [h.bit.2.1]
  rcases h.2.2.2 with ⟨h0, rfl⟩ | ⟨h0, h1, h2, h3⟩
  · constructor
    · intro k; omega
    · intro k; rcases hb with rfl | rfl <;> exact absurd k (by decide)
  · rw [h1]; exact ⟨fun k => k.2.symm, fun k => ⟨h0, k.symm⟩⟩
theorem At.next {R : List Int} {tt : Nat} {s : Int × Int} {b : Int} {T : List Int} (h : At R tt s (b :: T)) (hb : Bit b) (h5 : s.2 ≠ 5) : At R (tt + 1) (runS s b) T := by
  have hr := h.run b
  have hs := h.2.2.1
  have hn : 0 ≤ s.2 := by rcases h.2.2.2 with ⟨_, rfl⟩ | ⟨_, _, _, h3⟩; · exact Int.le_refl _
                          · omega
  refine ⟨h.bit.1, h.bit.2.2, ?_, .inr ⟨Nat.succ_pos _, ?_, ?_, ?_⟩⟩
  · rw [hr]; dsimp only; split <;> omega
  · rw [hr]; exact h.bit.2.1
  · rw [hr]; exact hb
  · rw [hr]; dsimp only; split <;> omega
theorem At.skip {R : List Int} {tt : Nat} {s : Int × Int} {b : Int} {T : List Int} (h : At R tt s (b :: T)) (hb : Bit b) : At R (tt + 1) (b, 1) T :=
  ⟨h.bit.1, h.bit.2.2, by show (1 : Int) ≤ 5; omega, .inr ⟨Nat.succ_pos _, h.bit.2.1, hb, Int.le_refl 1⟩⟩
theorem ear_end_ {R : List Int} {tt : Nat} {s : Int × Int} (h : At R tt s []) (x : Bool) (had : List Int) (a f : Int) : ear_next R (x, tt, s.2, had, a, f) = (false, tt, s.2, had, (R.length : Int), 1) := by
  have hl := h.len
  rw [List.length_nil] at hl
  unfold ear_next
  dsimp only
  rw [show R.length + 1 - tt = 0 + 1 by omega, hearT, if_neg (by omega)]
theorem ear_bit {R : List Int} {tt : Nat} {s : Int × Int} {b : Int} {T : List Int} (h : At R tt s (b :: T)) (hb : Bit b) (h5 : s.2 ≠ 5) (x : Bool) (had : List Int) (a f : Int) : ear_next R (x, tt, s.2, had, a, f) = (true, tt + 1, (runS s b).2, had ++ [b], (tt : Int), f) := by
  obtain ⟨h1, h2, _⟩ := h.bit
  have ha := h.alike hb
  unfold ear_next
  dsimp only
  obtain ⟨k, hk⟩ : ∃ k, R.length + 1 - tt = k + 1 := ⟨R.length - tt, by omega⟩
  rw [hk, hearT, if_pos h1, if_neg h5, h.run b, h2]
  dsimp only
  rw [← h2]
  by_cases hc : b = s.1
  · rw [if_pos (ha.mpr hc), if_pos (h2.trans hc)]
  · rw [if_neg (fun k => hc (ha.mp k)), if_neg (fun k => hc (h2.symm.trans k))]
theorem ear_skip {R : List Int} {tt : Nat} {s : Int × Int} {b : Int} {T : List Int} (h : At R tt s (b :: T)) (hb : Bit b) (h5 : s.2 = 5) (hn : b ≠ s.1) (x : Bool) (had : List Int) (a f : Int) : ear_next R (x, tt, s.2, had, a, f) = ear_next R (x, tt + 1, 1, had, a, f) := by
  obtain ⟨h1, h2, _⟩ := h.bit
  have ha := h.alike hb
  unfold ear_next
  dsimp only
  obtain ⟨k, hk⟩ : ∃ k, R.length + 1 - tt = k + 1 := ⟨R.length - tt, by omega⟩
  conv => lhs; rw [hk, hearT, if_pos h1, if_pos h5, if_neg (fun k => hn (ha.mp k))]
  rw [show R.length + 1 - (tt + 1) = k by omega]
theorem ear_bad {R : List Int} {tt : Nat} {s : Int × Int} {b : Int} {T : List Int} (h : At R tt s (b :: T)) (hb : Bit b) (h5 : s.2 = 5) (hn : b = s.1) (x : Bool) (had : List Int) (a f : Int) : ear_next R (x, tt, s.2, had, a, f) = (false, tt + 1, s.2, had, (tt : Int), 2) := by
  obtain ⟨h1, h2, _⟩ := h.bit
  have ha := h.alike hb
  unfold ear_next
  dsimp only
  obtain ⟨k, hk⟩ : ∃ k, R.length + 1 - tt = k + 1 := ⟨R.length - tt, by omega⟩
  rw [hk, hearT, if_pos h1, if_pos h5, if_pos (ha.mpr hn)]
/-! ### what is left of bits that are stuffed -/
theorem stuffGo_D {s : Int × Int} (b : Int) (l : List Int) : stuffGo s (b :: l) = b :: stuffD (runS s b) l := by
  rw [stuffGo]; unfold stuffD
  by_cases c : (runS s b).2 = 5
  · rw [if_pos c, if_pos c, H.run_fst]
  · rw [if_neg c, if_neg c]
theorem stuffD_go {s : Int × Int} (h : s.2 ≠ 5) (l : List Int) : stuffD s l = stuffGo s l := by unfold stuffD; rw [if_neg h]
theorem stuffD_5 {s : Int × Int} (h : s.2 = 5) (l : List Int) : stuffD s l = (1 - s.1) :: stuffGo (1 - s.1, 1) l := by unfold stuffD; rw [if_pos h]
theorem one_sub {b : Int} (h : Bit b) : Bit (1 - b) ∧ 1 - b ≠ b := by rcases h with rfl | rfl <;> exact ⟨by unfold Bit; decide, by decide⟩
theorem At.five {R : List Int} {tt : Nat} {s : Int × Int} {T : List Int} (h : At R tt s T) (h5 : s.2 = 5) : Bit s.1 := by
  rcases h.2.2.2 with ⟨_, rfl⟩ | ⟨_, _, h2, _⟩
  · exact absurd h5 (by decide)
  · exact h2
/-- The next bit of those that were sent, or none is left. -/
theorem hear_D {R : List Int} {tt : Nat} {s : Int × Int} {T U more l : List Int} {b : Int} (h : At R tt s T) (hT : T ++ U = stuffD s (b :: l) ++ more) (hb : Bit b) (x : Bool) (had : List Int) (a f : Int) :
    (U ≠ [] ∧ ∃ tt' run', ear_next R (x, tt, s.2, had, a, f) = (false, tt', run', had, (R.length : Int), 1)) ∨
    ∃ (tt' : Nat) (s' : Int × Int) (T' : List Int), ear_next R (x, tt, s.2, had, a, f) = (true, tt', s'.2, had ++ [b], (tt' : Int) - 1, f) ∧ At R tt' s' T' ∧ T' ++ U = stuffD s' l ++ more ∧ tt < tt' := by
  by_cases h5 : s.2 = 5
  · have hs := h.five h5
    obtain ⟨hb1, hb2⟩ := one_sub hs
    rw [stuffD_5 h5] at hT
    cases T with
    | nil =>
      refine .inl ⟨?_, _, _, ear_end_ h x had a f⟩
      intro hu; rw [hu] at hT; simp at hT
    | cons c T =>
      rw [List.cons_append, List.cons_append] at hT
      injection hT with hc hT
      subst hc
      have h' := h.skip hb1
      rw [ear_skip h hb1 h5 hb2]
      rw [stuffGo_D] at hT
      cases T with
      | nil =>
        refine .inl ⟨?_, _, _, ear_end_ h' x had a f⟩
        intro hu; rw [hu] at hT; simp at hT
      | cons c T =>
        rw [List.cons_append, List.cons_append] at hT
        injection hT with hc hT
        subst hc
        exact .inr ⟨tt + 1 + 1, _, T, by rw [ear_bit (s := (1 - s.1, 1)) h' hb (by show (1 : Int) ≠ 5; omega)]; congr 5; push_cast; omega, h'.next hb (by show (1 : Int) ≠ 5; omega), hT, by omega⟩
  · rw [stuffD_go h5, stuffGo_D] at hT
    cases T with
    | nil =>
      refine .inl ⟨?_, _, _, ear_end_ h x had a f⟩
      intro hu; rw [hu] at hT; simp at hT
    | cons c T =>
      rw [List.cons_append, List.cons_append] at hT
      injection hT with hc hT
      subst hc
      exact .inr ⟨tt + 1, _, T, by rw [ear_bit h hb h5]; congr 5; push_cast; omega, h.next hb h5, hT, by omega⟩
/-- A row that reads as a frame whole, and ends too soon wherever it is cut. -/
def Whole (hd : List Int) : Prop := (frame_readB hd).1 = 0 ∧ ∀ k, k < hd.length → frame_readB (hd.take k) = frame_err 40
theorem head_D {R U more rest hd : List Int} (hw : Whole hd) : ∀ (l : List Int) (k tt : Nat) (s : Int × Int) (T : List Int) (x : Bool) (had : List Int) (a f : Int), had ++ l = hd → l ≠ [] → At R tt s T → T ++ U = stuffD s (l ++ rest) ++ more → (∀ b ∈ l, Bit b) → R.length - tt < k →
    (U ≠ [] ∧ ∃ tt' run' had', headT R k (x, tt, s.2, had, a, f) = (false, tt', run', had', (R.length : Int), 1)) ∨
    ∃ (tt' : Nat) (s' : Int × Int) (T' : List Int), headT R k (x, tt, s.2, had, a, f) = (true, tt', s'.2, hd, (tt' : Int) - 1, f) ∧ At R tt' s' T' ∧ T' ++ U = stuffD s' rest ++ more ∧ tt < tt' := by
  intro l
  induction l with
  | nil => intro _ _ _ _ _ _ _ _ _ h; exact absurd rfl h
  | cons b l ih =>
    intro k tt s T x had a f hh _ hA hT hb hk
    obtain ⟨k, rfl⟩ : ∃ j, k = j + 1 := ⟨k - 1, by omega⟩
    rw [List.cons_append] at hT
    rw [headT]
    rcases hear_D hA hT (hb b (by simp)) x had a f with ⟨hU, tt', run', he⟩ | ⟨tt', s', T', he, hA', hT', hlt⟩
    · exact .inl ⟨hU, tt', run', had, by rw [he, if_neg (by simp)]⟩
    · rw [he, if_pos rfl]
      dsimp only
      have hA1 := hA'.1
      cases l with
      | nil =>
        rw [hh, if_pos hw.1]
        exact .inr ⟨tt', s', T', rfl, hA', hT', hlt⟩
      | cons c l =>
        have hp : had ++ [b] = hd.take (had.length + 1) := by
          rw [← hh, show had ++ b :: c :: l = (had ++ [b]) ++ (c :: l) by simp, List.take_left' (by simp)]
        have h40 : frame_readB (had ++ [b]) = frame_err 40 := by
          rw [hp]
          refine hw.2 _ ?_
          rw [← hh, List.length_append, List.length_cons, List.length_cons]; omega
        rw [h40, if_neg (by decide), if_neg (by decide)]
        rcases ih k tt' s' T' true (had ++ [b]) ((tt' : Int) - 1) f (by rw [← hh, List.append_assoc]; rfl) (by simp) hA' hT' (fun y hy => hb y (List.mem_cons_of_mem _ hy)) (by omega) with ⟨hU, t2, r2, h2, he2⟩ | ⟨t2, s2, T2, he2, hA2, hT2, hlt2⟩
        · exact .inl ⟨hU, t2, r2, h2, he2⟩
        · exact .inr ⟨t2, s2, T2, he2, hA2, hT2, by omega⟩
theorem many_false (R : List Int) : ∀ (k : Nat) (s : EarS), s.1 = false → manyT R k s = s
  | 0, _, _ => rfl
  | k + 1, s, h => by rw [manyT, if_neg (by rw [h]; exact Bool.false_ne_true), many_false R k s h]
theorem many_D {R U more rest : List Int} : ∀ (l : List Int) (tt : Nat) (s : Int × Int) (T had : List Int) (f : Int), At R tt s T → T ++ U = stuffD s (l ++ rest) ++ more → (∀ b ∈ l, Bit b) →
    (U ≠ [] ∧ ∃ tt' run' had', manyT R l.length (true, tt, s.2, had, (tt : Int) - 1, f) = (false, tt', run', had', (R.length : Int), 1)) ∨
    ∃ (tt' : Nat) (s' : Int × Int) (T' : List Int), manyT R l.length (true, tt, s.2, had, (tt : Int) - 1, f) = (true, tt', s'.2, had ++ l, (tt' : Int) - 1, f) ∧ At R tt' s' T' ∧ T' ++ U = stuffD s' rest ++ more ∧ tt ≤ tt' := by
  intro l
  induction l with
  | nil => intro tt s T had f hA hT _; exact .inr ⟨tt, s, T, by rw [List.append_nil]; rfl, hA, hT, Nat.le_refl _⟩
  | cons b l ih =>
    intro tt s T had f hA hT hb
    rw [List.cons_append] at hT
    rw [List.length_cons, manyT, if_pos rfl]
    rcases hear_D hA hT (hb b (by simp)) true had ((tt : Int) - 1) f with ⟨hU, tt', run', he⟩ | ⟨tt', s', T', he, hA', hT', hlt⟩
    · exact .inl ⟨hU, tt', run', had, by rw [he, many_false _ _ _ rfl]⟩
    · rw [he]
      rcases ih tt' s' T' (had ++ [b]) f hA' hT' (fun y hy => hb y (List.mem_cons_of_mem _ hy)) with ⟨hU, t2, r2, h2, he2⟩ | ⟨t2, s2, T2, he2, hA2, hT2, hlt2⟩
      · exact .inl ⟨hU, t2, r2, h2, he2⟩
      · exact .inr ⟨t2, s2, T2, by rw [he2, List.append_assoc]; rfl, hA2, hT2, by omega⟩
theorem end_D {R U more : List Int} {tt : Nat} {s : Int × Int} {T : List Int} (h : At R tt s T) (h0 : 0 < tt) (hT : T ++ U = stuffD s [] ++ more) (x : Bool) (had : List Int) (f : Int) :
    (U ≠ [] ∧ endT R (x, tt, s.2, had, (tt : Int) - 1, f) = (0, false, tt, s.2, had, (R.length : Int), 1)) ∨
    ∃ en, endT R (x, tt, s.2, had, (tt : Int) - 1, f) = (en, true, tt, s.2, had, (tt : Int) - 1, f) ∧ en ≤ R.length ∧ R.drop en ++ U = more := by
  unfold endT
  dsimp only
  by_cases h5 : s.2 = 5
  · rw [if_pos h5]
    have hs := h.five h5
    obtain ⟨hb1, hb2⟩ := one_sub hs
    rw [stuffD_5 h5, stuffGo] at hT
    have hl := h.len
    cases T with
    | nil =>
      rw [List.length_nil] at hl
      refine .inl ⟨?_, by rw [if_pos (by omega), show (tt : Int) = (R.length : Int) by omega]⟩
      intro hu; rw [hu] at hT; simp at hT
    | cons c T =>
      rw [List.cons_append, List.cons_append, List.nil_append] at hT
      injection hT with hc hT
      subst hc
      obtain ⟨b1, b2, b3⟩ := h.bit
      rcases h.2.2.2 with ⟨h1, _⟩ | ⟨_, h2, _, _⟩
      · omega
      rw [if_neg (by omega), if_neg (by rw [b2, show ((tt : Int) - 1).toNat = tt - 1 by omega, h2]; exact hb2)]
      exact .inr ⟨tt + 1, rfl, b1, by rw [b3]; exact hT⟩
  · rw [if_neg h5]
    rw [stuffD_go h5, stuffGo, List.nil_append] at hT
    exact .inr ⟨tt, rfl, h.1, by rw [h.2.1]; exact hT⟩
theorem sum_D {R U more hd sm : List Int} (hw : Whole hd) (hne : hd ≠ []) (hb : ∀ b ∈ hd ++ sm, Bit b) (h15 : sm.length = 15) (hc : (H.getB sm).1 = ((H.crcB hd).toNat : Int)) (hR : R ++ U = stuffGo (-1, 0) (hd ++ sm) ++ more) :
    (U ≠ [] ∧ ∃ tt' run' had', sumT R ear_s0 = (0, false, tt', run', had', (R.length : Int), 1)) ∨
    ∃ en s', sumT R ear_s0 = (en, true, s') ∧ (sumH R ear_s0).2.2.2.1 = hd ∧ en ≤ R.length ∧ R.drop en ++ U = more := by
  have hb1 : ∀ b ∈ hd, Bit b := fun b h => hb b (List.mem_append_left _ h)
  have hb2 : ∀ b ∈ sm, Bit b := fun b h => hb b (List.mem_append_right _ h)
  have e0 : sumH R ear_s0 = headT R (R.length + 1) (false, 0, ((-1, 0) : Int × Int).2, [], 0, 0) := rfl
  rcases head_D (R := R) (U := U) (more := more) (rest := sm ++ []) hw hd (R.length + 1) 0 (-1, 0) R false [] 0 0 rfl hne (At.start R) (by rw [List.append_nil, stuffD_go (by decide)]; exact hR) hb1 (by omega) with ⟨hU, t1, r1, h1, he⟩ | ⟨t1, s1, T1, he, hA1, hT1, hlt1⟩
  · refine .inl ⟨hU, t1, r1, h1, ?_⟩
    have em : sumM R ear_s0 = (false, t1, r1, h1, (R.length : Int), 1) := by unfold sumM; rw [e0, he, many_false _ _ _ rfl]
    unfold sumT; rw [em, if_neg (by simp)]
  · rw [← e0] at he
    rcases many_D (R := R) (U := U) (more := more) (rest := []) sm t1 s1 T1 hd 0 hA1 hT1 hb2 with ⟨hU, t2, r2, h2, he2⟩ | ⟨t2, s2, T2, he2, hA2, hT2, hlt2⟩
    · refine .inl ⟨hU, t2, r2, h2, ?_⟩
      have em : sumM R ear_s0 = (false, t2, r2, h2, (R.length : Int), 1) := by unfold sumM; rw [he, ← he2, h15]
      unfold sumT; rw [em, if_neg (by simp)]
    · have em : sumM R ear_s0 = (true, t2, s2.2, hd ++ sm, (t2 : Int) - 1, 0) := by unfold sumM; rw [he, ← he2, h15]
      have hh : (sumH R ear_s0).2.2.2.1 = hd := by rw [he]
      rcases end_D hA2 (by omega) hT2 true (hd ++ sm) 0 with ⟨hU, he3⟩ | ⟨en, he3, hen, hdr⟩
      · refine .inl ⟨hU, t2, s2.2, hd ++ sm, ?_⟩
        unfold sumT; rw [em, if_pos rfl, he3, if_neg (by simp)]
      · refine .inr ⟨en, (t2, s2.2, hd ++ sm, (t2 : Int) - 1, 0), ?_, hh, hen, hdr⟩
        unfold sumT
        rw [em, if_pos rfl, he3, if_pos rfl, hh]
        dsimp only
        rw [List.drop_left' rfl, List.take_left' rfl, if_pos hc]
/-! ### the ten behind -/
theorem ten_skip (R : List Int) (en : Nat) : ∀ j, j ≤ 10 → (∀ i, i < j → en + i < R.length ∧ (i = 1 ∨ R.getD (en + i) 0 ≠ 0)) → tenT R en 10 = tenT R en (10 - j)
  | 0, _, _ => rfl
  | j + 1, hj, h => by
    rw [ten_skip R en j (by omega) (fun i hi => h i (by omega))]
    obtain ⟨h1, h2⟩ := h j (by omega)
    obtain ⟨k, hk⟩ : ∃ k, 10 - j = k + 1 := ⟨9 - j, by omega⟩
    rw [hk, tenT, show 9 - k = j by omega, if_neg (by omega), if_neg (fun k => h2.elim k.1 (fun q => q k.2)), show 10 - (j + 1) = k by omega]
theorem ten_none {R : List Int} {en : Nat} (h : ∀ i, i < 10 → en + i < R.length ∧ (i = 1 ∨ R.getD (en + i) 0 ≠ 0)) : tenT R en 10 = none := by
  rw [ten_skip R en 10 (by decide) h]; rfl
theorem ten_short {R : List Int} {en j : Nat} (hj : j < 10) (h : ∀ i, i < j → en + i < R.length ∧ (i = 1 ∨ R.getD (en + i) 0 ≠ 0)) (he : en + j = R.length) : tenT R en 10 = some (1, (R.length : Int)) := by
  rw [ten_skip R en j (by omega) h]
  obtain ⟨k, hk⟩ : ∃ k, 10 - j = k + 1 := ⟨9 - j, by omega⟩
  rw [hk, tenT, show 9 - k = j by omega, if_pos he]
theorem ten_form {R : List Int} {en j : Nat} (hj : j < 10) (h : ∀ i, i < j → en + i < R.length ∧ (i = 1 ∨ R.getD (en + i) 0 ≠ 0)) (hl : en + j < R.length) (h1 : j ≠ 1) (hz : R.getD (en + j) 0 = 0) : tenT R en 10 = some (3, ((en + j : Nat) : Int)) := by
  rw [ten_skip R en j (by omega) h]
  obtain ⟨k, hk⟩ : ∃ k, 10 - j = k + 1 := ⟨9 - j, by omega⟩
  rw [hk, tenT, show 9 - k = j by omega, if_neg (by omega), if_pos ⟨h1, hz⟩]
/-! ### what is told of bits that were sent -/
theorem whole_head {e : Bool} {id : Int} {rm : Bool} {ln : Int} {d : List Int} (h : FRight e id rm ln d) (hw : ∀ x ∈ d, H.U8 x) : Whole (headF e id rm ln d) :=
  ⟨by have := read_head h hw []; rw [List.append_nil] at this; rw [this], fun k hk => read_less h k hk⟩
theorem getB_crc (h : List Int) : (H.getB (bitsOf ((H.crcB h).toNat : Int) 15)).1 = ((H.crcB h).toNat : Int) := by
  have hs := (H.crcB h).isLt
  rw [getB_bitsOf (by decide) (by omega) (by omega)]
/-- Bits that begin as a frame's, or a part of them. -/
theorem sent_D {e : Bool} {id : Int} {rm : Bool} {ln : Int} {d : List Int} (h : FRight e id rm ln d) (hw : ∀ x ∈ d, H.U8 x) {R U more : List Int} (hR : R ++ U = H.stuffB (bodyF (headF e id rm ln d)) ++ more) :
    (U ≠ [] ∧ wire_readB R = (false, 1, (R.length : Int))) ∨
    ∃ en, en ≤ R.length ∧ R.drop en ++ U = more ∧ (sumH R ear_s0).2.2.2.1 = headF e id rm ln d ∧ wire_readB R = (match tenT R en 10 with
     | some p => (false, p.1, p.2)
     | none => if R.getD (en + 1) 0 = 1 then (true, 5, (en + 1 : Nat)) else (true, 0, -1)) := by
  have hr := headF_right e id rm ln d
  have hb := H.rightB_mem (body_right hr)
  have hne : headF e id rm ln d ≠ [] := by
    intro k; have := headF_len e id rm ln d; rw [k, List.length_nil] at this; split at this <;> omega
  rw [H.stuffB_go hb] at hR
  rcases sum_D (whole_head h hw) hne hb (H.bitsOf_length _ 15) (getB_crc _) hR with ⟨hU, t, r, hd, he⟩ | ⟨en, s', he, hh, hen, hdr⟩
  · exact .inl ⟨hU, by unfold wire_readB; rw [he, if_neg (by simp)]⟩
  · exact .inr ⟨en, hen, hdr, hh, by unfold wire_readB; rw [he, if_pos rfl]; rfl⟩
theorem wread_eq (R : List Int) (hl : R.length ≤ 1000000) (hr : H.rightB R = true) : wire_Read.f R = some ((wire_readF R).1, (wire_readF R).2.1, (wire_readF R).2.2.1, (wire_readF R).2.2.2.1, (wire_readF R).2.2.2.2, (wire_readB R).2.1, (wire_readB R).2.2) := by
  unfold wire_Read.f
  rw [if_pos hl, if_pos]
  exact List.all_eq_true.mpr fun x hx => decide_eq_true (right_W64 hr x hx)
section
variable {e : Bool} {id : Int} {rm : Bool} {ln : Int} {d more : List Int}
theorem sent_full (h : FRight e id rm ln d) (hw : ∀ x ∈ d, H.U8 x) : (sumH (stuffF (headF e id rm ln d) ++ more) ear_s0).2.2.2.1 = headF e id rm ln d ∧ wire_readB (stuffF (headF e id rm ln d) ++ more) = (match tenT (stuffF (headF e id rm ln d) ++ more) (stuffF (headF e id rm ln d)).length 10 with
     | some p => (false, p.1, p.2)
     | none => if (stuffF (headF e id rm ln d) ++ more).getD ((stuffF (headF e id rm ln d)).length + 1) 0 = 1 then (true, 5, ((stuffF (headF e id rm ln d)).length + 1 : Nat)) else (true, 0, -1)) := by
  rcases sent_D h hw (R := stuffF (headF e id rm ln d) ++ more) (U := []) (more := more) (List.append_nil _) with ⟨hU, _⟩ | ⟨en, h1, h2, h3, h4⟩
  · exact absurd rfl hU
  · have hl := congrArg List.length h2
    rw [List.append_nil, List.length_drop, List.length_append] at hl
    rw [List.length_append] at h1
    have he : en = (stuffF (headF e id rm ln d)).length := by omega
    rw [he] at h4
    exact ⟨h3, h4⟩
theorem readF_of (h : FRight e id rm ln d) (hw : ∀ x ∈ d, H.U8 x) {R : List Int} (hh : (sumH R ear_s0).2.2.2.1 = headF e id rm ln d) (h1 : (wire_readB R).1 = true) : wire_readF R = (e, id, rm, ln, d) := by
  have := read_head h hw []
  rw [List.append_nil] at this
  unfold wire_readF
  rw [if_pos h1, hh, this]
theorem readF_no {R : List Int} (h1 : (wire_readB R).1 = false) : wire_readF R = (false, 0, false, 0, []) := by
  unfold wire_readF
  rw [if_neg (by rw [h1]; exact Bool.false_ne_true)]
theorem sent_right (hm : H.rightB more = true) : H.rightB (stuffF (headF e id rm ln d) ++ more) = true := by
  rw [H.rightB_append, hm, H.rightB_of (stuffF_bits (headF_right e id rm ln d))]; rfl
theorem sent_size (h : FRight e id rm ln d) (hl : more.length ≤ 900000) : (stuffF (headF e id rm ln d) ++ more).length ≤ 1000000 := by
  have h1 := (stuffF_len (headF_right e id rm ln d)).2
  have h2 := headF_len2 h
  rw [List.length_append]; omega
theorem ten_ok {S : List Int} (h10 : 10 ≤ more.length) (ht : ∀ i, i < 10 → i = 1 ∨ more.getD i 0 ≠ 0) : ∀ i, i < 10 → S.length + i < (S ++ more).length ∧ (i = 1 ∨ (S ++ more).getD (S.length + i) 0 ≠ 0) := fun i hi =>
  ⟨by rw [List.length_append]; omega, by rw [getD_behind]; exact ht i hi⟩
/-- Ten ones behind it: read, not acknowledged. -/
theorem read_ok5 (h : FRight e id rm ln d) (hw : ∀ x ∈ d, H.U8 x) (hm : H.rightB more = true) (hl : more.length ≤ 900000) (h10 : 10 ≤ more.length) (ht : ∀ i, i < 10 → i = 1 ∨ more.getD i 0 ≠ 0) (h1 : more.getD 1 0 = 1) :
    wire_Read.f (stuffF (headF e id rm ln d) ++ more) = some (e, id, rm, ln, d, 5, (((stuffF (headF e id rm ln d)).length + 1 : Nat) : Int)) := by
  obtain ⟨a, b⟩ := sent_full h hw (more := more)
  rw [ten_none (ten_ok h10 ht)] at b
  dsimp only at b
  rw [getD_behind, if_pos h1] at b
  rw [wread_eq _ (sent_size h hl) (sent_right hm), readF_of h hw a (by rw [b]), b]
theorem read_ok0 (h : FRight e id rm ln d) (hw : ∀ x ∈ d, H.U8 x) (hm : H.rightB more = true) (hl : more.length ≤ 900000) (h10 : 10 ≤ more.length) (ht : ∀ i, i < 10 → i = 1 ∨ more.getD i 0 ≠ 0) (h1 : more.getD 1 0 ≠ 1) :
    wire_Read.f (stuffF (headF e id rm ln d) ++ more) = some (e, id, rm, ln, d, 0, -1) := by
  obtain ⟨a, b⟩ := sent_full h hw (more := more)
  rw [ten_none (ten_ok h10 ht)] at b
  dsimp only at b
  rw [getD_behind, if_neg h1] at b
  rw [wread_eq _ (sent_size h hl) (sent_right hm), readF_of h hw a (by rw [b]), b]
theorem read_form (h : FRight e id rm ln d) (hw : ∀ x ∈ d, H.U8 x) (hm : H.rightB more = true) (hl : more.length ≤ 900000) (h10 : 10 ≤ more.length) {j : Nat} (hj : j < 10) (ht : ∀ i, i < j → i = 1 ∨ more.getD i 0 ≠ 0) (h1 : j ≠ 1) (hz : more.getD j 0 = 0) :
    wire_Read.f (stuffF (headF e id rm ln d) ++ more) = some (false, 0, false, 0, [], 3, (((stuffF (headF e id rm ln d)).length + j : Nat) : Int)) := by
  obtain ⟨a, b⟩ := sent_full h hw (more := more)
  rw [ten_form hj (fun i hi => ⟨by rw [List.length_append]; omega, by rw [getD_behind]; exact ht i hi⟩) (by rw [List.length_append]; omega) h1 (by rw [getD_behind]; exact hz)] at b
  dsimp only at b
  rw [wread_eq _ (sent_size h hl) (sent_right hm), readF_no (by rw [b]), b]
theorem set_behind (S more : List Int) (i : Nat) (x : Int) : (S ++ more).set (S.length + i) x = S ++ more.set i x := by
  rw [List.set_append_right _ _ (by omega), Nat.add_sub_cancel_left]
end
/-- The ten as they are heard. -/
def ten0 : List Int := [1, 0, 1, 1, 1, 1, 1, 1, 1, 1]
end Go.Proofs.Ythgeekcobmhbfaa.PB

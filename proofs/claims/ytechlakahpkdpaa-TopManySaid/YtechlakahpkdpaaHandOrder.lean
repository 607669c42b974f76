/- Plain words of this session's own: which row of bits is ahead of another one, ranks, the first of the least. No program in sight. -/
import Derived.Test.YtechlakahpkdpaaHandBits
set_option linter.unusedVariables false
set_option linter.unusedSimpArgs false
namespace Go.Proofs.Ytechlakahpkdpaa.H
/-- Where two rows part first: both have a bit there, all ahead of it is alike. -/
def Parts (a b : List Int) (d : Nat) : Prop := d < a.length ∧ d < b.length ∧ a.take d = b.take d ∧ a.getD d 0 ≠ b.getD d 0
def lessB : List Int → List Int → Bool
  | x :: a, y :: b => if x = y then lessB a b else decide (x < y)
  | _, _ => false
/-- Where two rows part first; -1: nowhere. -/
def whereB : List Int → List Int → Nat → Int
  | x :: a, y :: b, i => if x = y then whereB a b (i + 1) else (i : Int)
  | _, _, _ => -1
theorem getD_of_take {a b : List Int} {d i : Nat} (h : a.take d = b.take d) (hi : i < d) : a.getD i 0 = b.getD i 0 := by
  have h1 : (a.take d)[i]? = (b.take d)[i]? := by rw [h]
  rw [List.getElem?_take_of_lt hi, List.getElem?_take_of_lt hi] at h1
  rw [List.getD_eq_getElem?_getD, List.getD_eq_getElem?_getD, h1]
theorem take_of_take {a b : List Int} {d i : Nat} (h : a.take d = b.take d) (hi : i ≤ d) : a.take i = b.take i := by
  have h1 : (a.take d).take i = (b.take d).take i := by rw [h]
  rwa [List.take_take, List.take_take, Nat.min_eq_left hi] at h1
theorem Parts.symm {a b : List Int} {d : Nat} (h : Parts a b d) : Parts b a d := ⟨h.2.1, h.1, h.2.2.1.symm, fun e => h.2.2.2 e.symm⟩
theorem Parts.uniq {a b : List Int} {d e : Nat} (h : Parts a b d) (k : Parts a b e) : d = e := by
  rcases Nat.lt_trichotomy d e with h1 | h1 | h1
  · exact absurd (getD_of_take k.2.2.1 h1) h.2.2.2
  · exact h1
  · exact absurd (getD_of_take h.2.2.1 h1) k.2.2.2
theorem Parts.ne {a b : List Int} {d : Nat} (h : Parts a b d) : a ≠ b := fun e => h.2.2.2 (by rw [e])
theorem Parts.cons {a b : List Int} {d : Nat} (x : Int) (h : Parts a b d) : Parts (x :: a) (x :: b) (d + 1) := ⟨Nat.succ_lt_succ h.1, Nat.succ_lt_succ h.2.1, by rw [List.take_succ_cons, List.take_succ_cons, h.2.2.1], h.2.2.2⟩
theorem Parts.take_ne {a b : List Int} {d k : Nat} (h : Parts a b d) (hk : d < k) : a.take k ≠ b.take k := fun e => h.2.2.2 (getD_of_take e hk)
theorem Parts.take_eq {a b : List Int} {d k : Nat} (h : Parts a b d) (hk : k ≤ d) : a.take k = b.take k := take_of_take h.2.2.1 hk
/-- Two rows part somewhere, or one begins the other. -/
theorem parts_or : ∀ a b : List Int, (∃ d, Parts a b d) ∨ a = b.take a.length ∨ b = a.take b.length
  | [], b => Or.inr (Or.inl rfl)
  | x :: a, [] => Or.inr (Or.inr rfl)
  | x :: a, y :: b => by
    by_cases h : x = y
    · subst h
      rcases parts_or a b with ⟨d, hd⟩ | h1 | h1
      · exact Or.inl ⟨d + 1, hd.cons x⟩
      · exact Or.inr (Or.inl (by rw [List.length_cons, List.take_succ_cons, ← h1]))
      · exact Or.inr (Or.inr (by rw [List.length_cons, List.take_succ_cons, ← h1]))
    · exact Or.inl ⟨0, Nat.succ_pos _, Nat.succ_pos _, rfl, h⟩
theorem whereB_parts : ∀ (a b : List Int) (d i : Nat), Parts a b d → whereB a b i = ((i + d : Nat) : Int)
  | [], _, d, _, h => absurd h.1 (Nat.not_lt_zero d)
  | _ :: _, [], d, _, h => absurd h.2.1 (Nat.not_lt_zero d)
  | x :: a, y :: b, 0, i, h => by
    unfold whereB
    rw [if_neg (show ¬ x = y from h.2.2.2)]; rfl
  | x :: a, y :: b, d + 1, i, h => by
    have h0 : x = y := getD_of_take (i := 0) h.2.2.1 (Nat.succ_pos d)
    unfold whereB
    rw [if_pos h0, whereB_parts a b d (i + 1) ⟨Nat.lt_of_succ_lt_succ h.1, Nat.lt_of_succ_lt_succ h.2.1, by have := h.2.2.1; rw [List.take_succ_cons, List.take_succ_cons] at this; injection this, h.2.2.2⟩]
    congr 1; omega
theorem whereB_self : ∀ (a : List Int) (i : Nat), whereB a a i = -1
  | [], _ => rfl
  | x :: a, i => by unfold whereB; rw [if_pos rfl, whereB_self a (i + 1)]
theorem lessB_parts : ∀ (a b : List Int) (d : Nat), Parts a b d → lessB a b = decide (a.getD d 0 < b.getD d 0)
  | [], _, d, h => absurd h.1 (Nat.not_lt_zero d)
  | _ :: _, [], d, h => absurd h.2.1 (Nat.not_lt_zero d)
  | x :: a, y :: b, 0, h => by
    unfold lessB
    rw [if_neg (show ¬ x = y from h.2.2.2)]; rfl
  | x :: a, y :: b, d + 1, h => by
    have h0 : x = y := getD_of_take (i := 0) h.2.2.1 (Nat.succ_pos d)
    unfold lessB
    rw [if_pos h0, lessB_parts a b d ⟨Nat.lt_of_succ_lt_succ h.1, Nat.lt_of_succ_lt_succ h.2.1, by have := h.2.2.1; rw [List.take_succ_cons, List.take_succ_cons] at this; injection this, h.2.2.2⟩]
    rfl
theorem lessB_some : ∀ a b : List Int, lessB a b = true → ∃ d, Parts a b d ∧ a.getD d 0 < b.getD d 0
  | [], _, h => by cases h
  | _ :: _, [], h => by cases h
  | x :: a, y :: b, h => by
    unfold lessB at h
    by_cases h0 : x = y
    · rw [if_pos h0] at h
      subst h0
      obtain ⟨d, h1, h2⟩ := lessB_some a b h
      exact ⟨d + 1, h1.cons x, h2⟩
    · rw [if_neg h0] at h
      exact ⟨0, ⟨Nat.succ_pos _, Nat.succ_pos _, rfl, h0⟩, of_decide_eq_true h⟩
theorem lessB_of {a b : List Int} {d : Nat} (h : Parts a b d) (hl : a.getD d 0 < b.getD d 0) : lessB a b = true := by rw [lessB_parts a b d h]; exact decide_eq_true hl
theorem lessB_irr (a : List Int) : lessB a a = false := by
  cases h : lessB a a with
  | false => rfl
  | true => obtain ⟨d, h1, _⟩ := lessB_some a a h; exact absurd rfl h1.ne
theorem lessB_asymm {a b : List Int} (h : lessB a b = true) : lessB b a = false := by
  obtain ⟨d, h1, h2⟩ := lessB_some a b h
  rw [lessB_parts b a d h1.symm]; exact decide_eq_false (by omega)
theorem lessB_trans {a b c : List Int} (h : lessB a b = true) (k : lessB b c = true) : lessB a c = true := by
  obtain ⟨d, h1, h2⟩ := lessB_some a b h
  obtain ⟨e, k1, k2⟩ := lessB_some b c k
  rcases Nat.lt_trichotomy d e with hl | hl | hl
  · have e1 := getD_of_take k1.2.2.1 hl
    exact lessB_of (d := d) ⟨h1.1, by have := k1.2.1; omega, h1.2.2.1.trans (k1.take_eq (by omega)), by rw [← e1]; exact h1.2.2.2⟩ (by rw [← e1]; exact h2)
  · subst hl
    exact lessB_of (d := d) ⟨h1.1, k1.2.1, h1.2.2.1.trans k1.2.2.1, by omega⟩ (by omega)
  · have e1 := getD_of_take h1.2.2.1 hl
    exact lessB_of (d := e) ⟨by have := h1.1; omega, k1.2.1, (h1.take_eq (by omega)).trans k1.2.2.1, by rw [e1]; exact k1.2.2.2⟩ (by rw [e1]; exact k2)
/-- A rank: 13 bits with a 0 last, or 32 with a 1 at the thirteenth. -/
def RankL (r : List Int) : Prop := (∀ x ∈ r, x = 0 ∨ x = 1) ∧ (r.length = 13 ∧ r.getD 12 0 = 0 ∨ r.length = 32 ∧ r.getD 12 0 = 1)
theorem RankL.len {r : List Int} (h : RankL r) : r.length ≤ 32 := by rcases h.2 with h | h <;> omega
theorem RankL.bit {r : List Int} (h : RankL r) {d : Nat} (hd : d < r.length) : r.getD d 0 = 0 ∨ r.getD d 0 = 1 := by
  apply h.1
  rw [List.getD_eq_getElem?_getD, List.getElem?_eq_getElem hd]
  exact List.getElem_mem hd
theorem RankL.parts {a b : List Int} (ha : RankL a) (hb : RankL b) (hn : a ≠ b) : ∃ d, Parts a b d := by
  have key : ∀ {a b : List Int}, RankL a → RankL b → a = b.take a.length → a = b := by
    intro a b ha hb h
    have h1 : a.length ≤ b.length := by rw [h, List.length_take]; omega
    have h2 : a.getD 12 0 = b.getD 12 0 := by
      rcases ha.2 with g | g
      · exact getD_of_take (d := a.length) (by rw [List.take_length]; exact h) (by omega)
      · exact getD_of_take (d := a.length) (by rw [List.take_length]; exact h) (by omega)
    have h3 : a.length = b.length := by rcases ha.2 with g | g <;> rcases hb.2 with k | k <;> omega
    rw [h3, List.take_length] at h; exact h
  rcases parts_or a b with h | h | h
  · exact h
  · exact absurd (key ha hb h) hn
  · exact absurd (key hb ha h).symm hn
theorem RankL.order {a b : List Int} (ha : RankL a) (hb : RankL b) (hn : a ≠ b) : lessB a b = true ∨ lessB b a = true := by
  obtain ⟨d, h⟩ := ha.parts hb hn
  rcases Int.lt_trichotomy (a.getD d 0) (b.getD d 0) with h1 | h1 | h1
  · exact Or.inl (lessB_of h h1)
  · exact absurd h1 h.2.2.2
  · exact Or.inr (lessB_of h.symm h1)
/-- Of two ranks the lesser one has 0 where both part, the other one 1. -/
theorem RankL.zero_one {a b : List Int} (ha : RankL a) (hb : RankL b) {d : Nat} (h : Parts a b d) (hl : lessB a b = true) : a.getD d 0 = 0 ∧ b.getD d 0 = 1 := by
  rw [lessB_parts a b d h] at hl
  have := of_decide_eq_true hl
  rcases ha.bit h.1 with h1 | h1 <;> rcases hb.bit h.2.1 with h2 | h2 <;> omega
/-- The place of the first of the least, of the first n. -/
def leastB (rs : List (List Int)) : Nat → Int
  | 0 => -1
  | n + 1 => if leastB rs n < 0 ∨ lessB (rs.getD n []) (rs.getD (leastB rs n).toNat []) = true then (n : Int) else leastB rs n
theorem mem_of_getD {rs : List (List Int)} {i : Nat} (h : i < rs.length) : rs.getD i [] ∈ rs := by
  rw [List.getD_eq_getElem?_getD, List.getElem?_eq_getElem h]; exact List.getElem_mem h
theorem leastB_spec (rs : List (List Int)) (hR : ∀ r ∈ rs, RankL r) : ∀ n, n ≤ rs.length → 0 < n → ∃ w : Nat, leastB rs n = (w : Int) ∧ w < n ∧ (∀ i, i < n → rs.getD i [] = rs.getD w [] ∨ lessB (rs.getD w []) (rs.getD i []) = true) ∧ ∀ i, i < w → lessB (rs.getD w []) (rs.getD i []) = true
  | 0, _, h => absurd h (Nat.lt_irrefl 0)
  | 1, hn, _ => by
    have e : leastB rs 1 = 0 := if_pos (Or.inl (show (-1 : Int) < 0 by decide))
    refine ⟨0, e, Nat.zero_lt_one, fun i hi => ?_, fun i hi => absurd hi (Nat.not_lt_zero i)⟩
    obtain rfl : i = 0 := by omega
    exact Or.inl rfl
  | n + 2, hn, _ => by
    obtain ⟨w, h1, h2, h3, h4⟩ := leastB_spec rs hR (n + 1) (by omega) (Nat.succ_pos n)
    unfold leastB
    rw [h1]
    have hw := hR _ (mem_of_getD (show w < rs.length by omega))
    have hn1 := hR _ (mem_of_getD (show n + 1 < rs.length by omega))
    by_cases hc : lessB (rs.getD (n + 1) []) (rs.getD w []) = true
    · rw [if_pos (Or.inr (by rw [Int.toNat_natCast]; exact hc))]
      refine ⟨n + 1, rfl, by omega, fun i hi => ?_, fun i hi => ?_⟩
      · by_cases hi' : i = n + 1
        · rw [hi']; exact Or.inl rfl
        · rcases h3 i (by omega) with h | h
          · rw [h]; exact Or.inr hc
          · exact Or.inr (lessB_trans hc h)
      · rcases h3 i (by omega) with h | h
        · rw [h]; exact hc
        · exact lessB_trans hc h
    · rw [if_neg (fun h => by rcases h with h | h
                              · omega
                              · rw [Int.toNat_natCast] at h; exact hc h)]
      refine ⟨w, rfl, by omega, fun i hi => ?_, h4⟩
      by_cases hi' : i = n + 1
      · rw [hi']
        by_cases he : rs.getD (n + 1) [] = rs.getD w []
        · exact Or.inl he
        · rcases hn1.order hw he with h | h
          · exact absurd h hc
          · exact Or.inr h
      · exact h3 i (by omega)

theorem valB_cons (x : Int) (l : List Int) : valB (x :: l) = x * 2 ^ l.length + valB l := by
  have := valB_append [x] l
  rw [show valB [x] = x by simp [valB]] at this
  exact this
theorem lessB_val : ∀ a b : List Int, a.length = b.length → rightB a = true → rightB b = true → lessB a b = decide (valB a < valB b)
  | [], [], _, _, _ => rfl
  | [], _ :: _, h, _, _ => by cases h
  | _ :: _, [], h, _, _ => by cases h
  | x :: a, y :: b, h, ha, hb => by
    have hl : a.length = b.length := Nat.succ.inj h
    have hx := rightB_mem ha x (by simp)
    have hy := rightB_mem hb y (by simp)
    have ha' : rightB a = true := rightB_of (fun z hz => rightB_mem ha z (List.mem_cons_of_mem _ hz))
    have hb' : rightB b = true := rightB_of (fun z hz => rightB_mem hb z (List.mem_cons_of_mem _ hz))
    have ra := valB_range ha'
    have rb := valB_range hb'
    rw [valB_cons, valB_cons, hl]
    rw [hl] at ra
    unfold lessB
    generalize hP : (2 : Int) ^ b.length = P at ra rb
    by_cases e : x = y
    · rw [if_pos e, lessB_val a b hl ha' hb', e]
      rw [decide_eq_decide]; omega
    · rw [if_neg e, decide_eq_decide]
      rcases hx with rfl | rfl <;> rcases hy with rfl | rfl <;> first | (exact absurd rfl e) | omega
theorem lessB_append : ∀ a b c d : List Int, a.length = b.length → lessB (a ++ c) (b ++ d) = if a = b then lessB c d else lessB a b
  | [], [], c, d, _ => by rw [if_pos rfl]; rfl
  | [], _ :: _, _, _, h => by cases h
  | _ :: _, [], _, _, h => by cases h
  | x :: a, y :: b, c, d, h => by
    have hl : a.length = b.length := Nat.succ.inj h
    show lessB (x :: (a ++ c)) (y :: (b ++ d)) = _
    unfold lessB
    by_cases e : x = y
    · rw [if_pos e, if_pos e, lessB_append a b c d hl]
      subst e
      by_cases f : a = b
      · rw [if_pos f, if_pos (by rw [f])]; exact lessB.eq_def c d
      · rw [if_neg f, if_neg (fun g => by injection g with _ g; exact f g)]
    · rw [if_neg e, if_neg e, if_neg (fun g => by injection g with g _; exact e g)]
theorem bitsOf_inj {n n' : Int} {m : Nat} (h0 : 0 ≤ n) (h1 : n < 2 ^ m) (k0 : 0 ≤ n') (k1 : n' < 2 ^ m) (h : bitsOf n m = bitsOf n' m) : n = n' := by
  rw [← valB_bitsOf m n h0 h1, ← valB_bitsOf m n' k0 k1, h]
theorem lessB_bitsOf {n n' : Int} {m : Nat} (h0 : 0 ≤ n) (h1 : n < 2 ^ m) (k0 : 0 ≤ n') (k1 : n' < 2 ^ m) : lessB (bitsOf n m) (bitsOf n' m) = decide (n < n') := by
  rw [lessB_val _ _ (by rw [bitsOf_length, bitsOf_length]) (bitsOf_right _ _) (bitsOf_right _ _), valB_bitsOf m n h0 h1, valB_bitsOf m n' k0 k1]
theorem and_low (n : Int) (h0 : 0 ≤ n) (h1 : n < 9223372036854775808) (m : Nat) (hm : m ≤ 62) : Go.bits .and .i64 n ((2 ^ m - 1 : Nat) : Int) = n % 2 ^ m := by
  obtain ⟨k, rfl⟩ := Int.eq_ofNat_of_zero_le h0
  have hp : (2 : Nat) ^ m ≤ 2 ^ 62 := Nat.pow_le_pow_right (by decide) hm
  rw [and_i64 k _ (by omega) (by omega), Nat.and_two_pow_sub_one_eq_mod]
  simp
theorem and_15 (x : Int) : Go.bits .and .i64 x 15 = x % 16 := by
  have h1 : (BitVec.ofInt 64 x &&& 15#64).toNat = (BitVec.ofInt 64 x).toNat % 16 := by
    rw [BitVec.toNat_and]; exact Nat.and_two_pow_sub_one_eq_mod _ 4
  have h2 : ((BitVec.ofInt 64 x).toNat : Int) = x % 18446744073709551616 := by
    rw [BitVec.toNat_ofInt]; omega
  show IntKind.i64.wrap (((BitVec.ofInt 64 x &&& BitVec.ofInt 64 15).toNat : Nat) : Int) = _
  rw [show BitVec.ofInt 64 15 = 15#64 from rfl, h1, IntKind.wrap_i64]
  omega
theorem and_2047 (x : Int) : Go.bits .and .i64 x 2047 = x % 2048 := by
  have h1 : (BitVec.ofInt 64 x &&& 2047#64).toNat = (BitVec.ofInt 64 x).toNat % 2048 := by
    rw [BitVec.toNat_and]; exact Nat.and_two_pow_sub_one_eq_mod _ 11
  have h2 : ((BitVec.ofInt 64 x).toNat : Int) = x % 18446744073709551616 := by
    rw [BitVec.toNat_ofInt]; omega
  show IntKind.i64.wrap (((BitVec.ofInt 64 x &&& BitVec.ofInt 64 2047).toNat : Nat) : Int) = _
  rw [show BitVec.ofInt 64 2047 = 2047#64 from rfl, h1, IntKind.wrap_i64]
  omega
theorem and_262143 (x : Int) : Go.bits .and .i64 x 262143 = x % 262144 := by
  have h1 : (BitVec.ofInt 64 x &&& 262143#64).toNat = (BitVec.ofInt 64 x).toNat % 262144 := by
    rw [BitVec.toNat_and]; exact Nat.and_two_pow_sub_one_eq_mod _ 18
  have h2 : ((BitVec.ofInt 64 x).toNat : Int) = x % 18446744073709551616 := by
    rw [BitVec.toNat_ofInt]; omega
  show IntKind.i64.wrap (((BitVec.ofInt 64 x &&& BitVec.ofInt 64 262143).toNat : Nat) : Int) = _
  rw [show BitVec.ofInt 64 262143 = 262143#64 from rfl, h1, IntKind.wrap_i64]
  omega
theorem and_536870911 (x : Int) : Go.bits .and .i64 x 536870911 = x % 536870912 := by
  have h1 : (BitVec.ofInt 64 x &&& 536870911#64).toNat = (BitVec.ofInt 64 x).toNat % 536870912 := by
    rw [BitVec.toNat_and]; exact Nat.and_two_pow_sub_one_eq_mod _ 29
  have h2 : ((BitVec.ofInt 64 x).toNat : Int) = x % 18446744073709551616 := by
    rw [BitVec.toNat_ofInt]; omega
  show IntKind.i64.wrap (((BitVec.ofInt 64 x &&& BitVec.ofInt 64 536870911).toNat : Nat) : Int) = _
  rw [show BitVec.ofInt 64 536870911 = 536870911#64 from rfl, h1, IntKind.wrap_i64]
  omega
def bitI (b : Bool) : Int := if b = true then 1 else 0
/-- A rank, of its parts. -/
def rankF (e : Bool) (id : Int) (rm : Bool) : List Int := if e = true then bitsOf (id / 262144) 11 ++ ([1, 1] ++ (bitsOf (id % 262144) 18 ++ [bitI rm])) else bitsOf id 11 ++ ([bitI rm] ++ [0])
/-- An identifier that may be. -/
def IdOk (e : Bool) (id : Int) : Prop := 0 ≤ id ∧ id < (if e = true then 536870912 else 2048)
theorem rankF_len (e : Bool) (id : Int) (rm : Bool) : (rankF e id rm).length = if e = true then 32 else 13 := by
  unfold rankF
  cases e <;> simp [bitsOf_length]
theorem rankF_RankL (e : Bool) (id : Int) (rm : Bool) : RankL (rankF e id rm) := by
  have hb : ∀ n m, ∀ x ∈ bitsOf n m, x = 0 ∨ x = 1 := fun n m => rightB_mem (bitsOf_right n m)
  have hr : bitI rm = 0 ∨ bitI rm = 1 := by unfold bitI; cases rm <;> simp
  have hl := rankF_len e id rm
  cases e with
  | false =>
    refine ⟨fun x hx => ?_, Or.inl ⟨hl, ?_⟩⟩
    · unfold rankF at hx
      rw [if_neg (by simp), List.mem_append, List.mem_append, List.mem_singleton, List.mem_singleton] at hx
      rcases hx with hx | hx | hx
      · exact hb _ _ x hx
      · rw [hx]; exact hr
      · exact Or.inl hx
    · unfold rankF
      rw [if_neg (by simp), List.getD_eq_getElem?_getD, List.getElem?_append_right (by rw [bitsOf_length]; omega), bitsOf_length]
      rfl
  | true =>
    refine ⟨fun x hx => ?_, Or.inr ⟨hl, ?_⟩⟩
    · unfold rankF at hx
      rw [if_pos rfl, List.mem_append, List.mem_append, List.mem_append, List.mem_singleton] at hx
      rcases hx with hx | hx | hx | hx
      · exact hb _ _ x hx
      · right; simpa using hx
      · exact hb _ _ x hx
      · rw [hx]; exact hr
    · unfold rankF
      rw [if_pos rfl, List.getD_eq_getElem?_getD, List.getElem?_append_right (by rw [bitsOf_length]; omega), bitsOf_length]
      rfl
theorem bitI_inj {a b : Bool} (h : bitI a = bitI b) : a = b := by cases a <;> cases b <;> first | rfl | (simp [bitI] at h)
/-- Which rank is ahead, of two of a kind. -/
theorem rankF_less_same {e : Bool} {id id' : Int} {rm rm' : Bool} (h : IdOk e id) (h' : IdOk e id') : lessB (rankF e id rm) (rankF e id' rm') = if id = id' then lessB [bitI rm] [bitI rm'] else decide (id < id') := by
  obtain ⟨h0, h1⟩ := h
  obtain ⟨k0, k1⟩ := h'
  cases e with
  | false =>
    rw [if_neg (by simp)] at h1 k1
    unfold rankF
    rw [if_neg (by simp), if_neg (by simp), lessB_append _ _ _ _ (by rw [bitsOf_length, bitsOf_length])]
    by_cases hi : id = id'
    · rw [if_pos (by rw [hi]), if_pos hi, lessB_append [bitI rm] [bitI rm'] [0] [0] rfl]
      by_cases hr : [bitI rm] = [bitI rm']
      · rw [if_pos hr, hr, lessB_irr, lessB_irr]
      · rw [if_neg hr]
    · rw [if_neg (fun g => hi (bitsOf_inj h0 h1 k0 k1 g)), if_neg hi, lessB_bitsOf h0 h1 k0 k1]
  | true =>
    rw [if_pos rfl] at h1 k1
    have a0 : 0 ≤ id / 262144 := by omega
    have a1 : id / 262144 < 2 ^ 11 := by omega
    have b0 : 0 ≤ id' / 262144 := by omega
    have b1 : id' / 262144 < 2 ^ 11 := by omega
    have c0 : 0 ≤ id % 262144 := by omega
    have c1 : id % 262144 < 2 ^ 18 := by omega
    have d0 : 0 ≤ id' % 262144 := by omega
    have d1 : id' % 262144 < 2 ^ 18 := by omega
    unfold rankF
    rw [if_pos rfl, if_pos rfl, lessB_append _ _ _ _ (by rw [bitsOf_length, bitsOf_length])]
    by_cases hi : id / 262144 = id' / 262144
    · rw [if_pos (by rw [hi]), lessB_append _ _ _ _ rfl, if_pos rfl, lessB_append _ _ _ _ (by rw [bitsOf_length, bitsOf_length])]
      by_cases hj : id % 262144 = id' % 262144
      · rw [if_pos (by rw [hj]), if_pos (by omega)]
      · rw [if_neg (fun g => hj (bitsOf_inj c0 c1 d0 d1 g)), if_neg (by omega), lessB_bitsOf c0 c1 d0 d1, decide_eq_decide]; omega
    · rw [if_neg (fun g => hi (bitsOf_inj a0 a1 b0 b1 g)), if_neg (by omega), lessB_bitsOf a0 a1 b0 b1, decide_eq_decide]; omega
/-- A rank of eleven bits is ahead of each of twenty-nine that begins with these. -/
theorem rankF_less_kinds {id id' : Int} {rm rm' : Bool} (h : IdOk false id) (h' : IdOk true id') (hp : id = id' / 262144) : lessB (rankF false id rm) (rankF true id' rm') = true := by
  unfold rankF
  rw [if_neg (by simp), if_pos rfl, lessB_append _ _ _ _ (by rw [bitsOf_length, bitsOf_length]), if_pos (by rw [hp])]
  cases rm <;> rfl
theorem rankF_inj {e e' : Bool} {id id' : Int} {rm rm' : Bool} (h : IdOk e id) (h' : IdOk e' id') (hr : rankF e id rm = rankF e' id' rm') : e = e' ∧ id = id' ∧ rm = rm' := by
  have hl := congrArg List.length hr
  rw [rankF_len, rankF_len] at hl
  have he : e = e' := by cases e <;> cases e' <;> first | rfl | (simp at hl)
  subst he
  have h1 := rankF_less_same (rm := rm) (rm' := rm') h h'
  have h2 := rankF_less_same (rm := rm') (rm' := rm) h' h
  rw [hr, lessB_irr] at h1
  rw [hr, lessB_irr] at h2
  have hid : id = id' := by
    by_cases c : id = id'
    · exact c
    · rw [if_neg c] at h1; rw [if_neg (fun g => c g.symm)] at h2
      have := of_decide_eq_false h1.symm
      have := of_decide_eq_false h2.symm
      omega
  rw [if_pos hid] at h1
  rw [if_pos hid.symm] at h2
  exact ⟨rfl, hid, by cases rm <;> cases rm' <;> first | rfl | (simp [bitI, lessB] at h1 h2)⟩
end Go.Proofs.Ytechlakahpkdpaa.H

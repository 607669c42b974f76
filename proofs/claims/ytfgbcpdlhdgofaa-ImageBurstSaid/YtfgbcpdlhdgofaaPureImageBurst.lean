/- Bytes that are packed, of which up to four, one behind the other, are others, are no image; where they are tells which error it is. -/
import Derived.Test.YtfgbcpdlhdgofaaPx9
import Derived.Test.YtfgbcpdlhdgofaaPureHead24
import Derived.Test.YtfgbcpdlhdgofaaPureBurst
set_option linter.unusedVariables false
set_option linter.unusedSimpArgs false
namespace Go.Proofs.Ytfgbcpdlhdgofaa.Pure
open Go.RowKit Go.Proofs.Ytfgbcpdlhdgofaa.PB Go.Proofs.Ytfgbcpdlhdgofaa.Px Go.Proofs.YtfgbcpdlhdgofaaW.PrintWords Go.Proofs.YtfgbcpdlhdgofaaW.PrintLast Go.Proofs.YtfgbcpdlhdgofaaW.PrintMore
theorem pick_U8 {a b c d : Int} (ha : H.U8 a) (hb : H.U8 b) (hc : H.U8 c) (hd : H.U8 d) (i : Int) : H.U8 (HW.pick4 a b c d i) := by
  unfold HW.pick4
  split
  · exact ha
  split
  · exact hb
  split
  · exact hc
  · exact hd
/-- Four bytes from a place on. -/
def seg (l : List Int) (a : Nat) : List Int := (l.take (a + 4)).drop a
theorem seg_U8 {l : List Int} (h : ∀ x ∈ l, H.U8 x) (a : Nat) : ∀ x ∈ seg l a, H.U8 x := drop_U8 (take_U8 h _) _
theorem seg_num {l m : List Int} (hl : ∀ x ∈ l, H.U8 x) (hm : ∀ x ∈ m, H.U8 x) {a : Nat} (h1 : a + 4 ≤ l.length) (h2 : a + 4 ≤ m.length) : num l a = num m a ↔ seg l a = seg m a := by
  unfold seg
  rw [num_cut l a h1, num_cut m a h2]
  have a0 := getD_U8 hl a; have a1 := getD_U8 hl (a + 1); have a2 := getD_U8 hl (a + 2); have a3 := getD_U8 hl (a + 3)
  have b0 := getD_U8 hm a; have b1 := getD_U8 hm (a + 1); have b2 := getD_U8 hm (a + 2); have b3 := getD_U8 hm (a + 3)
  unfold H.U8 at a0 a1 a2 a3 b0 b1 b2 b3
  unfold num
  constructor
  · intro h
    have e0 : l.getD a 0 = m.getD a 0 := by omega
    have e1 : l.getD (a + 1) 0 = m.getD (a + 1) 0 := by omega
    have e2 : l.getD (a + 2) 0 = m.getD (a + 2) 0 := by omega
    have e3 : l.getD (a + 3) 0 = m.getD (a + 3) 0 := by omega
    rw [e0, e1, e2, e3]
  · intro h
    simp only [List.cons.injEq] at h
    rw [h.1, h.2.1, h.2.2.1, h.2.2.2.1]
theorem take14 (l : List Int) : l.take 14 = l.take 2 ++ (seg l 2 ++ (seg l 6 ++ seg l 10)) := by
  unfold seg
  have e : ∀ a b : Nat, a ≤ b → l.take b = l.take a ++ (l.take b).drop a := fun a b h => by
    conv => lhs; rw [← List.take_append_drop a (l.take b), List.take_take, Nat.min_eq_left h]
  rw [← List.append_assoc, ← List.append_assoc, ← e 2 (2 + 4) (by omega), ← e (2 + 4) (6 + 4) (by omega), ← e (6 + 4) (10 + 4) (by omega)]
theorem take18 (l : List Int) : l = l.take 14 ++ (seg l 14 ++ l.drop 18) := by
  unfold seg
  conv => lhs; rw [← List.take_append_drop 18 l, ← List.take_append_drop 14 (l.take 18), List.take_take]
  rw [List.append_assoc]; rfl
theorem seg_of_take {l m : List Int} {n : Nat} (h : l.take n = m.take n) {a : Nat} (ha : a + 4 ≤ n) : seg l a = seg m a := by
  unfold seg
  have e : ∀ x : List Int, x.take (a + 4) = (x.take n).take (a + 4) := fun x => by rw [List.take_take, Nat.min_eq_left ha]
  rw [e l, e m, h]
theorem seg_of_drop {l m : List Int} {n : Nat} (h : l.drop n = m.drop n) {a : Nat} (ha : n ≤ a) : seg l a = seg m a := by
  unfold seg
  have e : ∀ x : List Int, (x.take (a + 4)).drop a = ((x.drop n).drop (a - n)).take 4 := fun x => by rw [List.drop_drop, List.drop_take, show n + (a - n) = a by omega, show a + 4 - a = 4 by omega]
  rw [e l, e m, h]
theorem drop_of {l m : List Int} {n p : Nat} (h : l.drop n = m.drop n) (hp : n ≤ p) : l.drop p = m.drop p := by
  have e : ∀ x : List Int, x.drop p = (x.drop n).drop (p - n) := fun x => by rw [List.drop_drop, show n + (p - n) = p by omega]
  rw [e l, e m, h]
theorem take_of {l m : List Int} {n p : Nat} (h : l.take n = m.take n) (hp : p ≤ n) : l.take p = m.take p := by
  have e : ∀ x : List Int, x.take p = (x.take n).take p := fun x => by rw [List.take_take, Nat.min_eq_left hp]
  rw [e l, e m, h]
section
variable {C P : List Int} {k : Nat}
theorem win_body (hw : Win k C P) (h : C.drop 18 ≠ P.drop 18) : C.take 14 = P.take 14 := by
  by_cases hk : k + 4 ≤ 18
  · exact absurd (drop_of hw.2.2 hk) h
  · exact take_of hw.2.1 (by omega)
theorem win_drop (hw : Win k C P) : Win (k - 18) (C.drop 18) (P.drop 18) := by
  refine ⟨by rw [List.length_drop, List.length_drop, hw.1], ?_, ?_⟩
  · by_cases hk : 18 ≤ k
    · have e : ∀ x : List Int, (x.drop 18).take (k - 18) = (x.take k).drop 18 := fun x => by rw [List.drop_take]
      rw [e, e, hw.2.1]
    · rw [show k - 18 = 0 by omega, List.take_zero, List.take_zero]
  · rw [List.drop_drop, List.drop_drop]; exact drop_of hw.2.2 (by omega)
theorem win_front (hw : Win k C P) (hk : k + 4 ≤ 14) (hd : C.drop 18 = P.drop 18) (h14 : 14 ≤ C.length) : Win k (C.take 14 ++ C.drop 18) (P.take 14 ++ P.drop 18) := by
  have hl := hw.1
  refine ⟨by simp only [List.length_append, List.length_take, List.length_drop]; omega, ?_, ?_⟩
  · rw [List.take_append_of_le_length (by rw [List.length_take]; omega), List.take_append_of_le_length (by rw [List.length_take]; omega), List.take_take, List.take_take, Nat.min_eq_left (by omega)]; exact hw.2.1
  · rw [List.drop_append_of_le_length (by rw [List.length_take]; omega), List.drop_append_of_le_length (by rw [List.length_take]; omega), List.drop_take, List.drop_take, hw.2.2, hd]
end
/-- What is known of bytes that are packed. -/
structure Packed (P : List Int) (B : List Int) (key : Int) : Prop where
  u : ∀ x ∈ P, H.U8 x
  len : P.length = 18 + B.length
  two : P.take 2 = [80, 72]
  rt : rightB' (num P 2) B = true
  n6 : num P 6 = (B.length : Int)
  n10 : num P 10 = wv B
  n14 : num P 14 = sealV (P.take 14 ++ B) key
  body : P.drop 18 = B
  may : mayB key = true
theorem right_of {n m : Int} {B D : List Int} (h : rightB' n B = true) (hl : D.length = B.length) (h0 : 0 ≤ m) : rightB' m D = decide (m ≤ 2147483647) := by
  obtain ⟨h1, h2, h3, h4⟩ := right_parts h
  unfold rightB'
  by_cases hm : m ≤ 2147483647
  · rw [decide_eq_true hm, decide_eq_true ⟨h0, hm, by omega, by omega⟩]
  · rw [decide_eq_false hm, decide_eq_false (fun h => hm h.2.1)]
theorem num_high {l : List Int} (hl : ∀ x ∈ l, H.U8 x) : num l 2 ≤ 2147483647 ↔ ¬ l.getD 2 0 > 127 := by
  have a0 := getD_U8 hl 2; have a1 := getD_U8 hl (2 + 1); have a2 := getD_U8 hl (2 + 2); have a3 := getD_U8 hl (2 + 3)
  unfold H.U8 at a0 a1 a2 a3
  unfold num
  constructor <;> intro h <;> omega
section
variable {C P B : List Int} {key : Int} {k : Nat}
theorem err_marks (hp : Packed P B key) (hw : Win k C P) (hC : ∀ x ∈ C, H.U8 x) (h : ¬ (C.take 2 = P.take 2 ∧ seg C 6 = seg P 6)) : (readT C key).2.2 = 240 := by
  have hl := hw.1; have hpl := hp.len
  have : C.length < 18 ∨ C.take 2 ≠ [80, 72] ∨ rightB' (num C 2) (C.drop 18) = false ∨ num C 6 ≠ ((C.drop 18).length : Int) := by
    by_cases h2 : C.take 2 = P.take 2
    · refine .inr (.inr (.inr fun h6 => h ⟨h2, ?_⟩))
      refine (seg_num hC hp.u (by omega) (by omega)).mp ?_
      rw [h6, hp.n6, List.length_drop]; omega
    · exact .inr (.inl (by rw [← hp.two]; exact h2))
  unfold readT; rw [if_pos this]
theorem err_img (hp : Packed P B key) (hw : Win k C P) (hC : ∀ x ∈ C, H.U8 x) (h2 : C.take 2 = P.take 2) (h6 : seg C 6 = seg P 6) :
    (C.length < 18 ∨ C.take 2 ≠ [80, 72] ∨ rightB' (num C 2) (C.drop 18) = false ∨ num C 6 ≠ ((C.drop 18).length : Int)) ↔ C.getD 2 0 > 127 := by
  have hl := hw.1; have hpl := hp.len
  have hdl : (C.drop 18).length = B.length := by rw [List.length_drop]; omega
  have e6 : num C 6 = ((C.drop 18).length : Int) := by rw [(seg_num hC hp.u (by omega) (by omega)).mpr h6, hp.n6, hdl]
  rw [right_of hp.rt hdl (num_range hC 2).1]
  have hh := num_high hC
  constructor
  · rintro (h | h | h | h)
    · omega
    · exact absurd (h2.trans hp.two) h
    · exact Classical.not_not.mp (fun hn => of_decide_eq_false h (hh.mpr hn))
    · exact absurd e6 h
  · intro h
    exact .inr (.inr (.inl (decide_eq_false (fun hn => hh.mp hn h))))
theorem sum_body (hp : Packed P B key) (hw : Win k C P) (hC : ∀ x ∈ C, H.U8 x) (hd : C.drop 18 ≠ P.drop 18) : num C 10 ≠ wv (C.drop 18) := fun h => by
  have hl := hw.1; have hpl := hp.len
  have e10 : num C 10 = num P 10 := (seg_num hC hp.u (by omega) (by omega)).mpr (seg_of_take (win_body hw hd) (by omega))
  rw [e10, hp.n10, ← hp.body] at h
  exact hd (wv_win (win_drop hw) (drop_U8 hC _) (drop_U8 hp.u _) h.symm)
theorem err_some (hp : Packed P B key) (hw : Win k C P) (hC : ∀ x ∈ C, H.U8 x) (hne : C ≠ P) : (readT C key).2.2 ≠ 0 := fun h => by
  have hl := hw.1; have hpl := hp.len
  unfold readT at h
  split at h
  · cases h
  rename_i c1
  split at h
  · cases h
  rename_i c2
  split at h
  · cases h
  rename_i c3
  have t2 : C.take 2 = P.take 2 := by rw [hp.two]; exact Classical.not_not.mp fun h => c1 (.inr (.inl h))
  have n6 : num C 6 = ((C.drop 18).length : Int) := Classical.not_not.mp fun h => c1 (.inr (.inr (.inr h)))
  have n10 : num C 10 = wv (C.drop 18) := Classical.not_not.mp c2
  have n14 : num C 14 = sealV (C.take 14 ++ C.drop 18) key := Classical.not_not.mp fun h => c3 (.inr h)
  by_cases hd : C.drop 18 = P.drop 18
  · have s6 : seg C 6 = seg P 6 := (seg_num hC hp.u (by omega) (by omega)).mp (by rw [n6, hp.n6, hd, hp.body])
    have s10 : seg C 10 = seg P 10 := (seg_num hC hp.u (by omega) (by omega)).mp (by rw [n10, hp.n10, hd, hp.body])
    by_cases s2 : seg C 2 = seg P 2
    · have t14 : C.take 14 = P.take 14 := by rw [take14, take14, t2, s2, s6, s10]
      have s14 : seg C 14 = seg P 14 := (seg_num hC hp.u (by omega) (by omega)).mp (by rw [n14, hp.n14, t14, hd, hp.body])
      exact hne (by rw [take18 C, take18 P, t14, s14, hd])
    · have hk : k < 6 := Classical.byContradiction fun hn => s2 (seg_of_take hw.2.1 (by omega))
      have s14 : seg C 14 = seg P 14 := seg_of_drop hw.2.2 (by omega)
      have e14 := (seg_num hC hp.u (a := 14) (by omega) (by omega)).mpr s14
      rw [n14, hp.n14, ← hp.body] at e14
      have := seal_win (win_front hw (by omega) hd (by omega)) (U8_app (take_U8 hC _) (drop_U8 hC _)) (U8_app (take_U8 hp.u _) (drop_U8 hp.u _)) e14
      have t14 := (List.append_inj this (by rw [List.length_take, List.length_take]; omega)).1
      exact s2 (seg_of_take t14 (by omega))
  · exact sum_body hp hw hC hd n10
theorem err_none_img (hp : Packed P B key) (hw : Win k C P) (hC : ∀ x ∈ C, H.U8 x) (hne : C ≠ P) (h2 : C.take 2 = P.take 2) (h6 : seg C 6 = seg P 6) (hh : ¬ C.getD 2 0 > 127) :
    (readT C key).2.2 = if num C 10 = wv (C.drop 18) then 242 else 241 := by
  have h0 := err_some hp hw hC hne
  have c1 := fun h => hh ((err_img hp hw hC h2 h6).mp h)
  unfold readT at h0 ⊢
  rw [if_neg c1] at h0 ⊢
  by_cases h10 : num C 10 = wv (C.drop 18)
  · rw [if_neg (fun h => h h10)] at h0 ⊢
    rw [if_pos h10]
    split at h0
    · rename_i c3; rw [if_pos c3]
    · exact absurd rfl h0
  · rw [if_pos h10, if_neg h10]
theorem err_high (hp : Packed P B key) (hw : Win k C P) (hC : ∀ x ∈ C, H.U8 x) (h2 : C.take 2 = P.take 2) (h6 : seg C 6 = seg P 6) (hh : C.getD 2 0 > 127) : (readT C key).2.2 = 240 := by
  unfold readT; rw [if_pos ((err_img hp hw hC h2 h6).mpr hh)]
end
theorem readT_empty {l : List Int} {key : Int} (h : (readT l key).2.2 ≠ 0) : (readT l key).2.1 = [] := by
  unfold readT at h ⊢
  split
  · rfl
  split
  · rfl
  split
  · rfl
  · rename_i c1 c2 c3; rw [if_neg c1, if_neg c2, if_neg c3] at h; exact absurd rfl h
theorem str_beq {a b : List Int} (ha : ∀ x ∈ a, H.U8 x) (hb : ∀ x ∈ b, H.U8 x) : ((strOfNums a).toList == (strOfNums b).toList) = decide (a = b) := by
  by_cases h : a = b
  · rw [h]; simp
  · rw [decide_eq_false h]; exact beq_eq_false_iff_ne.mpr fun e => h (strNums_inj _ _ ha hb e)
theorem burst_j5 {C : List Int} {e : Int} {fr bd a5 : Bool} (h3 : 2 < C.length) (hA : a5 = true → ((e == 240) == decide (C.getD 2 0 > 127)) = true ∧ (e = 240 ∨ e = 242)) (hF : a5 = false → fr = true → bd = true → e = 242) (hE : a5 = false → (fr = true → bd = true → False) → e = 241 ∨ (C.getD 2 0 > 127 ∧ e = 240)) (k : Nat) :
    phaetonlaw24_ImageBurst.j5 (k + 1) true C e fr bd a5 = some true := by
  have hr2 : rd C 2 = C.getD 2 0 := by simp [rd]
  rw [phaetonlaw24_ImageBurst.j5.eq_2, hr2]
  have last : a5 = false → (fr = true → bd = true → False) → (if e = 241 then (if true = true then (some true) else (none)) else (if 2 < (C.length : Int) then (if C.getD 2 0 > 127 then (if e = 240 then (if true = true then (some true) else (none)) else (none)) else (none)) else (none))) = some true := fun h0 h => by
    rcases hE h0 h with h | ⟨h, h'⟩
    · rw [if_pos h, if_pos rfl]
    · rw [if_neg (by rw [h']; decide), if_pos (by omega), if_pos h, if_pos h', if_pos rfl]
  cases a5 with
  | true =>
    obtain ⟨h1, h2⟩ := hA rfl
    rw [if_pos rfl, if_pos (by omega), if_pos h1]
    rcases h2 with h | h
    · rw [if_pos h, if_pos rfl]
    · rw [if_neg (by rw [h]; decide), if_pos h, if_pos rfl]
  | false =>
    rw [if_neg (by decide)]
    cases fr with
    | false => rw [if_neg (by decide)]; exact last rfl (fun h => Bool.noConfusion h)
    | true =>
      rw [if_pos rfl]
      cases bd with
      | false => rw [if_neg (by decide)]; exact last rfl (fun _ h => Bool.noConfusion h)
      | true => rw [if_pos rfl, if_pos (hF rfl rfl rfl), if_pos rfl]
theorem burst_j3 {C P B : List Int} {key : Int} {k : Nat} (hp : Packed P B key) (hw : Win k C P) (hC : ∀ x ∈ C, H.U8 x) (hne : C ≠ P) (hB : 1 ≤ B.length) (f : Nat) :
    phaetonlaw24_ImageBurst.j3 (f + 3) true P C (readT C key).2.2 false = some true := by
  have hl := hw.1; have hpl := hp.len
  have cU : ∀ a b, ∀ x ∈ (C.take a).drop b, H.U8 x := fun a b => drop_U8 (take_U8 hC _) _
  have pU : ∀ a b, ∀ x ∈ (P.take a).drop b, H.U8 x := fun a b => drop_U8 (take_U8 hp.u _) _
  have hP127 : ¬ P.getD 2 0 > 127 := (num_high hp.u).mp (right_parts hp.rt).2.1
  rw [phaetonlaw24_ImageBurst.j3.eq_2, if_neg (by decide), if_pos (by omega), Option.bind_some, if_pos (by omega), Option.bind_some, if_pos (by omega), if_pos (by omega), str_beq (take_U8 hC _) (take_U8 hp.u _)]
  have j4 : ∀ m : Bool, (m = true ↔ (C.take 2 = P.take 2 ∧ seg C 6 = seg P 6)) → phaetonlaw24_ImageBurst.j4 (f + 2) true P C (readT C key).2.2 (decide (C.take 14 = P.take 14)) m = some true := fun m hm => by
    rw [phaetonlaw24_ImageBurst.j4.eq_2, if_pos (by omega), Option.bind_some, if_pos (by omega), Option.bind_some, str_beq (drop_U8 hC _) (drop_U8 hp.u _)]
    cases m with
    | false =>
      rw [if_neg (by decide), if_pos (err_marks hp hw hC (fun h => Bool.noConfusion (hm.mpr h))), if_pos rfl]
    | true =>
      obtain ⟨t2, s6⟩ := hm.mp rfl
      have hi := err_high hp hw hC t2 s6
      have hn := err_none_img hp hw hC hne t2 s6
      have hfin : ∀ a5 : Bool, (a5 = true → seg C 2 ≠ seg P 2 ∧ seg C 10 = seg P 10 ∧ C.drop 18 = P.drop 18) → (a5 = false → ¬ (seg C 2 ≠ seg P 2 ∧ seg C 10 = seg P 10 ∧ C.drop 18 = P.drop 18)) →
          phaetonlaw24_ImageBurst.j5 (f + 1) true C (readT C key).2.2 (decide (C.take 14 = P.take 14)) (decide (C.drop 18 = P.drop 18)) a5 = some true := fun a5 h1 h0 => by
        have ten : seg C 10 = seg P 10 → C.drop 18 = P.drop 18 → num C 10 = wv (C.drop 18) := fun s d => by
          rw [(seg_num hC hp.u (by omega) (by omega)).mpr s, hp.n10, d, hp.body]
        refine burst_j5 (by omega) (fun h => ?_) (fun h ht hd => ?_) (fun h hnt => ?_) f
        · obtain ⟨s2, s10, d⟩ := h1 h
          by_cases hh : C.getD 2 0 > 127
          · rw [hi hh, decide_eq_true hh]; exact ⟨rfl, .inl rfl⟩
          · rw [hn hh, if_pos (ten s10 d), decide_eq_false hh]; exact ⟨rfl, .inr rfl⟩
        · have ht := of_decide_eq_true ht
          have hd := of_decide_eq_true hd
          have hh : ¬ C.getD 2 0 > 127 := by
            have e : C.getD 2 0 = P.getD 2 0 := by
              have h2 : ∀ x : List Int, x.getD 2 0 = (x.take 14).getD 2 0 := fun x => by rw [List.getD_eq_getElem?_getD, List.getD_eq_getElem?_getD, List.getElem?_take, if_pos (by decide)]
              rw [h2 C, h2 P, ht]
            rw [e]; exact hP127
          rw [hn hh, if_pos (ten (seg_of_take ht (by omega)) hd)]
        · by_cases hh : C.getD 2 0 > 127
          · exact .inr ⟨hh, hi hh⟩
          · refine .inl ?_
            rw [hn hh, if_neg]
            intro h10
            by_cases hd : C.drop 18 = P.drop 18
            · have s10 : seg C 10 = seg P 10 := (seg_num hC hp.u (by omega) (by omega)).mp (by rw [h10, hp.n10, hd, hp.body])
              have s2 : seg C 2 = seg P 2 := Classical.byContradiction fun hn2 => h0 h ⟨hn2, s10, hd⟩
              exact hnt (decide_eq_true (by rw [take14, take14, t2, s2, s6, s10])) (decide_eq_true hd)
            · exact sum_body hp hw hC hd h10
      rw [if_pos rfl, if_pos (by decide), if_pos (by omega), if_pos (by omega)]
      by_cases s2 : seg C 2 = seg P 2
      · rw [if_pos (show (strOfNums ((C.take 6).drop 2)).toList = (strOfNums ((P.take 6).drop 2)).toList from congrArg (fun z => (strOfNums z).toList) s2)]
        exact hfin false (fun h => Bool.noConfusion h) (fun _ h => h.1 s2)
      · rw [if_neg (show ¬ (strOfNums ((C.take 6).drop 2)).toList = (strOfNums ((P.take 6).drop 2)).toList from fun h => s2 (strNums_inj _ _ (seg_U8 hC 2) (seg_U8 hp.u 2) h)), if_pos (by decide), if_pos (by omega), if_pos (by omega)]
        by_cases s10 : seg C 10 = seg P 10
        · rw [if_pos (show (strOfNums ((C.take 14).drop 10)).toList = (strOfNums ((P.take 14).drop 10)).toList from congrArg (fun z => (strOfNums z).toList) s10)]
          exact hfin _ (fun h => ⟨s2, s10, of_decide_eq_true h⟩) (fun h h' => of_decide_eq_false h h'.2.2)
        · rw [if_neg (show ¬ (strOfNums ((C.take 14).drop 10)).toList = (strOfNums ((P.take 14).drop 10)).toList from fun h => s10 (strNums_inj _ _ (seg_U8 hC 10) (seg_U8 hp.u 10) h))]
          exact hfin false (fun h => Bool.noConfusion h) (fun _ h => s10 h.2.1)
  by_cases t2 : C.take 2 = P.take 2
  · rw [if_pos (by rw [t2]), if_pos (by decide), if_pos (by omega), if_pos (by omega), str_beq (cU 10 6) (pU 10 6)]
    exact j4 _ ⟨fun h => ⟨t2, of_decide_eq_true h⟩, fun h => decide_eq_true h.2⟩
  · rw [if_neg (fun h => t2 (strNums_inj _ _ (take_U8 hC 2) (take_U8 hp.u 2) h))]
    exact j4 false ⟨fun h => Bool.noConfusion h, fun h => absurd h.1 t2⟩
theorem burst_j2 {C P B : List Int} {key v : Int} {k : Nat} (hp : Packed P B key) (hw : Win k C P) (hC : ∀ x ∈ C, H.U8 x) (hP : readT P key = (v, B, 0)) (hB : 1 ≤ B.length) (hn : P.length ≤ 10000) :
    ∃ K, ∀ f, K ≤ f → phaetonlaw24_ImageBurst.j2 f key true P C v B = some true := by
  have hl := hw.1
  obtain ⟨K, hK⟩ := read_k C key hC (by omega)
  refine ⟨K + 4, fun f hf => ?_⟩
  obtain ⟨f, rfl⟩ : ∃ m, f = m + 4 := ⟨f - 4, by omega⟩
  rw [show f + 4 = (f + 3) + 1 from rfl, phaetonlaw24_ImageBurst.j2.eq_2, hK _ (by omega), Option.bind_some]
  by_cases he : C = P
  · rw [if_pos (by rw [he]), he, hP, if_pos rfl]
    dsimp only
    rw [rsame, Option.bind_some, if_pos rfl, if_pos rfl]
  · have h0 := err_some hp hw hC he
    rw [if_neg (fun h => he (strNums_inj _ _ hC hp.u h)), if_neg h0, readT_empty h0, show (decide ((([] : List Int).length : Int) > 0)) = false from rfl]
    exact burst_j3 hp hw hC he hB f
theorem burst_l0 {P B : List Int} {key v : Int} (hp : Packed P B key) (hP : readT P key = (v, B, 0)) (hB : 1 ≤ B.length) (hn : P.length ≤ 10000) {at_ : Nat} (ha : at_ < P.length) {x1 x2 x3 x4 : Int} (h1 : H.U8 x1) (h2 : H.U8 x2) (h3 : H.U8 x3) (h4 : H.U8 x4) (x0 : Int) :
    ∀ d i : Nat, i + d = 4 → Ev (fun k => phaetonlaw24_ImageBurst.l0 k key true P (turnL P at_ (HW.pick4 x1 x2 x3 x4) i) (at_ : Int) (i : Int) v B x0 x1 x2 x3 x4) true := by
  have stop : ∀ i, i ≤ 4 → turnL P at_ (HW.pick4 x1 x2 x3 x4) i = turnL P at_ (HW.pick4 x1 x2 x3 x4) 4 → (¬ ((i : Int) < 4) ∨ ¬ (wrap64 ((at_ : Int) + (i : Int)) < (P.length : Int))) → Ev (fun k => phaetonlaw24_ImageBurst.l0 k key true P (turnL P at_ (HW.pick4 x1 x2 x3 x4) i) (at_ : Int) (i : Int) v B x0 x1 x2 x3 x4) true := fun i hi4 ht hn2 => by
    have hL := turnL_length P at_ (HW.pick4 x1 x2 x3 x4) 4
    rw [ht]
    obtain ⟨K, hK⟩ := burst_j2 hp (turn_win P at_ (HW.pick4 x1 x2 x3 x4)) (turnL_U8 hp.u at_ (pick_U8 h1 h2 h3 h4) 4) hP hB hn
    refine ⟨K + 1, fun k hk => ?_⟩
    obtain ⟨k, rfl⟩ : ∃ m, k = m + 1 := ⟨k - 1, by omega⟩
    show phaetonlaw24_ImageBurst.l0 (k + 1) _ _ _ _ _ _ _ _ _ _ _ _ _ = _
    rw [phaetonlaw24_ImageBurst.l0.eq_2]
    by_cases hi : (i : Int) < 4
    · rw [if_pos hi, if_neg (by rw [hL]; exact hn2.resolve_left (fun h => h hi))]; exact hK k (by omega)
    · rw [if_neg hi]; exact hK k (by omega)
  intro d
  induction d with
  | zero =>
    intro i hi
    obtain rfl : i = 4 := by omega
    exact stop 4 (Nat.le_refl _) rfl (Or.inl (by omega))
  | succ d ih =>
    intro i hi
    have e1 : wrap64 ((at_ : Int) + (i : Int)) = ((at_ + i : Nat) : Int) := by unfold wrap64; omega
    have e2 : wrap64 ((i : Int) + 1) = ((i + 1 : Nat) : Int) := by unfold wrap64; omega
    have hL := turnL_length P at_ (HW.pick4 x1 x2 x3 x4) i
    by_cases hlt : at_ + i < P.length
    · refine Ev.step (fun k => ?_) (ih (i + 1) (by omega))
      rw [phaetonlaw24_ImageBurst.l0.eq_2, if_pos (by omega), e1, if_pos (by omega), if_pos (by omega), rd_nat, Int.toNat_natCast, e2]
      conv => rhs; unfold turnL
      rw [if_pos hlt]
    · exact stop i (by omega) (turnL_stop (by omega) (by omega)).symm (Or.inr (by omega))
theorem ImageBurst : phaetonlaw24_ImageBurst.Pure := by
  intro a0 b key n x1 x2 x3 x4 h0 hbm hbw hk hn h1 h2 h3 h4
  have hb' : ∀ x ∈ b, H.U8 x := fun x hx => H.of_wf8 (hbw x hx)
  have hB := cutB_U8 hb'
  have hBl := cutB_length b
  obtain ⟨K0, hh⟩ := head24_k
  obtain ⟨K1, k1⟩ := pack_k a0 (cutB b) key (by omega)
  obtain ⟨u0, u1⟩ := H.of_wfu16 hn
  obtain ⟨n, rfl⟩ := Int.eq_ofNat_of_zero_le u0
  by_cases hc : rightB' a0 (cutB b) = true ∧ mayB key = true
  · obtain ⟨v0, v1, b0, b1⟩ := right_parts hc.1
    have ep : packT a0 (cutB b) key = (packL a0 (cutB b) key, true) := if_pos hc
    have hl := packL_length a0 (cutB b) key
    have hrd := read_pack a0 (cutB b) key hc.1 hc.2
    have hp : Packed (packL a0 (cutB b) key) (cutB b) key := ⟨packL_U8 a0 (cutB b) key hB, hl, pack_two _ _ _, by rw [pack_num2 _ _ _ v0 v1]; exact hc.1, pack_num6 _ _ _ (by omega), pack_num10 _ _ _, by rw [pack_num14, pack_take], pack_drop _ _ _, hc.2⟩
    obtain ⟨P, hPe⟩ : ∃ P, P = packL a0 (cutB b) key := ⟨_, rfl⟩
    rw [← hPe] at ep hl hrd hp
    have e3 : Int.tmod (wrap64 (n : Int)) (P.length : Int) = ((n % P.length : Nat) : Int) := by
      rw [show wrap64 (n : Int) = (n : Int) by unfold wrap64; omega, Int.tmod_eq_emod_of_nonneg (by omega)]; rfl
    obtain ⟨K3, k3⟩ := burst_l0 hp hrd b0 (by omega) (Nat.mod_lt n (show P.length > 0 by omega)) (H.of_wf8 h1) (H.of_wf8 h2) (H.of_wf8 h3) (H.of_wf8 h4) (n : Int) 4 0 (by omega)
    refine ⟨K0 + K1 + K3 + 1, ?_⟩
    unfold phaetonlaw24_ImageBurst.f
    rw [hh _ (by omega), Option.bind_some, cut_eq a0 b hbm, Option.bind_some]
    dsimp only
    rw [k1 _ (by omega), ep, Option.bind_some, if_pos rfl]
    dsimp only
    rw [show decide ((P.length : Int) < 19) = false from decide_eq_false (by omega), phaetonlaw24_ImageBurst.j0.eq_2, if_neg (by decide), Option.bind_some, if_pos (by simp only [List.length_nil]; omega), Option.bind_some, List.nil_append, if_neg (by omega), e3]
    exact k3 _ (by omega)
  · have ep : packT a0 (cutB b) key = ([], false) := if_neg hc
    refine ⟨K0 + K1 + 1, ?_⟩
    unfold phaetonlaw24_ImageBurst.f
    rw [hh _ (by omega), Option.bind_some, cut_eq a0 b hbm, Option.bind_some]
    dsimp only
    rw [k1 _ (by omega), ep, Option.bind_some, if_neg (by decide)]
    dsimp only
    rw [phaetonlaw24_ImageBurst.j0.eq_2, if_pos rfl, if_neg (by decide), if_pos (show (([] : List Int).length : Int) = 0 from rfl), if_pos rfl]
end Go.Proofs.Ytfgbcpdlhdgofaa.Pure

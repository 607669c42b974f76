/- What a race of ranks comes to: who has the least rank is in, each other one is lost where it parts from it, the line had it. -/
import Derived.Test.YtechlakahpkdpaaPx2
import Derived.Test.YtechlakahpkdpaaHandOrder
set_option linter.unusedVariables false
set_option linter.unusedSimpArgs false
namespace Go.Proofs.Ytechlakahpkdpaa.PB
open Go.RowKit Go.Proofs.Ytechlakahpkdpaa.H Go.Proofs.Ytechlakahpkdpaa.Px Go.Proofs.YtechlakahpkdpaaW.PrintWords Go.Proofs.YtechlakahpkdpaaW.PrintLast Go.Proofs.YtechlakahpkdpaaW.PrintMore
theorem arb_outs_at (rs : List (List Int)) (ins : List Bool) (ls : List Int) (at_ : Nat) (line : Int) (hl : ls.length = ins.length) : ∀ j i : Nat, j ≤ ins.length → i < ins.length →
    (arb_outs rs ins ls at_ line j).1.getD i false = (if i < j ∧ (arb_bitB rs ins i at_).2 = true ∧ line < (arb_bitB rs ins i at_).1 then false else ins.getD i false) ∧
    (arb_outs rs ins ls at_ line j).2.getD i 0 = (if i < j ∧ (arb_bitB rs ins i at_).2 = true ∧ line < (arb_bitB rs ins i at_).1 then (at_ : Int) else ls.getD i 0)
  | 0, i, _, _ => by
    unfold arb_outs
    exact ⟨by rw [if_neg (fun h => Nat.not_lt_zero i h.1)], by rw [if_neg (fun h => Nat.not_lt_zero i h.1)]⟩
  | j + 1, i, hj, hi => by
    have hlen := arb_outs_len rs ins ls at_ line j
    have ih := arb_outs_at rs ins ls at_ line hl j i (by omega) hi
    have ihj := arb_outs_at rs ins ls at_ line hl j j (by omega) (by omega)
    have hb : arb_bitB rs (arb_outs rs ins ls at_ line j).1 j at_ = arb_bitB rs ins j at_ := by
      have hjv : (arb_outs rs ins ls at_ line j).1.getD j false = ins.getD j false := by rw [ihj.1]; exact if_neg (fun h => Nat.lt_irrefl j h.1)
      unfold arb_bitB
      rw [hjv]
    unfold arb_outs
    rw [hb]
    by_cases hc : (arb_bitB rs ins j at_).2 = true ∧ line < (arb_bitB rs ins j at_).1
    · rw [if_pos hc]
      by_cases hij : i = j
      · subst hij
        rw [if_pos ⟨Nat.lt_succ_self _, hc⟩, if_pos ⟨Nat.lt_succ_self _, hc⟩]
        constructor
        · show ((arb_outs rs ins ls at_ line i).1.set i false).getD i false = false
          rw [List.getD_eq_getElem?_getD, List.getElem?_set_self (by omega)]; rfl
        · show ((arb_outs rs ins ls at_ line i).2.set i (at_ : Int)).getD i 0 = (at_ : Int)
          rw [List.getD_eq_getElem?_getD, List.getElem?_set_self (by omega)]; rfl
      · have e1 : ((arb_outs rs ins ls at_ line j).1.set j false).getD i false = (arb_outs rs ins ls at_ line j).1.getD i false := by
          rw [List.getD_eq_getElem?_getD, List.getD_eq_getElem?_getD, List.getElem?_set_ne (by omega)]
        have e2 : ((arb_outs rs ins ls at_ line j).2.set j (at_ : Int)).getD i 0 = (arb_outs rs ins ls at_ line j).2.getD i 0 := by
          rw [List.getD_eq_getElem?_getD, List.getD_eq_getElem?_getD, List.getElem?_set_ne (by omega)]
        show ((arb_outs rs ins ls at_ line j).1.set j false).getD i false = _ ∧ ((arb_outs rs ins ls at_ line j).2.set j (at_ : Int)).getD i 0 = _
        rw [e1, e2, ih.1, ih.2]
        have : (i < j + 1 ↔ i < j) := by omega
        simp only [this]; exact ⟨trivial, trivial⟩
    · rw [if_neg hc, ih.1, ih.2]
      by_cases hij : i = j
      · subst hij
        have n1 : ¬ (i < i ∧ (arb_bitB rs ins i at_).2 = true ∧ line < (arb_bitB rs ins i at_).1) := fun h => Nat.lt_irrefl i h.1
        have n2 : ¬ (i < i + 1 ∧ (arb_bitB rs ins i at_).2 = true ∧ line < (arb_bitB rs ins i at_).1) := fun h => hc h.2
        rw [if_neg n1, if_neg n1, if_neg n2, if_neg n2]
        exact ⟨rfl, rfl⟩
      · have : (i < j + 1 ↔ i < j) := by omega
        simp only [this]; exact ⟨trivial, trivial⟩
theorem arb_and_le (l : List Int) : ∀ a : Int, l.foldl (fun a b => mn a b) a ≤ a ∧ ∀ x ∈ l, l.foldl (fun a b => mn a b) a ≤ x := by
  induction l with
  | nil => intro a; exact ⟨Int.le_refl _, fun x hx => by cases hx⟩
  | cons b l ih =>
    intro a
    obtain ⟨h1, h2⟩ := ih (mn a b)
    have h3 : mn a b ≤ a ∧ mn a b ≤ b := by unfold mn; split <;> omega
    refine ⟨Int.le_trans h1 h3.1, fun x hx => ?_⟩
    rcases List.mem_cons.mp hx with rfl | hx
    · exact Int.le_trans h1 h3.2
    · exact h2 x hx
theorem arb_and_ge (l : List Int) (m : Int) (h : ∀ x ∈ l, m ≤ x) : ∀ a : Int, m ≤ a → m ≤ l.foldl (fun a b => mn a b) a := by
  induction l with
  | nil => intro a ha; exact ha
  | cons b l ih =>
    intro a ha
    have hb := h b (by simp)
    refine ih (fun x hx => h x (List.mem_cons_of_mem _ hx)) (mn a b) ?_
    unfold mn; split <;> omega
/-- The least of what is there, if that is at most 1. -/
theorem arb_and_eq {l : List Int} {m : Int} (h1 : m ≤ 1) (hm : m ∈ l) (h : ∀ x ∈ l, m ≤ x) : arb_and l = m := by
  have a := (arb_and_le l 1).2 m hm
  have b := arb_and_ge l m h 1 h1
  unfold arb_and; omega
theorem arb_bits_mem (rs : List (List Int)) (ins : List Bool) (at_ : Nat) (x : Int) : ∀ j, x ∈ arb_bits rs ins at_ j ↔ ∃ i, i < j ∧ (arb_bitB rs ins i at_).2 = true ∧ (arb_bitB rs ins i at_).1 = x
  | 0 => ⟨fun h => absurd h List.not_mem_nil, fun ⟨i, h, _⟩ => absurd h (Nat.not_lt_zero i)⟩
  | j + 1 => by
    have ih := arb_bits_mem rs ins at_ x j
    unfold arb_bits
    split
    · rename_i hc
      rw [List.mem_append, List.mem_singleton, ih]
      constructor
      · rintro (⟨i, h1, h2⟩ | h)
        · exact ⟨i, by omega, h2⟩
        · exact ⟨j, Nat.lt_succ_self _, hc, h.symm⟩
      · rintro ⟨i, h1, h2, h3⟩
        by_cases hij : i = j
        · subst hij; exact Or.inr h3.symm
        · exact Or.inl ⟨i, by omega, h2, h3⟩
    · rename_i hc
      rw [ih]
      constructor
      · rintro ⟨i, h1, h2⟩; exact ⟨i, by omega, h2⟩
      · rintro ⟨i, h1, h2, h3⟩
        by_cases hij : i = j
        · subst hij; exact absurd h2 hc
        · exact ⟨i, by omega, h2, h3⟩
/-- Where a rank is lost to the least one, behind so many places. -/
def lostAt (m : List Int) (k : Nat) (r : List Int) : Int := if r.take k = m.take k then -1 else whereB r m 0
theorem ext_getD {α : Type} {a b : List α} (d : α) (hl : a.length = b.length) (h : ∀ i, i < a.length → a.getD i d = b.getD i d) : a = b := by
  apply List.ext_getElem? ; intro i
  by_cases hi : i < a.length
  · have := h i hi
    rw [List.getD_eq_getElem?_getD, List.getD_eq_getElem?_getD, List.getElem?_eq_getElem hi, List.getElem?_eq_getElem (by omega)] at this
    rw [List.getElem?_eq_getElem hi, List.getElem?_eq_getElem (by omega)]; exact congrArg some this
  · rw [List.getElem?_eq_none (by omega), List.getElem?_eq_none (by omega)]
theorem getD_map' {α β : Type} (f : α → β) (d : α) (e : β) (l : List α) {i : Nat} (hi : i < l.length) : (l.map f).getD i e = f (l.getD i d) := by
  rw [List.getD_eq_getElem?_getD, List.getD_eq_getElem?_getD, List.getElem?_map, List.getElem?_eq_getElem hi]; rfl
theorem take_succ_of {r m : List Int} {k : Nat} (hkl : k < r.length) (hk : k < m.length) (h1 : r.take k = m.take k) (h2 : r.getD k 0 = m.getD k 0) : r.take (k + 1) = m.take (k + 1) := by
  rw [List.take_add_one, List.take_add_one, h1, List.getElem?_eq_getElem hkl, List.getElem?_eq_getElem hk]
  rw [List.getD_eq_getElem?_getD, List.getD_eq_getElem?_getD, List.getElem?_eq_getElem hkl, List.getElem?_eq_getElem hk] at h2
  rw [show r[k] = m[k] from h2]
theorem runs_least (rs : List (List Int)) (hR : ∀ r ∈ rs, RankL r) (w : Nat) (hw : w < rs.length) (m : List Int) (hm : rs.getD w [] = m) (hle : ∀ i, i < rs.length → rs.getD i [] = m ∨ lessB m (rs.getD i []) = true) :
    ∀ k, arb_runs rs k = (rs.map (fun r => decide (r.take k = m.take k)), rs.map (lostAt m k), m.take k)
  | 0 => by
    unfold arb_runs
    have h1 : rs.map (fun r => decide (r.take 0 = m.take 0)) = List.replicate rs.length true := by
      rw [List.eq_replicate_iff]; exact ⟨List.length_map _, fun b hb => by obtain ⟨r, _, rfl⟩ := List.mem_map.mp hb; rfl⟩
    have h2 : rs.map (lostAt m 0) = List.replicate rs.length (-1) := by
      rw [List.eq_replicate_iff]; exact ⟨List.length_map _, fun b hb => by obtain ⟨r, _, rfl⟩ := List.mem_map.mp hb; rfl⟩
    rw [h1, h2]; rfl
  | k + 1 => by
    have ih := runs_least rs hR w hw m hm hle k
    have hmR : RankL m := hm ▸ hR _ (mem_of_getD hw)
    unfold arb_runs
    rw [ih]
    have hilen : (rs.map (fun r => decide (r.take k = m.take k))).length = rs.length := List.length_map _
    have hin : ∀ i, i < rs.length → (rs.map (fun r => decide (r.take k = m.take k))).getD i false = decide ((rs.getD i []).take k = m.take k) := fun i hi => getD_map' _ [] false rs hi
    have hls : ∀ i, i < rs.length → (rs.map (lostAt m k)).getD i 0 = lostAt m k (rs.getD i []) := fun i hi => getD_map' _ [] 0 rs hi
    by_cases hk : k < m.length
    · -- the line's bit is the least one's
      have hbit : ∀ i, i < rs.length → (rs.getD i []).take k = m.take k → m.getD k 0 ≤ (rs.getD i []).getD k 0 ∧ k < (rs.getD i []).length := fun i hi ht => by
        rcases hle i hi with h | h
        · rw [h]; exact ⟨Int.le_refl _, hk⟩
        · obtain ⟨d, h1, h2⟩ := lessB_some _ _ h
          have hkd : k ≤ d := by
            rcases Nat.lt_or_ge d k with hl | hl
            · exact absurd ht.symm (h1.take_ne hl)
            · exact hl
          refine ⟨?_, by have := h1.2.1; omega⟩
          rcases Nat.lt_or_eq_of_le hkd with hl | hl
          · exact Int.le_of_eq (getD_of_take h1.2.2.1 hl)
          · subst hl; omega
      have hB : ∀ i, i < rs.length → (rs.getD i []).take k = m.take k → arb_bitB rs (rs.map (fun r => decide (r.take k = m.take k))) i k = ((rs.getD i []).getD k 0, true) := fun i hi ht => by
        unfold arb_bitB; rw [if_pos ⟨by rw [hin i hi]; exact decide_eq_true ht, (hbit i hi ht).2⟩]
      have hB' : ∀ i, i < rs.length → ¬ (rs.getD i []).take k = m.take k → arb_bitB rs (rs.map (fun r => decide (r.take k = m.take k))) i k = (1, false) := fun i hi ht => by
        unfold arb_bitB; rw [if_neg (fun h => by rw [hin i hi] at h; exact ht (of_decide_eq_true h.1))]
      have hmem : m.getD k 0 ∈ arb_bits rs (rs.map (fun r => decide (r.take k = m.take k))) k rs.length := by
        rw [arb_bits_mem]
        exact ⟨w, hw, by rw [hB w hw (by rw [hm])], by rw [hB w hw (by rw [hm]), hm]⟩
      have hline : arb_and (arb_bits rs (rs.map (fun r => decide (r.take k = m.take k))) k rs.length) = m.getD k 0 := by
        refine arb_and_eq (by rcases hmR.bit hk with h | h <;> omega) hmem (fun x hx => ?_)
        rw [arb_bits_mem] at hx
        obtain ⟨i, hi, h1, h2⟩ := hx
        by_cases ht : (rs.getD i []).take k = m.take k
        · rw [hB i hi ht] at h2
          have h3 : (rs.getD i []).getD k 0 = x := h2
          rw [← h3]; exact (hbit i hi ht).1
        · rw [hB' i hi ht] at h1; cases h1
      unfold arb_stepB
      rw [hilen, if_neg (fun h => by rw [List.length_eq_zero_iff] at h; rw [h] at hmem; cases hmem), hline]
      have hso : ∀ i, i < rs.length → ((rs.getD i []).take (k + 1) = m.take (k + 1) ↔ (rs.getD i []).take k = m.take k ∧ (rs.getD i []).getD k 0 = m.getD k 0) := fun i hi => by
        constructor
        · intro h; exact ⟨take_of_take h (by omega), getD_of_take h (by omega)⟩
        · rintro ⟨h1, h2⟩
          exact take_succ_of (hbit i hi h1).2 hk h1 h2
      have hol := arb_outs_len rs (rs.map (fun r => decide (r.take k = m.take k))) (rs.map (lostAt m k)) k (m.getD k 0) rs.length
      have hoa := fun i hi => arb_outs_at rs (rs.map (fun r => decide (r.take k = m.take k))) (rs.map (lostAt m k)) k (m.getD k 0) (by rw [List.length_map, List.length_map]) rs.length i (by rw [hilen]; exact Nat.le_refl _) (by rw [hilen]; exact hi)
      have hlast : m.take k ++ [m.getD k 0] = m.take (k + 1) := by
        rw [List.take_add_one, List.getD_eq_getElem?_getD, List.getElem?_eq_getElem hk]; rfl
      show (_, _, _) = (_, _, _)
      rw [hlast]
      congr 1
      · refine ext_getD false (by rw [hol.1, hilen, List.length_map]) (fun i hi => ?_)
        rw [hol.1, hilen] at hi
        rw [(hoa i hi).1, hin i hi, getD_map' _ [] false rs hi]
        by_cases ht : (rs.getD i []).take k = m.take k
        · rw [hB i hi ht]
          by_cases hx : (rs.getD i []).getD k 0 = m.getD k 0
          · rw [if_neg (fun h => by have := h.2.2; simp only at this; omega), decide_eq_true ht, decide_eq_true ((hso i hi).2 ⟨ht, hx⟩)]
          · rw [if_pos ⟨hi, rfl, by have := (hbit i hi ht).1; simp only; omega⟩, decide_eq_false (fun h => hx ((hso i hi).1 h).2)]
        · rw [hB' i hi ht, if_neg (fun h => by cases h.2.1), decide_eq_false ht, decide_eq_false (fun h => ht ((hso i hi).1 h).1)]
      · congr 1
        refine ext_getD 0 (by rw [hol.2, List.length_map, List.length_map]) (fun i hi => ?_)
        rw [hol.2, List.length_map] at hi
        rw [(hoa i hi).2, hls i hi, getD_map' _ [] 0 rs hi]
        unfold lostAt
        by_cases ht : (rs.getD i []).take k = m.take k
        · rw [hB i hi ht]
          by_cases hx : (rs.getD i []).getD k 0 = m.getD k 0
          · rw [if_neg (fun h => by have := h.2.2; simp only at this; omega), if_pos ht, if_pos ((hso i hi).2 ⟨ht, hx⟩)]
          · rw [if_pos ⟨hi, rfl, by have := (hbit i hi ht).1; simp only; omega⟩, if_neg (fun h => hx ((hso i hi).1 h).2)]
            have hp : Parts (rs.getD i []) m k := ⟨(hbit i hi ht).2, hk, ht, hx⟩
            rw [whereB_parts _ _ _ _ hp, Nat.zero_add]
        · rw [hB' i hi ht, if_neg (fun h => by cases h.2.1), if_neg ht, if_neg (fun h => ht ((hso i hi).1 h).1)]
    · -- all that are in have ended
      have hmk : m.take k = m := List.take_of_length_le (by omega)
      have hmk1 : m.take (k + 1) = m := List.take_of_length_le (by omega)
      have hend : ∀ i, i < rs.length → ((rs.getD i []).take k = m ↔ rs.getD i [] = m) := fun i hi => by
        constructor
        · intro h
          rcases hle i hi with h1 | h1
          · exact h1
          · obtain ⟨d, h2, h3⟩ := lessB_some _ _ h1
            exact absurd (h.trans hmk.symm).symm (h2.take_ne (by have := h2.1; omega))
        · intro h; rw [h]; exact hmk
      have hend1 : ∀ i, i < rs.length → ((rs.getD i []).take (k + 1) = m ↔ rs.getD i [] = m) := fun i hi => by
        constructor
        · intro h
          rcases hle i hi with h1 | h1
          · exact h1
          · obtain ⟨d, h2, h3⟩ := lessB_some _ _ h1
            exact absurd (h.trans hmk1.symm).symm (h2.take_ne (by have := h2.1; omega))
        · intro h; rw [h]; exact hmk1
      have hst : (arb_stepB rs (rs.map (fun r => decide (r.take k = m.take k))) (rs.map (lostAt m k)) (m.take k) k).1 = false := by
        rw [arb_stepB_1]
        intro i hi
        rw [hilen] at hi
        cases hb : (arb_bitB rs (rs.map (fun r => decide (r.take k = m.take k))) i k).2 with
        | false => rfl
        | true =>
          obtain ⟨h1, h2⟩ := (arb_bitB_2 _ _ _ _).1 hb
          rw [hin i hi, hmk] at h1
          rw [(hend i hi).1 (of_decide_eq_true h1)] at h2
          omega
      rw [arb_stepB_same _ _ _ _ _ hst, hmk, hmk1]
      have e1 : rs.map (fun r => decide (r.take k = m)) = rs.map (fun r => decide (r.take (k + 1) = m)) := by
        refine ext_getD false (by rw [List.length_map, List.length_map]) (fun i hi => ?_)
        rw [List.length_map] at hi
        rw [getD_map' _ [] false rs hi, getD_map' _ [] false rs hi]
        rw [decide_eq_decide, hend i hi, hend1 i hi]
      have e2 : rs.map (lostAt m k) = rs.map (lostAt m (k + 1)) := by
        refine ext_getD 0 (by rw [List.length_map, List.length_map]) (fun i hi => ?_)
        rw [List.length_map] at hi
        rw [getD_map' _ [] 0 rs hi, getD_map' _ [] 0 rs hi]
        unfold lostAt
        rw [hmk, hmk1]
        by_cases h : rs.getD i [] = m
        · rw [if_pos ((hend i hi).2 h), if_pos ((hend1 i hi).2 h)]
        · rw [if_neg (fun h1 => h ((hend i hi).1 h1)), if_neg (fun h1 => h ((hend1 i hi).1 h1))]
      rw [e1, e2]
/-- A race at its end: who has the least rank is in, the others were lost where they part from it, the line had it. -/
theorem runs_end (rs : List (List Int)) (hR : ∀ r ∈ rs, RankL r) (w : Nat) (hw : w < rs.length) (m : List Int) (hm : rs.getD w [] = m) (hle : ∀ i, i < rs.length → rs.getD i [] = m ∨ lessB m (rs.getD i []) = true) :
    arb_runs rs 128 = (rs.map (fun r => decide (r = m)), rs.map (fun r => if r = m then -1 else whereB r m 0), m) := by
  rw [runs_least rs hR w hw m hm hle 128]
  have hmR : RankL m := hm ▸ hR _ (mem_of_getD hw)
  have t : ∀ r, RankL r → r.take 128 = r := fun r hr => List.take_of_length_le (by have := hr.len; omega)
  rw [t m hmR]
  congr 1
  · apply List.map_congr_left; intro r hr; rw [t r (hR r hr)]
  · congr 1
    apply List.map_congr_left; intro r hr; unfold lostAt; rw [t r (hR r hr), t m hmR]
theorem arb_winB_first : ∀ (l : List Bool) (j w : Nat), w < l.length → l.getD w false = true → (∀ i, i < w → l.getD i false = false) → arb_winB l j = ((j + w : Nat) : Int)
  | [], _, w, h, _, _ => absurd h (Nat.not_lt_zero w)
  | b :: t, j, 0, _, h, _ => by
    have hb : b = true := h
    unfold arb_winB; rw [if_pos hb]; rfl
  | b :: t, j, w + 1, h, h1, h2 => by
    have hb : b = false := h2 0 (Nat.succ_pos w)
    unfold arb_winB
    rw [if_neg (by rw [hb]; simp), arb_winB_first t (j + 1) w (Nat.lt_of_succ_lt_succ h) h1 (fun i hi => h2 (i + 1) (Nat.succ_lt_succ hi))]
    congr 1; omega
theorem race_win (rs : List (List Int)) (hR : ∀ r ∈ rs, RankL r) : arb_winB (arb_runs rs 128).1 0 = leastB rs rs.length := by
  cases rs with
  | nil =>
    have : ∀ k, arb_runs ([] : List (List Int)) k = ([], [], []) := fun k => by
      induction k with
      | zero => rfl
      | succ k ih => unfold arb_runs; rw [ih]; rfl
    rw [this]; rfl
  | cons r0 rs0 =>
    obtain ⟨w, h1, h2, h3, h4⟩ := leastB_spec (r0 :: rs0) hR (r0 :: rs0).length (Nat.le_refl _) (Nat.succ_pos _)
    rw [h1, runs_end _ hR w h2 _ rfl h3]
    have := arb_winB_first ((r0 :: rs0).map (fun r => decide (r = (r0 :: rs0).getD w []))) 0 w (by rw [List.length_map]; exact h2) (by rw [getD_map' _ [] false _ h2]; exact decide_eq_true rfl) (fun i hi => by
      rw [getD_map' _ [] false _ (by omega)]
      refine decide_eq_false (fun e => ?_)
      have := h4 i hi
      rw [e, lessB_irr] at this; cases this)
    rw [this, Nat.zero_add]
end Go.Proofs.Ytechlakahpkdpaa.PB

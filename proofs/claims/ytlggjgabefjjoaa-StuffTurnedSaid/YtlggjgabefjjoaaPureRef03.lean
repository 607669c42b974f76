/- What package stuff, and the document's answer to layer 3, come to: the same plain words. -/
import Derived.Test.YtlggjgabefjjoaaPureBase
import Derived.Test.YtlggjgabefjjoaaHandStuffTell
import Derived.Test.YtlggjgabefjjoaaPx1
import Derived.Test.YtlggjgabefjjoaaPx2
set_option linter.unusedVariables false
set_option linter.unusedSimpArgs false
namespace Go.Proofs.Ytlggjgabefjjoaa.PB
open Go.RowKit Go.Proofs.Ytlggjgabefjjoaa.Px Go.Proofs.YtlggjgabefjjoaaW.PrintWords Go.Proofs.YtlggjgabefjjoaaW.PrintLast Go.Proofs.YtlggjgabefjjoaaW.PrintMore

theorem stuffStrip_eq (l : List Int) (h : l.length ≤ 1099511627776) : stuff_Strip.f l = some (H.stripB l) := if_pos h
theorem stuffStuff_eq (l : List Int) (h : l.length ≤ 1099511627776) : stuff_Stuff.f l = some (H.stuffB l) := if_pos h
theorem stuffRuns_eq (l : List Int) : stuff_Runs.f l = some (H.runsB l) := rfl
/-- The bits of any numbers. -/
def bits03 (l : List Int) : List Int := (l.take 300).map (· % 2)
theorem bits03_bit (l : List Int) : ∀ x ∈ bits03 l, H.Bit x := fun x hx => by
  obtain ⟨y, _, rfl⟩ := List.mem_map.mp hx
  unfold H.Bit; omega
theorem bits03_len (l : List Int) : (bits03 l).length ≤ 300 := by unfold bits03; rw [List.length_map, List.length_take]; omega
theorem bits03_l0 (l : List Int) : ∀ d i : Nat, i + d = (bits03 l).length → Ev (fun k => phaetonref03_Bits.l0 k l 300 ((bits03 l).take i) (i : Int)) (bits03 l) := by
  have hlen := bits03_len l
  have hle : (bits03 l).length = min 300 l.length := by unfold bits03; rw [List.length_map, List.length_take]
  intro d
  induction d with
  | zero =>
    intro i hi
    refine Ev.step (f := fun _ => some (bits03 l)) (fun k => ?_) (Ev.now _)
    rw [phaetonref03_Bits.l0.eq_2, List.take_of_length_le (by omega)]
    by_cases c : (i : Int) < (l.length : Int)
    · rw [if_pos c, if_neg (by omega)]
    · rw [if_neg c]
  | succ d ih =>
    intro i hi
    have hlt : i < l.length := by omega
    have hg : (bits03 l).getD i 0 = l.getD i 0 % 2 := by
      unfold bits03
      rw [List.getD_eq_getElem?_getD, List.getD_eq_getElem?_getD, List.getElem?_map, List.getElem?_take_of_lt (by omega), List.getElem?_eq_getElem hlt]; rfl
    refine Ev.step (f := fun k => phaetonref03_Bits.l0 k l 300 ((bits03 l).take (i + 1)) ((i + 1 : Nat) : Int)) (fun k => ?_) (ih (i + 1) (by omega))
    rw [phaetonref03_Bits.l0.eq_2, if_pos (by omega), if_pos (by omega), if_pos (by omega), if_pos (by rw [List.length_take]; omega), rd_nat, H.and_one, H.take_snoc 0 _ i (by omega), hg, H.wrap_succ (n := 300) (by omega) (by omega)]
theorem bits03_k (l : List Int) : ∃ K, ∀ k, K ≤ k → phaetonref03_Bits.f k l 300 = some (bits03 l) := by
  have := bits03_l0 l (bits03 l).length 0 (by omega)
  rw [List.take_zero] at this
  exact this

/-! ### Ints -/
theorem ints_l0 (l : List Int) (hl : l.length ≤ 4611686018427387904) : ∀ d i : Nat, i + d = l.length → Ev (fun k => phaetonref03_Ints.l0 k l l (i : Int)) true := by
  intro d
  induction d with
  | zero =>
    intro i hi
    refine Ev.step (f := fun _ => some true) (fun k => ?_) (Ev.now _)
    rw [phaetonref03_Ints.l0.eq_2, if_neg (by omega)]
  | succ d ih =>
    intro i hi
    refine Ev.step (f := fun k => phaetonref03_Ints.l0 k l l ((i + 1 : Nat) : Int)) (fun k => ?_) (ih (i + 1) (by omega))
    rw [phaetonref03_Ints.l0.eq_2, if_pos (by omega), if_pos (by omega), if_pos (by omega), if_pos rfl, H.wrap_succ (n := l.length) (by omega) hl]
theorem ints_k (l : List Int) (hl : l.length ≤ 4611686018427387904) : ∃ K, ∀ k, K ≤ k → phaetonref03_Ints.f k l l = some true := by
  obtain ⟨K, hK⟩ := ints_l0 l hl l.length 0 (by omega)
  refine ⟨K, fun k hk => ?_⟩
  unfold phaetonref03_Ints.f
  rw [if_pos rfl]
  exact hK k hk
/-- Rows that are unlike are told so. -/
theorem ints_ne_l0 (l m : List Int) (hlm : l.length = m.length) (hl : l.length ≤ 4611686018427387904) : ∀ d i : Nat, i + d = l.length → l.drop i ≠ m.drop i → Ev (fun k => phaetonref03_Ints.l0 k l m (i : Int)) false := by
  intro d
  induction d with
  | zero =>
    intro i hi hne
    rw [List.drop_eq_nil_of_le (by omega), List.drop_eq_nil_of_le (by omega)] at hne
    exact absurd rfl hne
  | succ d ih =>
    intro i hi hne
    have hlt : i < l.length := by omega
    by_cases c : l.getD i 0 = m.getD i 0
    · have hne2 : l.drop (i + 1) ≠ m.drop (i + 1) := fun e => hne (by rw [rd_drop hlt, rd_drop (show i < m.length by omega), c, e])
      refine Ev.step (f := fun k => phaetonref03_Ints.l0 k l m ((i + 1 : Nat) : Int)) (fun k => ?_) (ih (i + 1) (by omega) hne2)
      rw [phaetonref03_Ints.l0.eq_2, if_pos (by omega), if_pos (by omega), if_pos (by omega), rd_nat, rd_nat, if_pos c, H.wrap_succ hlt hl]
    · refine Ev.step (f := fun _ => some false) (fun k => ?_) (Ev.now _)
      rw [phaetonref03_Ints.l0.eq_2, if_pos (by omega), if_pos (by omega), if_pos (by omega), rd_nat, rd_nat, if_neg c]
theorem ints_ne_k {l m : List Int} (h : l ≠ m) (hl : l.length ≤ 4611686018427387904) : ∃ K, ∀ k, K ≤ k → phaetonref03_Ints.f k l m = some false := by
  by_cases c : l.length = m.length
  · obtain ⟨K, hK⟩ := ints_ne_l0 l m c hl l.length 0 (by omega) (by simpa using h)
    refine ⟨K, fun k hk => ?_⟩
    unfold phaetonref03_Ints.f
    rw [if_pos (by omega)]
    exact hK k hk
  · refine ⟨0, fun k _ => ?_⟩
    unfold phaetonref03_Ints.f
    rw [if_neg (by omega)]

/-! ### five, Stuff, Strip, Runs -/
theorem five_l0 (l : List Int) (hl : l.length ≤ 1099511627776) (h0 : l ≠ []) : ∀ d i : Nat, i + d = l.length → Ev (fun k => phaetonref03_five.l0 k l (l.length : Int) (i : Int)) ((l.drop i).all (· == (H.tellS l).1)) := by
  have hlast := H.tellS_last l h0
  have hpos : 0 < l.length := List.length_pos_iff.mpr h0
  have e1 : wrap64 ((l.length : Int) - 1) = ((l.length - 1 : Nat) : Int) := by unfold wrap64; omega
  intro d
  induction d with
  | zero =>
    intro i hi
    refine Ev.step (f := fun _ => some true) (fun k => ?_) (by rw [List.drop_eq_nil_of_le (by omega)]; exact Ev.now _)
    rw [phaetonref03_five.l0.eq_2, if_neg (by omega)]
  | succ d ih =>
    intro i hi
    have hlt : i < l.length := by omega
    rw [rd_drop hlt, List.all_cons]
    by_cases c : l.getD i 0 = (H.tellS l).1
    · refine Ev.step (f := fun k => phaetonref03_five.l0 k l (l.length : Int) ((i + 1 : Nat) : Int)) (fun k => ?_) (by rw [c, beq_self_eq_true, Bool.true_and]; exact ih (i + 1) (by omega))
      rw [phaetonref03_five.l0.eq_2, if_pos (by omega), if_pos (by omega), if_pos (by omega), e1, if_pos (by omega), if_pos (by omega), rd_nat, rd_nat, hlast, if_pos c, H.wrap_succ hlt (by omega)]
    · refine Ev.step (f := fun _ => some false) (fun k => ?_) (by rw [beq_eq_false_iff_ne.mpr c, Bool.false_and]; exact Ev.now _)
      rw [phaetonref03_five.l0.eq_2, if_pos (by omega), if_pos (by omega), if_pos (by omega), e1, if_pos (by omega), if_pos (by omega), rd_nat, rd_nat, hlast, if_neg c]
theorem five_k (l : List Int) (hb : ∀ x ∈ l, H.Bit x) (hl : l.length ≤ 1099511627776) : ∃ K, ∀ k, K ≤ k → phaetonref03_five.f k l = some (decide (5 ≤ (H.tellS l).2)) := by
  obtain ⟨i1, i2⟩ := H.tellS_St l hb hl
  by_cases c : l.length < 5
  · refine ⟨0, fun k _ => ?_⟩
    unfold phaetonref03_five.f
    rw [if_pos (by omega), decide_eq_false (by omega)]
  · obtain ⟨K, hK⟩ := five_l0 l hl (fun e => by rw [e] at c; simp at c) 5 (l.length - 5) (by omega)
    rw [H.tell_ge l hb hl 5 (by omega) (by omega)] at hK
    refine ⟨K, fun k hk => ?_⟩
    have e1 : wrap64 ((l.length : Int) - 5) = ((l.length - 5 : Nat) : Int) := by unfold wrap64; omega
    unfold phaetonref03_five.f
    rw [if_neg (by omega), e1]
    exact hK k hk
theorem rstuff_l0 (l : List Int) (hb : ∀ x ∈ l, H.Bit x) (hl : l.length ≤ 1099511627) : ∀ d i : Nat, i + d = l.length → Ev (fun k => phaetonref03_Stuff.l0 k l (H.stuffS (l.take i)).1 (i : Int)) (H.stuffB l) := by
  intro d
  induction d with
  | zero =>
    intro i hi
    refine Ev.step (f := fun _ => some (H.stuffB l)) (fun k => ?_) (Ev.now _)
    rw [phaetonref03_Stuff.l0.eq_2, if_neg (by omega), List.take_of_length_le (by omega)]; rfl
  | succ d ih =>
    intro i hi
    have hlt : i < l.length := by omega
    have hbt : ∀ x ∈ l.take i, H.Bit x := fun x hx => hb x (List.mem_of_mem_take hx)
    have hbi := hb _ (rd_mem hlt)
    obtain ⟨o1, o2⟩ := H.stuffS_ok hbt
    have hlen := H.stuffS_len (l.take i)
    rw [List.length_take] at hlen
    have hsn : H.stuffS (l.take (i + 1)) = H.stuffStep (H.stuffS (l.take i)) (l.getD i 0) := by rw [H.take_snoc 0 l i hlt, H.stuffS_snoc]
    have hst := H.stuff_state (l.take i)
    obtain ⟨K, hK⟩ := five_k ((H.stuffS (l.take i)).1 ++ [l.getD i 0]) (fun x hx => by rcases List.mem_append.mp hx with hx | hx; exact o2 x hx; rw [List.mem_singleton.mp hx]; exact hbi) (by rw [List.length_append, List.length_singleton]; omega)
    rw [H.tellS_snoc, ← hst] at hK
    obtain ⟨K2, hK2⟩ := ih (i + 1) (by omega)
    have hr := H.run_le o1.1 o1.le (l.getD i 0)
    refine ⟨K + K2 + 1, fun k hk => ?_⟩
    obtain ⟨k, rfl⟩ : ∃ m, k = m + 1 := ⟨k - 1, by omega⟩
    show phaetonref03_Stuff.l0 (k + 1) l (H.stuffS (l.take i)).1 (i : Int) = _
    rw [phaetonref03_Stuff.l0.eq_2, if_pos (by omega), if_pos (by omega), if_pos (by omega), rd_nat, Option.bind_some, hK _ (by omega), Option.bind_some]
    have h2 := hK2 k (by omega)
    rw [hsn] at h2
    unfold H.stuffStep at h2
    by_cases c : (H.runS (H.stuffS (l.take i)).2 (l.getD i 0)).2 = 5
    · rw [if_pos c] at h2
      rw [decide_eq_true (by omega), if_pos rfl, if_pos (by rw [List.length_append, List.length_singleton]; omega), H.wrap_succ hlt (by omega)]
      exact h2
    · rw [if_neg c] at h2
      have := o1.2
      rw [decide_eq_false (by omega), if_neg (by decide), H.wrap_succ hlt (by omega)]
      exact h2
theorem rstuff_k (l : List Int) (hb : ∀ x ∈ l, H.Bit x) (hl : l.length ≤ 1099511627) : ∃ K, ∀ k, K ≤ k → phaetonref03_Stuff.f k l = some (H.stuffB l) := rstuff_l0 l hb hl l.length 0 (by omega)
theorem rstrip_l0 (l : List Int) (hb : ∀ x ∈ l, H.Bit x) (hl : l.length ≤ 1099511627) (r : List Int × Int) : ∀ d i : Nat, i + d = l.length → ∀ (out row : List Int), out.length ≤ i → row.length ≤ i → (∀ x ∈ row, H.Bit x) → (H.tellS row).2 ≤ 5 → H.stripGo (l.drop i) i out (H.tellS row) = r → Ev (fun k => phaetonref03_Strip.l0 k l out row (i : Int)) r := by
  intro d
  induction d with
  | zero =>
    intro i hi out row h1 h2 h3 h4 he
    obtain ⟨K, hK⟩ := five_k row h3 (by omega)
    refine ⟨K + 1, fun k hk => ?_⟩
    obtain ⟨k, rfl⟩ : ∃ m, k = m + 1 := ⟨k - 1, by omega⟩
    rw [List.drop_eq_nil_of_le (by omega), H.stripGo] at he
    show phaetonref03_Strip.l0 (k + 1) l out row (i : Int) = _
    rw [phaetonref03_Strip.l0.eq_2, if_neg (by omega), hK _ (by omega), Option.bind_some, ← he]
    by_cases c : (H.tellS row).2 = 5
    · rw [decide_eq_true (by omega), if_pos rfl, if_pos c, show i = l.length by omega]
    · rw [decide_eq_false (by omega), if_neg (by decide), if_neg c]
  | succ d ih =>
    intro i hi out row h1 h2 h3 h4 he
    have hlt : i < l.length := by omega
    have hbi := hb _ (rd_mem hlt)
    obtain ⟨i1, i2⟩ := H.tellS_St row h3 (by omega)
    obtain ⟨K, hK⟩ := five_k row h3 (by omega)
    rw [rd_drop hlt, H.stripGo] at he
    have hr := H.run_eq i1 (by omega) (l.getD i 0)
    have hrl := H.run_le i1 (by omega) (l.getD i 0)
    by_cases c : (H.tellS row).2 = 5
    · rw [if_pos c] at he
      have hne : row ≠ [] := fun e => by rw [e] at c; simp [H.tellS] at c
      have hpos : 0 < row.length := List.length_pos_iff.mpr hne
      have hlast := H.tellS_last row hne
      have e1 : wrap64 ((row.length : Int) - 1) = ((row.length - 1 : Nat) : Int) := by unfold wrap64; omega
      by_cases c2 : l.getD i 0 = (H.tellS row).1
      · rw [if_pos (by rw [hr, if_pos c2]; show (H.tellS row).2 + 1 > 5; omega)] at he
        refine ⟨K + 1, fun k hk => ?_⟩
        obtain ⟨k, rfl⟩ : ∃ m, k = m + 1 := ⟨k - 1, by omega⟩
        show phaetonref03_Strip.l0 (k + 1) l out row (i : Int) = _
        rw [phaetonref03_Strip.l0.eq_2, if_pos (by omega), hK _ (by omega), Option.bind_some, decide_eq_true (by omega), if_pos rfl, if_pos (by omega), e1, if_pos (by omega), if_pos (by omega), rd_nat, rd_nat, hlast, if_pos c2, he]
      · have hrun := H.run_ne c2
        rw [if_neg (by rw [hrun]; show ¬ (1 : Int) > 5; omega), hrun] at he
        have ht : H.tellS [l.getD i 0] = (l.getD i 0, 1) := by
          show H.runS (-1, 0) (l.getD i 0) = _
          exact H.run_ne (by rcases hbi with e | e <;> rw [e] <;> decide)
        obtain ⟨K2, hK2⟩ := ih (i + 1) (by omega) out [l.getD i 0] (by omega) (by simp) (fun x hx => by rw [List.mem_singleton.mp hx]; exact hbi) (by rw [ht]; show (1 : Int) ≤ 5; omega) (by rw [ht]; exact he)
        refine ⟨K + K2 + 1, fun k hk => ?_⟩
        obtain ⟨k, rfl⟩ : ∃ m, k = m + 1 := ⟨k - 1, by omega⟩
        show phaetonref03_Strip.l0 (k + 1) l out row (i : Int) = _
        rw [phaetonref03_Strip.l0.eq_2, if_pos (by omega), hK _ (by omega), Option.bind_some, decide_eq_true (by omega), if_pos rfl, if_pos (by omega), e1, if_pos (by omega), if_pos (by omega), rd_nat, rd_nat, hlast, if_neg c2, H.wrap_succ hlt (by omega)]
        exact hK2 k (by omega)
    · rw [if_neg c] at he
      obtain ⟨K2, hK2⟩ := ih (i + 1) (by omega) (out ++ [l.getD i 0]) (row ++ [l.getD i 0]) (by rw [List.length_append, List.length_singleton]; omega) (by rw [List.length_append, List.length_singleton]; omega) (fun x hx => by rcases List.mem_append.mp hx with hx | hx; exact h3 x hx; rw [List.mem_singleton.mp hx]; exact hbi) (by rw [H.tellS_snoc]; omega) (by rw [H.tellS_snoc]; exact he)
      refine ⟨K + K2 + 1, fun k hk => ?_⟩
      obtain ⟨k, rfl⟩ : ∃ m, k = m + 1 := ⟨k - 1, by omega⟩
      show phaetonref03_Strip.l0 (k + 1) l out row (i : Int) = _
      rw [phaetonref03_Strip.l0.eq_2, if_pos (by omega), hK _ (by omega), Option.bind_some, decide_eq_false (by omega), if_neg (by decide), if_pos (by omega), if_pos (by omega), if_pos (by omega), rd_nat, H.wrap_succ hlt (by omega)]
      exact hK2 k (by omega)
theorem rstrip_k (l : List Int) (hb : ∀ x ∈ l, H.Bit x) (hl : l.length ≤ 1099511627) : ∃ K, ∀ k, K ≤ k → phaetonref03_Strip.f k l = some (H.stripB l) := rstrip_l0 l hb hl _ l.length 0 (by omega) [] [] (Nat.zero_le _) (Nat.zero_le _) (fun x hx => by simp at hx) (by decide) rfl
theorem rruns_l0 (l : List Int) (hb : ∀ x ∈ l, H.Bit x) (hl : l.length ≤ 1099511627) : ∀ d i : Nat, i + d = l.length → Ev (fun k => phaetonref03_Runs.l0 k l (H.runsB (l.take i)) (H.tellS (l.take i)).2 (i : Int)) (H.runsB l) := by
  intro d
  induction d with
  | zero =>
    intro i hi
    refine Ev.step (f := fun _ => some (H.runsB l)) (fun k => ?_) (Ev.now _)
    rw [phaetonref03_Runs.l0.eq_2, if_neg (by omega), List.take_of_length_le (by omega)]
  | succ d ih =>
    intro i hi
    have hlt : i < l.length := by omega
    have hbi := hb _ (rd_mem hlt)
    have hbt : ∀ x ∈ l.take i, H.Bit x := fun x hx => hb x (List.mem_of_mem_take hx)
    have hlt2 : (l.take i).length = i := by rw [List.length_take]; omega
    obtain ⟨i1, i2⟩ := H.tellS_St (l.take i) hbt (by omega)
    have hr := H.run_eq i1 (by omega) (l.getD i 0)
    have hnn := i1.nonneg
    have ew : wrap64 ((H.tellS (l.take i)).2 + 1) = (H.tellS (l.take i)).2 + 1 := by unfold wrap64; omega
    have hsn : H.runsB (l.take (i + 1)) = H.maxStep (H.runsB (l.take i)) (H.runS (H.tellS (l.take i)) (l.getD i 0)).2 := by rw [H.take_snoc 0 l i hlt, H.runsB_snoc]
    have hst : H.tellS (l.take (i + 1)) = H.runS (H.tellS (l.take i)) (l.getD i 0) := by rw [H.take_snoc 0 l i hlt, H.tellS_snoc]
    refine Ev.step (f := fun k => phaetonref03_Runs.l0 k l (H.runsB (l.take (i + 1))) (H.tellS (l.take (i + 1))).2 ((i + 1 : Nat) : Int)) (fun k => ?_) (ih (i + 1) (by omega))
    rw [phaetonref03_Runs.l0.eq_2, if_pos (by omega), H.wrap_succ hlt (by omega), hsn, hst]
    rcases Nat.eq_zero_or_pos i with rfl | hpos
    · rw [if_neg (by omega)]
      have : H.runS (H.tellS (l.take 0)) (l.getD 0 0) = (l.getD 0 0, 1) := H.run_ne (by rw [List.take_zero]; rcases hbi with e | e <;> rw [e] <;> decide)
      rw [this]; rfl
    · have e1 : wrap64 ((i : Int) - 1) = ((i - 1 : Nat) : Int) := by unfold wrap64; omega
      have hlast := H.tellS_last (l.take i) (fun e => by rw [e] at hlt2; simp at hlt2; omega)
      rw [hlt2] at hlast
      have hlast2 : l.getD (i - 1) 0 = (H.tellS (l.take i)).1 := by
        rw [← hlast, List.getD_eq_getElem?_getD, List.getD_eq_getElem?_getD, List.getElem?_take_of_lt (by omega)]
      rw [if_pos (by omega), if_pos (by omega), e1, if_pos (by omega), if_pos (by omega), rd_nat, rd_nat, hlast2]
      by_cases c : l.getD i 0 = (H.tellS (l.take i)).1
      · rw [if_pos c, hr, if_pos c, ew]; rfl
      · rw [if_neg c, hr, if_neg c]; rfl
theorem rruns_k (l : List Int) (hb : ∀ x ∈ l, H.Bit x) (hl : l.length ≤ 1099511627) : ∃ K, ∀ k, K ≤ k → phaetonref03_Runs.f k l = some (H.runsB l) := rruns_l0 l hb hl l.length 0 (by omega)
end Go.Proofs.Ytlggjgabefjjoaa.PB

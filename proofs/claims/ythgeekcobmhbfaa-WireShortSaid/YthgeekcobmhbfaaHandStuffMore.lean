/- More plain laws of this session's own on bits that are stuffed and stripped. No program in sight. -/
import Derived.Test.YthgeekcobmhbfaaHandStuffTell
set_option linter.unusedVariables false
set_option linter.unusedSimpArgs false
namespace Go.Proofs.Ythgeekcobmhbfaa.H
open Go.RowKit
/-! ### runs -/
def told : Int × Int → List Int → List Int
  | _, [] => []
  | s, b :: l => (runS s b).2 :: told (runS s b) l
theorem foldl_tell : ∀ (l out : List Int) (s : Int × Int), l.foldl tellStep (out, s) = (out ++ told s l, l.foldl runS s)
  | [], out, s => by simp [told]
  | b :: l, out, s => by
    rw [List.foldl_cons, List.foldl_cons, show tellStep (out, s) b = (out ++ [(runS s b).2], runS s b) from rfl, foldl_tell l, told, List.append_assoc]; rfl
theorem tellB_told (l : List Int) : tellB l = told (-1, 0) l := by unfold tellB tellT; rw [foldl_tell, List.nil_append]
theorem maxStep_le (m x : Int) : m ≤ maxStep m x ∧ x ≤ maxStep m x := by unfold maxStep; split <;> omega
theorem maxStep_lub {m x b : Int} (h1 : m ≤ b) (h2 : x ≤ b) : maxStep m x ≤ b := by unfold maxStep; split <;> omega
theorem maxB_append (l m : List Int) : maxB l ≤ maxB (l ++ m) := by
  refine snocInd (P := fun m => maxB l ≤ maxB (l ++ m)) (by simp) (fun m x ih => ?_) m
  rw [← List.append_assoc, maxB_snoc]
  have := (maxStep_le (maxB (l ++ m)) x).1
  omega
theorem maxB_lub {b : Int} (hb : 0 ≤ b) (l : List Int) : (∀ x ∈ l, x ≤ b) → maxB l ≤ b := by
  refine snocInd (P := fun l => (∀ x ∈ l, x ≤ b) → maxB l ≤ b) (fun _ => hb) (fun l x ih h => ?_) l
  rw [maxB_snoc]
  exact maxStep_lub (ih fun y hy => h y (by simp [hy])) (h x (by simp))
theorem runsB_take (l : List Int) (k : Nat) : runsB (l.take k) ≤ runsB l := by
  unfold runsB
  conv => rhs; rw [← List.take_append_drop k l, tellB_told]
  rw [tellB_told]
  have : ∀ (a b : List Int) (s : Int × Int), told s (a ++ b) = told s a ++ told (a.foldl runS s) b := by
    intro a b
    induction a with
    | nil => intro s; rfl
    | cons x a ih => intro s; rw [List.cons_append, told, told, ih, List.foldl_cons, List.cons_append]
  rw [this]
  exact maxB_append _ _
theorem runs_stuff_le (l : List Int) : (∀ x ∈ l, Bit x) → runsB (stuffS l).1 ≤ 5 := by
  refine snocInd (P := fun l => (∀ x ∈ l, Bit x) → runsB (stuffS l).1 ≤ 5) (fun _ => by decide) (fun l b ih h => ?_) l
  obtain ⟨h1, h2⟩ := bits_snoc h
  obtain ⟨o1, o2⟩ := stuffS_ok h1
  have hst := stuff_state l
  have hr := run_le o1.1 o1.le b
  have hlt := o1.2
  rw [stuffS_snoc]
  unfold stuffStep
  split
  · rw [runsB_snoc, runsB_snoc, tellS_snoc, ← hst]
    refine maxStep_lub (maxStep_lub (ih h1) (by omega)) ?_
    rw [run_turn _ h2]; show (1 : Int) ≤ 5; omega
  · rw [runsB_snoc, ← hst]
    exact maxStep_lub (ih h1) (by omega)
theorem runs_or (l : List Int) : (stuffS l).1 = l ∨ 5 ≤ runsB (stuffS l).1 := by
  refine snocInd (P := fun l => (stuffS l).1 = l ∨ 5 ≤ runsB (stuffS l).1) (.inl rfl) (fun l b ih => ?_) l
  have hst := stuff_state l
  rw [stuffS_snoc]
  unfold stuffStep
  split
  · rename_i c
    right
    rw [runsB_snoc, runsB_snoc, ← hst]
    have h1 := (maxStep_le (runsB (stuffS l).1) (runS (stuffS l).2 b).2).2
    have h2 := (maxStep_le (maxStep (runsB (stuffS l).1) (runS (stuffS l).2 b).2) (runS (tellS ((stuffS l).1 ++ [b])) (wrap64 (1 - b))).2).1
    omega
  · rcases ih with e | e
    · left; show (stuffS l).1 ++ [b] = _; rw [e]
    · right
      rw [runsB_snoc]
      have h1 := (maxStep_le (runsB (stuffS l).1) (runS (tellS (stuffS l).1) b).2).1
      omega
theorem strip_quiet : ∀ (l : List Int) (i : Nat) (out : List Int) (s : Int × Int), (∀ x ∈ l, Bit x) → St s → s.2 ≤ 5 → ((stripGo l i out s).2 = -1 ∨ (stripGo l i out s).2 = (i : Int) + l.length) → ∀ v ∈ told s l, v ≤ 5
  | [], _, _, _, _, _, _, _, v, hv => by simp [told] at hv
  | b :: l, i, out, s, h, hs, h5, hf, v, hv => by
    have hb := h b (by simp)
    have hl : ∀ x ∈ l, Bit x := fun x hx => h x (by simp [hx])
    have hle : s.2 ≤ 1099511627776 := by omega
    have hr := run_le hs hle b
    rw [stripGo, List.length_cons] at hf
    rw [told] at hv
    by_cases c : s.2 = 5
    · rw [if_pos c] at hf
      by_cases c2 : (runS s b).2 > 5
      · rw [if_pos c2] at hf
        have hf' : (i : Int) = -1 ∨ (i : Int) = (i : Int) + ((l.length + 1 : Nat) : Int) := hf
        omega
      · rw [if_neg c2] at hf
        rcases List.mem_cons.mp hv with rfl | hv
        · omega
        · exact strip_quiet l (i + 1) out (runS s b) hl (run_St hs hle hb) (by omega) (by omega) v hv
    · rw [if_neg c] at hf
      rcases List.mem_cons.mp hv with rfl | hv
      · omega
      · exact strip_quiet l (i + 1) (out ++ [b]) (runS s b) hl (run_St hs hle hb) (by omega) (by omega) v hv
theorem strip_runs {l : List Int} (h : ∀ x ∈ l, Bit x) (hl : l.length ≤ 1099511627) : (runsB l > 5 → 0 ≤ (stripB l).2 ∧ (stripB l).2 < l.length) ∧ (¬ runsB l > 5 → (stripB l).2 = -1 ∨ (stripB l).2 = l.length) := by
  obtain ⟨o, f, he⟩ : ∃ o f, stripB l = (o, f) := ⟨_, _, rfl⟩
  have hp := (strip_place l 0 [] (-1, 0) o f h (.inl rfl) (by decide) (by decide) he (fun x hx => by simp at hx)).2
  have hq := strip_quiet l 0 [] (-1, 0) h (.inl rfl) (by decide)
  rw [show stripGo l 0 [] (-1, 0) = stripB l from rfl, he] at hq
  rw [he]
  constructor
  · intro hr
    have hn : ¬ (f = -1 ∨ f = (l.length : Int)) := fun hh => by
      have := maxB_lub (b := 5) (by omega) (told (-1, 0) l) (hq (by rcases hh with e | e; exact .inl e; exact .inr (by show f = _; omega)))
      rw [← tellB_told] at this
      have : runsB l ≤ 5 := this
      omega
    obtain ⟨_, m, e1, e2, _⟩ := hp (fun e => hn (.inl e))
    refine ⟨by show 0 ≤ f; omega, ?_⟩
    show f < _
    have : f ≠ (l.length : Int) := fun e => hn (.inr e)
    omega
  · intro hr
    by_cases c : f = -1
    · exact .inl c
    obtain ⟨_, m, e1, e2, _, _, e5, e6⟩ := hp c
    right
    show f = _
    by_cases hm : m < l.length
    · have e7 := e6 hm
      have ht : tellS (l.take (m + 1)) = runS (tellS (l.take m)) (l.getD m 0) := by rw [take_snoc 0 l m hm, tellS_snoc]
      have hb2 : ∀ x ∈ l.take m, Bit x := fun x hx => h x (List.mem_of_mem_take hx)
      have hle : (l.take m).length ≤ 1099511627776 := by rw [List.length_take]; omega
      have hs := tellS_St (l.take m) hb2 hle
      have e8 : runsB (l.take (m + 1)) = maxStep (runsB (l.take m)) (runS (tellS (l.take m)) (l.getD m 0)).2 := by rw [take_snoc 0 l m hm, runsB_snoc]
      have e9 : (runS (tellS (l.take m)) (l.getD m 0)).2 = 6 := by
        have h5 : (tellS (l.take m)).2 = 5 := e5
        rw [run_eq hs.1 (by omega), if_pos (show l.getD m 0 = (tellS (l.take m)).1 from e7)]
        show (tellS (l.take m)).2 + 1 = 6
        omega
      have := (maxStep_le (runsB (l.take m)) (runS (tellS (l.take m)) (l.getD m 0)).2).2
      have := runsB_take l (m + 1)
      omega
    · omega

/-! ### how many are put in -/
theorem stuff_most : ∀ (l : List Int) (s : Int × Int), (∀ x ∈ l, Bit x) → Ok s → 4 * (((stuffGo s l).length : Int) - l.length) + (stuffE s l).2 ≤ s.2 + l.length
  | [], s, _, _ => by simp [stuffGo, stuffE]
  | b :: l, s, h, hs => by
    have hb := h b (by simp)
    have hl : ∀ x ∈ l, Bit x := fun x hx => h x (by simp [hx])
    have hr := run_le hs.1 hs.le b
    have h5 := hs.2
    rw [stuffGo, stuffE]
    by_cases c : (runS s b).2 = 5
    · have := stuff_most l (1 - b, 1) hl (Ok.turned hb.turn.2)
      replace this : 4 * (((stuffGo (1 - b, 1) l).length : Int) - l.length) + (stuffE (1 - b, 1) l).2 ≤ 1 + l.length := this
      rw [if_pos c, if_pos c, List.length_cons, List.length_cons, List.length_cons]; omega
    · have := stuff_most l (runS s b) hl (hs.next hb c)
      rw [if_neg c, if_neg c, List.length_cons, List.length_cons]; omega
theorem stuffE_pos : ∀ (l : List Int) (s : Int × Int), (∀ x ∈ l, Bit x) → Ok s → (1 ≤ s.2 ∨ l ≠ []) → 1 ≤ (stuffE s l).2
  | [], s, _, _, h => by rcases h with h | h; exact h; exact absurd rfl h
  | b :: l, s, h, hs, _ => by
    have hb := h b (by simp)
    have hl : ∀ x ∈ l, Bit x := fun x hx => h x (by simp [hx])
    have hr := run_le hs.1 hs.le b
    rw [stuffE]
    by_cases c : (runS s b).2 = 5
    · rw [if_pos c]; exact stuffE_pos l _ hl (Ok.turned hb.turn.2) (.inl (by show (1 : Int) ≤ 1; omega))
    · rw [if_neg c]; exact stuffE_pos l _ hl (hs.next hb c) (.inl hr.1)

/-! ### beginnings -/
theorem strip_pre : ∀ (l : List Int) (i : Nat) (out : List Int) (s : Int × Int), out <+: (stripGo l i out s).1
  | [], i, out, s => by rw [stripGo]; exact List.prefix_rfl
  | b :: l, i, out, s => by
    rw [stripGo]
    split
    · split
      · exact List.prefix_rfl
      · exact strip_pre l _ _ _
    · exact (List.prefix_append out [b]).trans (strip_pre l _ _ _)
theorem strip_app : ∀ (x y : List Int) (i : Nat) (out : List Int) (s : Int × Int), (stripGo x i out s).1 <+: (stripGo (x ++ y) i out s).1
  | [], y, i, out, s => by rw [stripGo]; exact strip_pre y i out s
  | b :: x, y, i, out, s => by
    rw [List.cons_append, stripGo, stripGo]
    split
    · split
      · exact List.prefix_rfl
      · exact strip_app x y _ _ _
    · exact strip_app x y _ _ _

/-! ### opposites -/
def turn (l : List Int) : List Int := l.map fun x => wrap64 (1 - x)
theorem turn_bits {l : List Int} (h : ∀ x ∈ l, Bit x) : ∀ x ∈ turn l, Bit x := fun x hx => by
  obtain ⟨y, hy, rfl⟩ := List.mem_map.mp hx
  rw [(h y hy).turn.1]; exact (h y hy).turn.2
def Rel (s t : Int × Int) : Prop := t.2 = s.2 ∧ ((s.1 = -1 ∧ t.1 = -1) ∨ (Bit s.1 ∧ t.1 = 1 - s.1))
theorem run_rel {s t : Int × Int} (h : Rel s t) {b : Int} (hb : Bit b) : Rel (runS s b) (runS t (1 - b)) := by
  obtain ⟨h1, h2⟩ := h
  refine ⟨?_, .inr ⟨hb, rfl⟩⟩
  unfold runS
  rw [h1]
  have : (1 - b = t.1) ↔ (b = s.1) := by
    rcases h2 with ⟨e1, e2⟩ | ⟨_, e2⟩
    · rw [e1, e2]; rcases hb with rfl | rfl <;> decide
    · rw [e2]; omega
  by_cases c : b = s.1
  · rw [if_pos c, if_pos (this.mpr c)]
  · rw [if_neg c, if_neg (fun e => c (this.mp e))]
theorem stuff_turn : ∀ (l : List Int) (s t : Int × Int), (∀ x ∈ l, Bit x) → Rel s t → stuffGo t (turn l) = turn (stuffGo s l)
  | [], _, _, _, _ => rfl
  | b :: l, s, t, h, hr => by
    have hb := h b (by simp)
    have hl : ∀ x ∈ l, Bit x := fun x hx => h x (by simp [hx])
    have r1 := run_rel hr hb
    rw [show turn (b :: l) = (1 - b) :: turn l by show wrap64 (1 - b) :: turn l = _; rw [hb.turn.1], stuffGo, stuffGo, r1.1]
    by_cases c : (runS s b).2 = 5
    · rw [if_pos c, if_pos c, stuff_turn l (1 - b, 1) (1 - (1 - b), 1) hl ⟨rfl, .inr ⟨hb.turn.2, rfl⟩⟩]
      show _ = wrap64 (1 - b) :: wrap64 (1 - (1 - b)) :: turn _
      rw [hb.turn.1, hb.turn.2.turn.1]
    · rw [if_neg c, if_neg c, stuff_turn l _ _ hl r1]
      show _ = wrap64 (1 - b) :: turn _
      rw [hb.turn.1]
theorem strip_turn : ∀ (l : List Int) (i : Nat) (out : List Int) (s t : Int × Int), (∀ x ∈ l, Bit x) → Rel s t → stripGo (turn l) i (turn out) t = (turn (stripGo l i out s).1, (stripGo l i out s).2)
  | [], i, out, s, t, _, hr => by rw [show turn [] = [] from rfl, stripGo, stripGo, hr.1]
  | b :: l, i, out, s, t, h, hr => by
    have hb := h b (by simp)
    have hl : ∀ x ∈ l, Bit x := fun x hx => h x (by simp [hx])
    have r1 := run_rel hr hb
    rw [show turn (b :: l) = (1 - b) :: turn l by show wrap64 (1 - b) :: turn l = _; rw [hb.turn.1], stripGo, stripGo, r1.1, hr.1]
    have ho : turn out ++ [1 - b] = turn (out ++ [b]) := by unfold turn; rw [List.map_append]; show _ = _ ++ [wrap64 (1 - b)]; rw [hb.turn.1]
    split
    · split
      · rfl
      · exact strip_turn l _ _ _ _ hl r1
    · rw [ho]; exact strip_turn l _ _ _ _ hl r1
theorem told_turn : ∀ (l : List Int) (s t : Int × Int), (∀ x ∈ l, Bit x) → Rel s t → told t (turn l) = told s l
  | [], _, _, _, _ => rfl
  | b :: l, s, t, h, hr => by
    have hb := h b (by simp)
    have hl : ∀ x ∈ l, Bit x := fun x hx => h x (by simp [hx])
    have r1 := run_rel hr hb
    rw [show turn (b :: l) = (1 - b) :: turn l by show wrap64 (1 - b) :: turn l = _; rw [hb.turn.1], told, told, r1.1, told_turn l _ _ hl r1]
theorem rel0 : Rel (-1, 0) (-1, 0) := ⟨rfl, .inl ⟨rfl, rfl⟩⟩
theorem turned_all {l : List Int} (h : ∀ x ∈ l, Bit x) : stuffB (turn l) = turn (stuffB l) ∧ stripB (turn l) = (turn (stripB l).1, (stripB l).2) ∧ runsB (turn l) = runsB l := by
  refine ⟨?_, strip_turn l 0 [] _ _ h rel0, ?_⟩
  · rw [stuffB_go h, stuffB_go (turn_bits h)]; exact stuff_turn l _ _ h rel0
  · unfold runsB; rw [tellB_told, tellB_told, told_turn l _ _ h rel0]
end Go.Proofs.Ythgeekcobmhbfaa.H

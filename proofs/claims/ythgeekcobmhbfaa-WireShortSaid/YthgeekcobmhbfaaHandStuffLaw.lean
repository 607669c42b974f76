/- Plain laws of this session's own on bits that are stuffed and stripped. No program in sight. -/
import Derived.Test.YthgeekcobmhbfaaHandStuff
set_option linter.unusedVariables false
set_option linter.unusedSimpArgs false
namespace Go.Proofs.Ythgeekcobmhbfaa.H
open Go.RowKit
def Bit (b : Int) : Prop := b = 0 ∨ b = 1
theorem Bit.turn {b : Int} (h : Bit b) : wrap64 (1 - b) = 1 - b ∧ Bit (1 - b) := by
  rcases h with rfl | rfl
  · exact ⟨rfl, .inr rfl⟩
  · exact ⟨rfl, .inl rfl⟩
/-- A state that bits lead to. -/
def St (s : Int × Int) : Prop := s = (-1, 0) ∨ (Bit s.1 ∧ 1 ≤ s.2)
theorem St.nonneg {s : Int × Int} (h : St s) : 0 ≤ s.2 := by
  rcases h with rfl | ⟨_, h⟩
  · decide
  · omega
theorem run_eq {s : Int × Int} (h : St s) (hs : s.2 ≤ 1099511627776) (b : Int) : runS s b = (b, if b = s.1 then s.2 + 1 else 1) := by
  have := h.nonneg
  unfold runS
  rw [show wrap64 (s.2 + 1) = s.2 + 1 by unfold wrap64; omega]
theorem run_fst (s : Int × Int) (b : Int) : (runS s b).1 = b := rfl
theorem run_le {s : Int × Int} (h : St s) (hs : s.2 ≤ 1099511627776) (b : Int) : 1 ≤ (runS s b).2 ∧ (runS s b).2 ≤ s.2 + 1 := by
  have := h.nonneg
  rw [run_eq h hs]
  show 1 ≤ (if b = s.1 then s.2 + 1 else 1) ∧ (if b = s.1 then s.2 + 1 else 1) ≤ s.2 + 1
  split <;> omega
theorem run_St {s : Int × Int} (h : St s) (hs : s.2 ≤ 1099511627776) {b : Int} (hb : Bit b) : St (runS s b) := .inr ⟨hb, (run_le h hs b).1⟩
theorem run_ne {s : Int × Int} {b : Int} (hne : b ≠ s.1) : runS s b = (b, 1) := by unfold runS; rw [if_neg hne]
theorem run_turn (s : Int × Int) {b : Int} (hb : Bit b) : runS (runS s b) (wrap64 (1 - b)) = (1 - b, 1) := by
  rw [hb.turn.1]
  exact run_ne (by rw [run_fst]; omega)
/-- A state ahead of a bit of one's own. -/
def Ok (s : Int × Int) : Prop := St s ∧ s.2 < 5
theorem Ok.start : Ok (-1, 0) := ⟨.inl rfl, by decide⟩
theorem Ok.turned {b : Int} (hb : Bit b) : Ok (b, 1) := ⟨.inr ⟨hb, by show (1 : Int) ≤ 1; omega⟩, by show (1 : Int) < 5; omega⟩
theorem Ok.le {s : Int × Int} (h : Ok s) : s.2 ≤ 1099511627776 := by have := h.2; omega
theorem Ok.next {s : Int × Int} (h : Ok s) {b : Int} (hb : Bit b) (hn : (runS s b).2 ≠ 5) : Ok (runS s b) := ⟨run_St h.1 h.le hb, by have := (run_le h.1 h.le b).2; have := h.2; omega⟩

/-! ### what is stuffed, from the left -/
def stuffGo : Int × Int → List Int → List Int
  | _, [] => []
  | s, b :: l => if (runS s b).2 = 5 then b :: (1 - b) :: stuffGo (1 - b, 1) l else b :: stuffGo (runS s b) l
def stuffE : Int × Int → List Int → Int × Int
  | s, [] => s
  | s, b :: l => if (runS s b).2 = 5 then stuffE (1 - b, 1) l else stuffE (runS s b) l
theorem foldl_stuff : ∀ (l : List Int) (out : List Int) (s : Int × Int), (∀ x ∈ l, Bit x) → l.foldl stuffStep (out, s) = (out ++ stuffGo s l, stuffE s l)
  | [], out, s, _ => by simp [stuffGo, stuffE]
  | b :: l, out, s, h => by
    have hb := h b (by simp)
    have hl : ∀ x ∈ l, Bit x := fun x hx => h x (by simp [hx])
    rw [List.foldl_cons, stuffGo, stuffE]
    by_cases c : (runS s b).2 = 5
    · rw [show stuffStep (out, s) b = (out ++ [b] ++ [1 - b], (1 - b, 1)) by unfold stuffStep; rw [if_pos c, run_turn s hb, hb.turn.1], if_pos c, if_pos c, foldl_stuff l _ _ hl]; simp
    · rw [show stuffStep (out, s) b = (out ++ [b], runS s b) by unfold stuffStep; rw [if_neg c], if_neg c, if_neg c, foldl_stuff l _ _ hl]; simp
theorem stuffB_go {l : List Int} (h : ∀ x ∈ l, Bit x) : stuffB l = stuffGo (-1, 0) l := by
  unfold stuffB stuffS; rw [foldl_stuff l [] (-1, 0) h, List.nil_append]
theorem stuffE_ok : ∀ (l : List Int) (s : Int × Int), (∀ x ∈ l, Bit x) → Ok s → Ok (stuffE s l)
  | [], _, _, hs => hs
  | b :: l, s, h, hs => by
    have hb := h b (by simp)
    have hl : ∀ x ∈ l, Bit x := fun x hx => h x (by simp [hx])
    unfold stuffE
    by_cases c : (runS s b).2 = 5
    · rw [if_pos c]; exact stuffE_ok l _ hl (Ok.turned hb.turn.2)
    · rw [if_neg c]; exact stuffE_ok l _ hl (hs.next hb c)
theorem stuffGo_append : ∀ (l m : List Int) (s : Int × Int), stuffGo s (l ++ m) = stuffGo s l ++ stuffGo (stuffE s l) m
  | [], m, s => rfl
  | b :: l, m, s => by
    rw [List.cons_append, stuffGo, stuffGo, stuffE]
    by_cases c : (runS s b).2 = 5
    · rw [if_pos c, if_pos c, if_pos c, stuffGo_append l m]; rfl
    · rw [if_neg c, if_neg c, if_neg c, stuffGo_append l m]; rfl
theorem stuffGo_bits : ∀ (l : List Int) (s : Int × Int), (∀ x ∈ l, Bit x) → ∀ x ∈ stuffGo s l, Bit x
  | [], _, _, x, hx => by simp [stuffGo] at hx
  | b :: l, s, h, x, hx => by
    have hb := h b (by simp)
    have hl : ∀ x ∈ l, Bit x := fun x hx => h x (by simp [hx])
    unfold stuffGo at hx
    by_cases c : (runS s b).2 = 5
    · rw [if_pos c] at hx
      rcases List.mem_cons.mp hx with rfl | hx
      · exact hb
      rcases List.mem_cons.mp hx with rfl | hx
      · exact hb.turn.2
      · exact stuffGo_bits l _ hl x hx
    · rw [if_neg c] at hx
      rcases List.mem_cons.mp hx with rfl | hx
      · exact hb
      · exact stuffGo_bits l _ hl x hx
theorem stuffGo_len : ∀ (l : List Int) (s : Int × Int), l.length ≤ (stuffGo s l).length
  | [], _ => Nat.zero_le _
  | b :: l, s => by
    unfold stuffGo
    split
    · have := stuffGo_len l (1 - b, 1); simp only [List.length_cons]; omega
    · have := stuffGo_len l (runS s b); simp only [List.length_cons]; omega

/-! ### stripped again -/
theorem strip_stuff : ∀ (l x : List Int) (i : Nat) (out : List Int) (s : Int × Int), (∀ x ∈ l, Bit x) → Ok s → stripGo (stuffGo s l ++ x) i out s = stripGo x (i + (stuffGo s l).length) (out ++ l) (stuffE s l)
  | [], x, i, out, s, _, _ => by simp [stuffGo, stuffE]
  | b :: l, x, i, out, s, h, hs => by
    have hb := h b (by simp)
    have hl : ∀ x ∈ l, Bit x := fun x hx => h x (by simp [hx])
    have h5 : ¬ s.2 = 5 := by have := hs.2; omega
    unfold stuffGo stuffE
    by_cases c : (runS s b).2 = 5
    · rw [if_pos c, if_pos c, List.cons_append, List.cons_append]
      have ht : runS (runS s b) (1 - b) = (1 - b, 1) := by have := run_turn s hb; rwa [hb.turn.1] at this
      have e1 : stripGo (b :: (1 - b) :: (stuffGo (1 - b, 1) l ++ x)) i out s = stripGo (stuffGo (1 - b, 1) l ++ x) (i + 1 + 1) (out ++ [b]) (1 - b, 1) := by
        rw [stripGo, if_neg h5, stripGo, if_pos c, ht, if_neg (by show ¬ (1 : Int) > 5; omega)]
      rw [e1, strip_stuff l x _ _ _ hl (Ok.turned hb.turn.2), List.append_assoc, List.length_cons, List.length_cons, show i + 1 + 1 + (stuffGo (1 - b, 1) l).length = i + ((stuffGo (1 - b, 1) l).length + 1 + 1) by omega]; rfl
    · rw [if_neg c, if_neg c, List.cons_append]
      rw [stripGo, if_neg h5, strip_stuff l x _ _ _ hl (hs.next hb c), List.append_assoc, List.length_cons, show i + 1 + (stuffGo (runS s b) l).length = i + ((stuffGo (runS s b) l).length + 1) by omega]; rfl
theorem strip_back {l : List Int} (h : ∀ x ∈ l, Bit x) : stripB (stuffB l) = (l, -1) := by
  have := strip_stuff l [] 0 [] (-1, 0) h Ok.start
  rw [List.append_nil, List.nil_append] at this
  unfold stripB
  rw [stuffB_go h, this, stripGo, if_neg (by have := (stuffE_ok l _ h Ok.start).2; omega)]
/-- Without the bit that was put in at the end. -/
theorem strip_short {l : List Int} {b : Int} (h : ∀ x ∈ l, Bit x) (hb : Bit b) (c : (runS (stuffE (-1, 0) l) b).2 = 5) : stuffGo (-1, 0) (l ++ [b]) = stuffGo (-1, 0) l ++ [b, 1 - b] ∧ stripB (stuffGo (-1, 0) l ++ [b]) = (l ++ [b], (((stuffGo (-1, 0) l).length + 1 : Nat) : Int)) := by
  have hE := stuffE_ok l _ h Ok.start
  constructor
  · rw [stuffGo_append, stuffGo, if_pos c, stuffGo]
  · unfold stripB
    rw [strip_stuff l [b] 0 [] (-1, 0) h Ok.start, stripGo, if_neg (by have := hE.2; omega), stripGo, if_pos c]
    simp
theorem stuff_last {l : List Int} {b : Int} (c : (runS (stuffE (-1, 0) l) b).2 ≠ 5) : stuffGo (-1, 0) (l ++ [b]) = stuffGo (-1, 0) l ++ [b] := by
  rw [stuffGo_append, stuffGo, if_neg c, stuffGo]

/-! ### what is stripped without a fault is stuffed again to what it was -/
def stuffD (s : Int × Int) (l : List Int) : List Int := if s.2 = 5 then (1 - s.1) :: stuffGo (1 - s.1, 1) l else stuffGo s l
theorem strip_once : ∀ (l : List Int) (i : Nat) (out : List Int) (s : Int × Int) (o : List Int), (∀ x ∈ l, Bit x) → St s → s.2 ≤ 5 → stripGo l i out s = (o, -1) → ∃ a, o = out ++ a ∧ stuffD s a = l ∧ ∀ x ∈ a, Bit x
  | [], i, out, s, o, _, hs, h5, he => by
    rw [stripGo] at he
    by_cases c : s.2 = 5
    · rw [if_pos c] at he; exact absurd (congrArg Prod.snd he) (by show ¬ (i : Int) = -1; omega)
    · rw [if_neg c] at he
      refine ⟨[], by have := congrArg Prod.fst he; simpa using this.symm, ?_, by simp⟩
      unfold stuffD; rw [if_neg c, stuffGo]
  | b :: l, i, out, s, o, h, hs, h5, he => by
    have hb := h b (by simp)
    have hl : ∀ x ∈ l, Bit x := fun x hx => h x (by simp [hx])
    have hle : s.2 ≤ 1099511627776 := by omega
    rw [stripGo] at he
    by_cases c : s.2 = 5
    · rw [if_pos c] at he
      by_cases c2 : (runS s b).2 > 5
      · rw [if_pos c2] at he; exact absurd (congrArg Prod.snd he) (by show ¬ (i : Int) = -1; omega)
      · rw [if_neg c2] at he
        have hne : b ≠ s.1 := fun e => by rw [run_eq hs hle, e, if_pos rfl] at c2; simp at c2; omega
        have hs1 : Bit s.1 := by
          rcases hs with rfl | ⟨h1, _⟩
          · simp at c
          · exact h1
        have hbe : b = 1 - s.1 := by rcases hb with rfl | rfl <;> rcases hs1 with e | e <;> rw [e] at hne ⊢ <;> first | rfl | exact absurd rfl hne
        have hr : runS s b = (b, 1) := run_ne hne
        rw [hr] at he
        obtain ⟨a, e1, e2, e3⟩ := strip_once l _ _ _ _ hl (.inr ⟨hb, by show (1 : Int) ≤ 1; omega⟩) (by show (1 : Int) ≤ 5; omega) he
        refine ⟨a, e1, ?_, e3⟩
        unfold stuffD at e2 ⊢
        rw [if_neg (by show ¬ (1 : Int) = 5; omega)] at e2
        rw [if_pos c, ← hbe, e2]
    · rw [if_neg c] at he
      have hok : Ok s := ⟨hs, by omega⟩
      have hrl := run_le hs hle b
      obtain ⟨a, e1, e2, e3⟩ := strip_once l _ _ _ _ hl (run_St hs hle hb) (by omega) he
      refine ⟨b :: a, by rw [e1]; simp, ?_, fun x hx => by rcases List.mem_cons.mp hx with rfl | hx; exact hb; exact e3 x hx⟩
      unfold stuffD at e2 ⊢
      rw [if_neg c, stuffGo]
      by_cases c2 : (runS s b).2 = 5
      · rw [if_pos c2] at e2 ⊢; rw [run_fst] at e2; rw [e2]
      · rw [if_neg c2] at e2 ⊢; rw [e2]
theorem stuff_once {l a : List Int} (h : ∀ x ∈ l, Bit x) (he : stripB l = (a, -1)) : stuffB a = l ∧ ∀ x ∈ a, Bit x := by
  obtain ⟨a', e1, e2, e3⟩ := strip_once l 0 [] (-1, 0) a h (.inl rfl) (by decide) he
  rw [List.nil_append] at e1
  subst e1
  refine ⟨?_, e3⟩
  rw [stuffB_go e3]
  unfold stuffD at e2
  rwa [if_neg (by decide)] at e2
theorem strip_out : ∀ (l : List Int) (i : Nat) (out : List Int) (s : Int × Int), (stripGo l i out s).1.length ≤ out.length + l.length
  | [], i, out, s => by rw [stripGo]; simp
  | b :: l, i, out, s => by
    rw [stripGo, List.length_cons]
    split
    · split
      · show out.length ≤ _; omega
      · have := strip_out l (i + 1) out (runS s b); omega
    · have := strip_out l (i + 1) (out ++ [b]) (runS s b)
      rw [List.length_append, List.length_singleton] at this; omega
theorem strip_len (l : List Int) : (stripB l).1.length ≤ l.length := by
  have := strip_out l 0 [] (-1, 0)
  simpa [stripB] using this
/-- All on a fault's place, and on what was stripped ahead of it. -/
theorem strip_place : ∀ (l : List Int) (i : Nat) (out : List Int) (s : Int × Int) (o : List Int) (f : Int), (∀ x ∈ l, Bit x) → St s → s.2 ≤ 5 → s.2 ≤ i → stripGo l i out s = (o, f) → (∀ x ∈ out, Bit x) →
    ((∀ x ∈ o, Bit x) ∧ out <+: o) ∧ (f ≠ -1 → 5 ≤ f ∧ ∃ m : Nat, f = (i : Int) + m ∧ m ≤ l.length ∧ o.length ≤ out.length + m ∧ stripGo (l.take m) i out s = (o, f) ∧ ((l.take m).foldl runS s).2 = 5 ∧ (m < l.length → l.getD m 0 = ((l.take m).foldl runS s).1))
  | [], i, out, s, o, f, _, hs, h5, hi, he, ho => by
    rw [stripGo] at he
    obtain ⟨rfl, rfl⟩ := Prod.mk.inj he
    refine ⟨⟨ho, List.prefix_rfl⟩, fun hf => ?_⟩
    by_cases c : s.2 = 5
    · rw [if_pos c]
      refine ⟨by omega, 0, by simp, Nat.le_refl _, by omega, ?_, by simpa using c, by simp⟩
      rw [List.take_nil, stripGo, if_pos c]
    · rw [if_neg c] at hf; exact absurd rfl hf
  | b :: l, i, out, s, o, f, h, hs, h5, hi, he, ho => by
    have hb := h b (by simp)
    have hl : ∀ x ∈ l, Bit x := fun x hx => h x (by simp [hx])
    have hle : s.2 ≤ 1099511627776 := by omega
    have hr := run_eq hs hle b
    have hrl := run_le hs hle b
    rw [stripGo] at he
    by_cases c : s.2 = 5
    · rw [if_pos c] at he
      by_cases c2 : (runS s b).2 > 5
      · rw [if_pos c2] at he
        obtain ⟨rfl, rfl⟩ := Prod.mk.inj he
        have hbe : b = s.1 := Classical.byContradiction fun hne => by rw [run_ne hne] at c2; simp at c2
        refine ⟨⟨ho, List.prefix_rfl⟩, fun _ => ⟨by omega, 0, by simp, Nat.zero_le _, by omega, ?_, by simpa using c, fun _ => by simpa using hbe⟩⟩
        rw [List.take_zero, stripGo, if_pos c]
      · rw [if_neg c2] at he
        obtain ⟨x1, x2⟩ := strip_place l (i + 1) out (runS s b) o f hl (run_St hs hle hb) (by omega) (by omega) he ho
        refine ⟨x1, fun hf => ?_⟩
        obtain ⟨y1, m, y2, y3, y4, y5, y6, y7⟩ := x2 hf
        refine ⟨y1, m + 1, by omega, by rw [List.length_cons]; omega, by omega, ?_, by simpa using y6, fun hm => by simpa using y7 (by rw [List.length_cons] at hm; omega)⟩
        rw [List.take_succ_cons, stripGo, if_pos c, if_neg c2]; exact y5
    · rw [if_neg c] at he
      obtain ⟨⟨x1, x0⟩, x2⟩ := strip_place l (i + 1) (out ++ [b]) (runS s b) o f hl (run_St hs hle hb) (by omega) (by omega) he (fun x hx => by rcases List.mem_append.mp hx with hx | hx; exact ho x hx; rw [List.mem_singleton.mp hx]; exact hb)
      refine ⟨⟨x1, (List.prefix_append out [b]).trans x0⟩, fun hf => ?_⟩
      obtain ⟨y1, m, y2, y3, y4, y5, y6, y7⟩ := x2 hf
      rw [List.length_append, List.length_singleton] at y4
      refine ⟨y1, m + 1, by omega, by rw [List.length_cons]; omega, by omega, ?_, by simpa using y6, fun hm => by simpa using y7 (by rw [List.length_cons] at hm; omega)⟩
      rw [List.take_succ_cons, stripGo, if_neg c]; exact y5
end Go.Proofs.Ythgeekcobmhbfaa.H

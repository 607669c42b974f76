/- Plain laws of this session's own on bits that are stuffed and stripped. No program in sight. -/
import Derived.Test.YtechlakahpkdpaaHandStuff
set_option linter.unusedVariables false
set_option linter.unusedSimpArgs false
namespace Go.Proofs.Ytechlakahpkdpaa.H
open Go.RowKit
def Bit (b : Int) : Prop := b = 0 ∨ b = 1
theorem Bit.turn {b : Int} (h : Bit b) : wrap64 (1 - b) = 1 - b ∧ Bit (1 - b) := by
 rcases h with rfl | rfl
 ·exact ⟨rfl, .inr rfl⟩
 ·exact ⟨rfl, .inl rfl⟩
def St (s : Int × Int) : Prop := s = (-1, 0) ∨ (Bit s.1 ∧ 1 ≤ s.2)
theorem St.nonneg {s : Int × Int} (h : St s) : 0 ≤ s.2 := by
 rcases h with rfl | ⟨_, h⟩
 ·decide
 ·omega
theorem run_eq {s : Int × Int} (h : St s) (hs : s.2 ≤ 1099511627776) (b : Int) : runS s b = (b, if b = s.1 then s.2 + 1 else 1) := by
 have := h.nonneg
 unfold runS
 rw [show wrap64 (s.2 + 1) = s.2 + 1 by unfold wrap64; omega]
theorem run_fst (s : Int × Int) (b : Int) : (runS s b).1 = b := rfl
theorem run_le {s : Int × Int} (h : St s) (hs : s.2 ≤ 1099511627776) (b : Int) : 1 ≤ (runS s b).2 ∧ (runS s b).2 ≤ s.2 + 1 := by
 have := h.nonneg
 rw [run_eq h hs]
 show 1 ≤ (if b = s.1 then s.2 + 1 else 1) ∧ (if b = s.1 then s.2 + 1 else 1) ≤ s.2 + 1
 split <;> omega
theorem run_St {s : Int × Int} (h : St s) (hs : s.2 ≤ 1099511627776) {b : Int} (hb : Bit b) : St (runS s b) := .inr ⟨hb, (run_le h hs b).1⟩
theorem run_ne {s : Int × Int} {b : Int} (hne : b ≠ s.1) : runS s b = (b, 1) := by unfold runS; rw [if_neg hne]
theorem run_turn (s : Int × Int) {b : Int} (hb : Bit b) : runS (runS s b) (wrap64 (1 - b)) = (1 - b, 1) := by
 rw [hb.turn.1]
 exact run_ne (by rw [run_fst]; omega)
def Ok (s : Int × Int) : Prop := St s ∧ s.2 < 5
theorem Ok.turned {b : Int} (hb : Bit b) : Ok (b, 1) := ⟨.inr ⟨hb, by show (1 : Int) ≤ 1; omega⟩, by show (1 : Int) < 5; omega⟩
theorem Ok.le {s : Int × Int} (h : Ok s) : s.2 ≤ 1099511627776 := by have := h.2; omega
theorem Ok.next {s : Int × Int} (h : Ok s) {b : Int} (hb : Bit b) (hn : (runS s b).2 ≠ 5) : Ok (runS s b) := ⟨run_St h.1 h.le hb, by have := (run_le h.1 h.le b).2; have := h.2; omega⟩
def stuffGo : Int × Int → List Int → List Int
 | _, [] => []
 | s, b :: l => if (runS s b).2 = 5 then b :: (1 - b) :: stuffGo (1 - b, 1) l else b :: stuffGo (runS s b) l
def stuffE : Int × Int → List Int → Int × Int
 | s, [] => s
 | s, b :: l => if (runS s b).2 = 5 then stuffE (1 - b, 1) l else stuffE (runS s b) l
theorem foldl_stuff : ∀ (l : List Int) (out : List Int) (s : Int × Int), (∀ x ∈ l, Bit x) → l.foldl stuffStep (out, s) = (out ++ stuffGo s l, stuffE s l)
 | [], out, s, _ => by simp [stuffGo, stuffE]
 | b :: l, out, s, h => by
  have hb := h b (by simp)
  have hl : ∀ x ∈ l, Bit x := fun x hx => h x (by simp [hx])
  rw [List.foldl_cons, stuffGo, stuffE]
  by_cases c : (runS s b).2 = 5
  ·rw [show stuffStep (out, s) b = (out ++ [b] ++ [1 - b], (1 - b, 1)) by unfold stuffStep; rw [if_pos c, run_turn s hb, hb.turn.1], if_pos c, if_pos c, foldl_stuff l _ _ hl]; simp
  ·rw [show stuffStep (out, s) b = (out ++ [b], runS s b) by unfold stuffStep; rw [if_neg c], if_neg c, if_neg c, foldl_stuff l _ _ hl]; simp
theorem stuffB_go {l : List Int} (h : ∀ x ∈ l, Bit x) : stuffB l = stuffGo (-1, 0) l := by
 unfold stuffB stuffS; rw [foldl_stuff l [] (-1, 0) h, List.nil_append]
theorem stuffGo_append : ∀ (l m : List Int) (s : Int × Int), stuffGo s (l ++ m) = stuffGo s l ++ stuffGo (stuffE s l) m
 | [], m, s => rfl
 | b :: l, m, s => by
  rw [List.cons_append, stuffGo, stuffGo, stuffE]
  by_cases c : (runS s b).2 = 5
  ·rw [if_pos c, if_pos c, if_pos c, stuffGo_append l m]; rfl
  ·rw [if_neg c, if_neg c, if_neg c, stuffGo_append l m]; rfl
theorem stuffGo_bits : ∀ (l : List Int) (s : Int × Int), (∀ x ∈ l, Bit x) → ∀ x ∈ stuffGo s l, Bit x
 | [], _, _, x, hx => by simp [stuffGo] at hx
 | b :: l, s, h, x, hx => by
  have hb := h b (by simp)
  have hl : ∀ x ∈ l, Bit x := fun x hx => h x (by simp [hx])
  unfold stuffGo at hx
  by_cases c : (runS s b).2 = 5
  ·rw [if_pos c] at hx
   rcases List.mem_cons.mp hx with rfl | hx
   ·exact hb
   rcases List.mem_cons.mp hx with rfl | hx
   ·exact hb.turn.2
   ·exact stuffGo_bits l _ hl x hx
  ·rw [if_neg c] at hx
   rcases List.mem_cons.mp hx with rfl | hx
   ·exact hb
   ·exact stuffGo_bits l _ hl x hx
theorem stuffGo_len : ∀ (l : List Int) (s : Int × Int), l.length ≤ (stuffGo s l).length
 | [], _ => Nat.zero_le _
 | b :: l, s => by
  unfold stuffGo
  split
  ·have := stuffGo_len l (1 - b, 1); simp only [List.length_cons]; omega
  ·have := stuffGo_len l (runS s b); simp only [List.length_cons]; omega
end Go.Proofs.Ytechlakahpkdpaa.H

/- Words of this session's own over the print's words: a constant's bytes, which are read (the row bears the run-time's mark, so it is no row of the call's own). -/
import Derived.Test.YtlggjgabefjjoaaWWords
import Derived.Test.YtlggjgabefjjoaaWLast
import Derived.Test.YtlggjgabefjjoaaWMore
import Derived.Test.YtlggjgabefjjoaaHand
import Derived.Lib.SlBytesConst
set_option linter.unusedVariables false
set_option linter.unusedSimpArgs false
namespace Go.Proofs.Ytlggjgabefjjoaa.HW
open Go.RowKit Go.Proofs.YtlggjgabefjjoaaW.PrintWords

def RdV (w : World) (v : Value) (xs : List Int) : Prop := ∃ A c, v = .slice A xs.length c ∧ xs.length ≤ c ∧ Kd.C (Kd.int .u8) w A xs.length xs
theorem RdV.slice {w : World} {v : Value} {xs : List Int} (h : RdV w v xs) : ∃ A c, v = .slice A xs.length c := by
  obtain ⟨A, c, h, _⟩ := h
  exact ⟨A, c, h⟩
theorem RdV.reads {w : World} {A : Option Addr} {n c : Nat} {xs : List Int} (h : RdV w (.slice A n c) xs) : n = xs.length ∧ n ≤ c ∧ Kd.C (Kd.int .u8) w A xs.length xs := by
  obtain ⟨A', c', he, hc, hr⟩ := h
  injection he with h1 h2 h3
  subst h1 h2 h3
  exact ⟨rfl, hc, hr⟩
theorem RdV.below {w w1 : World} {v : Value} {xs : List Int} (h : RdV w v xs) (hb : Below w.heap.size w w1) : RdV w1 v xs := by
  obtain ⟨A, c, h, hc, hr⟩ := h
  exact ⟨A, c, h, hc, Kd.C_below hr hb⟩
theorem RdV.drew {w : World} {v : Value} {xs : List Int} (h : RdV w v xs) : RdV w.drew v xs := h.below (below_drew (Below.refl _ _))
theorem RdV.const (w : World) (e : TypeId) (n m : Nat) (xs : List Int) (cs : Array Value) (hcs : cs = (xs.map fun x => Value.int .u8 x).toArray) (hn : xs.length = n) (hm : n ≤ 9223372036854775807) (f : Nat × Nat) :
    RdV (w.alloc (.cells cs e f)) (.slice (some ⟨w.heap.size, 0, none⟩) n n) xs := by
  subst hn
  refine ⟨_, _, rfl, Nat.le_refl _, rfl, hm, fun _ => ⟨_, rfl, fun j p hj => ⟨[.int .u8 p], rfl, rfl, fun i u hu => ?_⟩⟩⟩
  have h1 : (w.alloc (.cells cs e f)).heap[w.heap.size]? = some (.cells cs e f) := heap_alloc_new w _
  have hi : i = 0 := by
    rcases Nat.eq_zero_or_pos i with h | h
    · exact h
    · rw [List.getElem?_eq_none (by simp; omega)] at hu; cases hu
  subst hi
  have hu' : u = .int .u8 p := by simpa using hu.symm
  subst hu'
  show (w.alloc _).cell? _ = _
  rw [show ((⟨w.heap.size, 0, none⟩ : Addr).add (j * (Kd.int .u8).sz + 0)) = ⟨w.heap.size, j, none⟩ by rw [add_plain]; congr 1; show j * 1 + 0 = j; omega]
  rw [cell_of_row _ _ j cs e f h1, hcs]
  simp [hj]
theorem len_as {P : Program} {f : Nat} {A : Option Addr} {c n m : Nat} {w : World} {Q : Ending → World → Prop} (h : m = n) (k : Calls P f #[.slice A m c] w Q) : Calls P f #[.slice A n c] w Q := h ▸ k
end Go.Proofs.Ytlggjgabefjjoaa.HW

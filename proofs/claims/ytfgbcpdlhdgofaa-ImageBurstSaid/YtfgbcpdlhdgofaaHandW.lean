/- Words of this session's own over the print's words: a constant's bytes, which are read (the row bears the run-time's mark, so it is no row of the call's own). -/
import Derived.Test.YtfgbcpdlhdgofaaWWords
import Derived.Test.YtfgbcpdlhdgofaaWLast
import Derived.Test.YtfgbcpdlhdgofaaWMore
import Derived.Test.YtfgbcpdlhdgofaaHand
import Derived.Lib.SlBytesConst
import Derived.Maps.AppendAt
import Derived.OwnWalk
import Derived.Lib.SliceRun
set_option linter.unusedVariables false
set_option linter.unusedSimpArgs false
namespace Go.Proofs.Ytfgbcpdlhdgofaa.HW
open Go.RowKit Go.Proofs.YtfgbcpdlhdgofaaW.PrintWords
def RdV (w : World) (v : Value) (xs : List Int) : Prop := ∃ A c, v = .slice A xs.length c ∧ xs.length ≤ c ∧ Kd.C (Kd.int .u8) w A xs.length xs
theorem RdV.slice {w : World} {v : Value} {xs : List Int} (h : RdV w v xs) : ∃ A c, v = .slice A xs.length c := by
  obtain ⟨A, c, h, _⟩ := h
  exact ⟨A, c, h⟩
theorem RdV.reads {w : World} {A : Option Addr} {n c : Nat} {xs : List Int} (h : RdV w (.slice A n c) xs) : n = xs.length ∧ n ≤ c ∧ Kd.C (Kd.int .u8) w A xs.length xs := by
  obtain ⟨A', c', he, hc, hr⟩ := h
  injection he with h1 h2 h3
  subst h1 h2 h3
  exact ⟨rfl, hc, hr⟩
theorem RdV.below {w w1 : World} {v : Value} {xs : List Int} (h : RdV w v xs) (hb : Below w.heap.size w w1) : RdV w1 v xs := by
  obtain ⟨A, c, h, hc, hr⟩ := h
  exact ⟨A, c, h, hc, Kd.C_below hr hb⟩
theorem RdV.drew {w : World} {v : Value} {xs : List Int} (h : RdV w v xs) : RdV w.drew v xs := h.below (below_drew (Below.refl _ _))
theorem RdV.const (w : World) (e : TypeId) (n m : Nat) (xs : List Int) (cs : Array Value) (hcs : cs = (xs.map fun x => Value.int .u8 x).toArray) (hn : xs.length = n) (hm : n ≤ 9223372036854775807) (f : Nat × Nat) :
    RdV (w.alloc (.cells cs e f)) (.slice (some ⟨w.heap.size, 0, none⟩) n n) xs := by
  subst hn
  refine ⟨_, _, rfl, Nat.le_refl _, rfl, hm, fun _ => ⟨_, rfl, fun j p hj => ⟨[.int .u8 p], rfl, rfl, fun i u hu => ?_⟩⟩⟩
  have h1 : (w.alloc (.cells cs e f)).heap[w.heap.size]? = some (.cells cs e f) := heap_alloc_new w _
  have hi : i = 0 := by
    rcases Nat.eq_zero_or_pos i with h | h
    · exact h
    · rw [List.getElem?_eq_none (by simp; omega)] at hu; cases hu
  subst hi
  have hu' : u = .int .u8 p := by simpa using hu.symm
  subst hu'
  show (w.alloc _).cell? _ = _
  rw [show ((⟨w.heap.size, 0, none⟩ : Addr).add (j * (Kd.int .u8).sz + 0)) = ⟨w.heap.size, j, none⟩ by rw [add_plain]; congr 1; show j * 1 + 0 = j; omega]
  rw [cell_of_row _ _ j cs e f h1, hcs]
  simp [hj]
section
variable {P : Program} {ops : Array Oper} {rest : List Oper} {o : Oper} {a : Act} {Q : Exit → Act → World → Prop}
theorem store_box {W : World} (hN : o.dst = none) (hgd : o.guard = none) (t : TypeId) (p x : Operand) (ho : o.op = .store t p x) {g tb : Nat} {cur cs : Array Value} (haddr : a.eval p = .pointer (some ⟨g, 0, none⟩)) (hx : a.eval x = .agg cs)
    (hb : W.heap[g]? = some (.cells cur tb (0, 0))) (hsz : cs.size = cur.size) (ht : (P.info? t).map (·.size) = some cs.size) (h1 : ∀ q ∈ cs.toList, q.oneCell' = true)
    (h : ∀ w1, w1 = W.setCells g 0 cs.toList → wpList P ops Q rest a w1) : wpList P ops Q (o :: rest) a W := by
  have hrun := run_store_run (P := P) (o := 0) t (.agg cs) cs.toList hb rfl (by rw [ht, Array.length_toList]) (by rw [Array.length_toList]; omega) h1
  refine wpList_plain hgd fun K hK => ?_
  unfold Oper.wp execOp
  simp only [ho, haddr, hx, Sem.run_bind, Sem.run_pure, Result.andThen_ok, hrun]
  show K (a.put o.dst undef) _
  rw [hN]
  exact hK _ _ (h _ rfl)
end
section
variable {P : Program} {ops : Array Oper} {rest : List Oper} {o : Oper} {a : Act} {Q : Exit → Act → World → Prop}
theorem setCells_all (g tb : Nat) (fr : Nat × Nat) : ∀ (cs pre post : List Value) {W : World} (_ : W.heap[g]? = some (.cells (pre ++ post).toArray tb fr)) (_ : post.length = cs.length), (W.setCells g pre.length cs).heap[g]? = some (.cells (pre ++ cs).toArray tb fr)
  | [], pre, post, W, h, hl => by
    have : post = [] := List.eq_nil_of_length_eq_zero hl
    subst this
    exact h
  | c :: cs, pre, [], W, h, hl => by simp at hl
  | c :: cs, pre, p :: post, W, h, hl => by
    have h1 : (W.setCell ⟨g, pre.length, none⟩ c).heap[g]? = some (.cells ((pre ++ [c]) ++ post).toArray tb fr) := by
      simp only [World.setCell, Array.getElem?_modify, if_true, h, Option.map_some]
      simp
    have h2 := setCells_all g tb fr cs (pre ++ [c]) post h1 (by simpa using hl)
    rw [World.setCells]
    rw [List.length_append, List.length_singleton] at h2
    rw [h2]
    simp
end
section
variable {P : Program} {ops : Array Oper} {rest : List Oper} {o : Oper} {a : Act} {Q : Exit → Act → World → Prop}
end
end Go.Proofs.Ytfgbcpdlhdgofaa.HW

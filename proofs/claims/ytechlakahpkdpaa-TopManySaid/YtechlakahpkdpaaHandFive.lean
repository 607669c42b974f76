/- A record of five cells stored into its box: what lies beside it, told once. -/
import Derived.Test.YtechlakahpkdpaaHandW
set_option linter.unusedVariables false
namespace Go.Proofs.Ytechlakahpkdpaa.HW
open Go.RowKit Go.Proofs.YtechlakahpkdpaaW.PrintWords
section
variable {α : Type} {d : Kd α} {e base g t : Nat} {ok : Nat → Prop} {W : World} {v u0 u1 u2 u3 u4 : Value} {xs : List α} {cells cs : Array Value}
theorem R_far5 (h : d.R e W base ok v xs) (hb : W.heap[g]? = some (.cells cells t (0, 0))) (hne : ∀ q, q ∈ e :: d.E → q ≠ t) : d.R e (((((W.setCell ⟨g, 0, none⟩ u0).setCell ⟨g, 1, none⟩ u1).setCell ⟨g, 2, none⟩ u2).setCell ⟨g, 3, none⟩ u3).setCell ⟨g, 4, none⟩ u4) base ok v xs :=
  Kd.R_set (Kd.R_set (Kd.R_set (Kd.R_set (Kd.R_set h hb hne 0 u0) (blk_set hb 0 u0) hne 1 u1) (blk_set (blk_set hb 0 u0) 1 u1) hne 2 u2) (blk_set (blk_set (blk_set hb 0 u0) 1 u1) 2 u2) hne 3 u3) (blk_set (blk_set (blk_set (blk_set hb 0 u0) 1 u1) 2 u2) 3 u3) hne 4 u4
theorem blk_far5 {g' : Nat} (h : W.heap[g']? = some (.cells cs t (0, 0))) (hn : g' ≠ g) : (((((W.setCell ⟨g, 0, none⟩ u0).setCell ⟨g, 1, none⟩ u1).setCell ⟨g, 2, none⟩ u2).setCell ⟨g, 3, none⟩ u3).setCell ⟨g, 4, none⟩ u4).heap[g']? = some (.cells cs t (0, 0)) :=
  blk_far (p := ⟨g, 4, none⟩) (blk_far (p := ⟨g, 3, none⟩) (blk_far (p := ⟨g, 2, none⟩) (blk_far (p := ⟨g, 1, none⟩) (blk_far (p := ⟨g, 0, none⟩) h hn u0) hn u1) hn u2) hn u3) hn u4
theorem blk_put5 (h : W.heap[g]? = some (.cells cs t (0, 0))) (hs : cs.size = 5) : (((((W.setCell ⟨g, 0, none⟩ u0).setCell ⟨g, 1, none⟩ u1).setCell ⟨g, 2, none⟩ u2).setCell ⟨g, 3, none⟩ u3).setCell ⟨g, 4, none⟩ u4).heap[g]? = some (.cells #[u0, u1, u2, u3, u4] t (0, 0)) := by
  obtain ⟨l, rfl⟩ : ∃ l : List Value, cs = l.toArray := ⟨cs.toList, rfl⟩
  match l, hs with
  | [a0, a1, a2, a3, a4], _ => exact blk_put (blk_put (blk_put (blk_put (blk_put h 0 u0 rfl) 1 u1 rfl) 2 u2 rfl) 3 u3 rfl) 4 u4 rfl
end
/-- Short names for what is unfolded often. -/
theorem LA (l : List Value) (i : Nat) (a : Value) : l.toArray.setIfInBounds i a = (l.set i a).toArray := by simp
theorem LZ (x a : Value) (l : List Value) : (x :: l).set 0 a = a :: l := rfl
theorem LS (x a : Value) (l : List Value) (n : Nat) : (x :: l).set (n + 1) a = x :: l.set n a := rfl
section
variable {P : Program} {ops : Array Oper} {rest : List Oper} {o : Oper} {a : Act} {Q : Exit → Act → World → Prop}
/-- A record of five cells stored into its box: the world told cell by cell, and what the box holds. -/
theorem store_box5 {W : World} (hN : o.dst = none) (hgd : o.guard = none) (t : TypeId) (p x : Operand) (ho : o.op = .store t p x) {g tb : Nat} {cur : Array Value} {u0 u1 u2 u3 u4 : Value} (haddr : a.eval p = .pointer (some ⟨g, 0, none⟩)) (hx : a.eval x = .agg #[u0, u1, u2, u3, u4])
    (hb : W.heap[g]? = some (.cells cur tb (0, 0))) (hsz : 5 = cur.size) (ht : (P.info? t).map (·.size) = some 5) (h0 : u0.oneCell' = true) (h1 : u1.oneCell' = true) (h2 : u2.oneCell' = true) (h3 : u3.oneCell' = true) (h4 : u4.oneCell' = true)
    (h : ∀ w1, w1 = ((((W.setCell ⟨g, 0, none⟩ u0).setCell ⟨g, 1, none⟩ u1).setCell ⟨g, 2, none⟩ u2).setCell ⟨g, 3, none⟩ u3).setCell ⟨g, 4, none⟩ u4 → w1.heap[g]? = some (.cells #[u0, u1, u2, u3, u4] tb (0, 0)) → wpList P ops Q rest a w1) : wpList P ops Q (o :: rest) a W := by
  refine store_box hN hgd t p x ho haddr hx hb hsz ht (by intro q hq; simp only [List.mem_cons, List.not_mem_nil, or_false] at hq; rcases hq with rfl | rfl | rfl | rfl | rfl <;> assumption) fun w1 hw1 => ?_
  simp only [World.setCells, Nat.zero_add, Nat.reduceAdd] at hw1
  refine h _ hw1 ?_
  subst hw1
  exact blk_put5 hb hsz.symm
end
/-- a times true, b times false. -/
def tf (a b : Nat) : Array Bool := (List.replicate a true ++ List.replicate b false).toArray
end Go.Proofs.Ytechlakahpkdpaa.HW

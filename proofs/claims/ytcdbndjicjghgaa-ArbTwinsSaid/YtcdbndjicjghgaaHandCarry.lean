/- What is read stays read over a call: the row's kind, place and list are known ahead of the proof that it is read in the call's world. -/
import Derived.Test.YtcdbndjicjghgaaHandW
set_option linter.unusedVariables false
namespace Go.Proofs.Ytcdbndjicjghgaa.HW
open Go.RowKit Go.Proofs.YtcdbndjicjghgaaW.PrintWords
theorem C_carry {α : Type} {d : Kd α} {A : Option Addr} {n : Nat} {xs : List α} {w0 w w1 : World} (h : d.C w0 A n xs) (hb : Below w.heap.size w w1) (hm : d.C w A n xs) : d.C w1 A n xs := Kd.C_below hm hb
/-- A row whose value was put into another one's element is still there: that one's block is another. -/
theorem R_keepv {α : Type} {d : Kd α} {e base : Nat} {ok : Nat → Prop} {w0 W w1 : World} {v u : Value} {xs : List α} (h : d.R e w0 base (fun k => ok k ∧ some k ≠ u.ownBlock) v xs) (hm : d.R e w0 base (fun k => ok k ∧ some k ≠ u.ownBlock) v xs → d.R e W base (fun k => ok k ∧ some k ≠ u.ownBlock) v xs) (hg : W.grownBy w1 u.ownBlock) : d.R e w1 base (fun _ => True) v xs :=
  Kd.R_mono (Kd.R_grown (hm h) hg (fun _ hk => hk.2)) (fun _ _ => trivial)
end Go.Proofs.Ytcdbndjicjghgaa.HW

/- What is read stays read over a call: the row's kind, place and list are known ahead of the proof that it is read in the call's world. -/
import Derived.Test.YtfgbcpdlhdgofaaHandW
set_option linter.unusedVariables false
namespace Go.Proofs.Ytfgbcpdlhdgofaa.HW
open Go.RowKit Go.Proofs.YtfgbcpdlhdgofaaW.PrintWords
theorem C_carry {α : Type} {d : Kd α} {A : Option Addr} {n : Nat} {xs : List α} {w0 w w1 : World} (h : d.C w0 A n xs) (hb : Below w.heap.size w w1) (hm : d.C w A n xs) : d.C w1 A n xs := Kd.C_below hm hb
end Go.Proofs.Ytfgbcpdlhdgofaa.HW

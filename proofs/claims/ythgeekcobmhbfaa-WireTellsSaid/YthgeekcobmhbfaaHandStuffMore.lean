/- More plain laws of this session's own on bits that are stuffed and stripped. No program in sight. -/
import Derived.Test.YthgeekcobmhbfaaHandStuffTell
set_option linter.unusedVariables false
set_option linter.unusedSimpArgs false
namespace Go.Proofs.Ythgeekcobmhbfaa.H
open Go.RowKit
def told : Int × Int → List Int → List Int
 | _, [] => []
 | s, b :: l => (runS s b).2 :: told (runS s b) l
def turn (l : List Int) : List Int := l.map fun x => wrap64 (1 - x)
end Go.Proofs.Ythgeekcobmhbfaa.H

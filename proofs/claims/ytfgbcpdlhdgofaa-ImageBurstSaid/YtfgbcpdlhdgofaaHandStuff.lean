/- Plain words of this session's own for bits that are stuffed, stripped, counted by runs. No program in sight. -/
import Derived.Test.YtfgbcpdlhdgofaaHandBits
set_option linter.unusedVariables false
set_option linter.unusedSimpArgs false
namespace Go.Proofs.Ytfgbcpdlhdgofaa.H
open Go.RowKit
end Go.Proofs.Ytfgbcpdlhdgofaa.H

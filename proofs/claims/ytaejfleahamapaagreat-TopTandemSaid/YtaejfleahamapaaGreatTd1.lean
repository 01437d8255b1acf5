/- . -/
import Derived.Lib.Hide
namespace Go.Proofs.YtaejfleahamapaaGreat
set_option linter.unusedVariables false
set_option linter.unusedSimpArgs false
section
open Go Go.RowKit
theorem aA{p:Prop}(h:p):Hid p:=Lib.hid h
end
end Go.Proofs.YtaejfleahamapaaGreat

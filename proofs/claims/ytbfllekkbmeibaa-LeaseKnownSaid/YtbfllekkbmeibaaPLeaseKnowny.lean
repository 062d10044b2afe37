import Derived.Test.YtbfllekkbmeibaaPLeaseKnownx3
import Derived.Test.YtbfllekkbmeibaaWOpen
namespace Go.Proofs.Ytbfllekkbmeibaa.PLeaseKnown
open Go.RowKit Go.Proofs.YtbfllekkbmeibaaW.PrintWords Go.Proofs.YtbfllekkbmeibaaW.PrintLast Go.Proofs.YtbfllekkbmeibaaW.PrintMore Go.Proofs.YtbfllekkbmeibaaW.PrintOpen
set_option linter.unusedVariables false
/-- The one pure statement of gazetteerlaw13_LeaseKnown. -/
def gazetteerlaw13_LeaseKnown.Pure : Prop := gazetteerlaw13_LeaseKnown.f  = some true
end Go.Proofs.Ytbfllekkbmeibaa.PLeaseKnown

import Derived.Test.YtbajekndbamcmaaPGroveNonex1
import Derived.Test.YtbajekndbamcmaaWOpen
namespace Go.Proofs.Ytbajekndbamcmaa.PGroveNone
open Go.RowKit Go.Proofs.YtbajekndbamcmaaW.PrintWords Go.Proofs.YtbajekndbamcmaaW.PrintLast Go.Proofs.YtbajekndbamcmaaW.PrintMore Go.Proofs.YtbajekndbamcmaaW.PrintOpen
set_option linter.unusedVariables false
/-- The one pure statement of gazetteerlaw6_GroveNone. -/
def gazetteerlaw6_GroveNone.Pure : Prop := gazetteerlaw6_GroveNone.f  = some true
end Go.Proofs.Ytbajekndbamcmaa.PGroveNone

import Derived.Test.YtbajekndbamcmaaPGroveRowsx1
import Derived.Test.YtbajekndbamcmaaWOpen
namespace Go.Proofs.Ytbajekndbamcmaa.PGroveRows
open Go.RowKit Go.Proofs.YtbajekndbamcmaaW.PrintWords Go.Proofs.YtbajekndbamcmaaW.PrintLast Go.Proofs.YtbajekndbamcmaaW.PrintMore Go.Proofs.YtbajekndbamcmaaW.PrintOpen
set_option linter.unusedVariables false
/-- The one pure statement of gazetteerlaw6_GroveRows. -/
def gazetteerlaw6_GroveRows.Pure : Prop := ∀ (a0 : Int) (a1 : Int) (a2 : Int), ((Lit.int .u16 a0).wf = true) → ((Lit.int .u8 a1).wf = true) → ((Lit.int .u16 a2).wf = true) → gazetteerlaw6_GroveRows.f a0 a1 a2 = some true
end Go.Proofs.Ytbajekndbamcmaa.PGroveRows

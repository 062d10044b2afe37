import Derived.Test.YtbajekndbamcmaaPAtlasKnownx6
import Derived.Test.YtbajekndbamcmaaWOpen
namespace Go.Proofs.Ytbajekndbamcmaa.PAtlasKnown
open Go.RowKit Go.Proofs.YtbajekndbamcmaaW.PrintWords Go.Proofs.YtbajekndbamcmaaW.PrintLast Go.Proofs.YtbajekndbamcmaaW.PrintMore Go.Proofs.YtbajekndbamcmaaW.PrintOpen
set_option linter.unusedVariables false
/-- The one pure statement of gazetteerlaw14_AtlasKnown. -/
def gazetteerlaw14_AtlasKnown.Pure : Prop := ∃ k, gazetteerlaw14_AtlasKnown.f k  = some true
end Go.Proofs.Ytbajekndbamcmaa.PAtlasKnown

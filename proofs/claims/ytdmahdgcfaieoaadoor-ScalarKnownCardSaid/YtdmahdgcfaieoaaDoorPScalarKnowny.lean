import Derived.Test.YtdmahdgcfaieoaaDoorPScalarKnownx2
import Derived.Test.YtdmahdgcfaieoaaDoorWOpen
namespace Go.Proofs.YtdmahdgcfaieoaaDoor.PScalarKnown
open Go.RowKit Go.Proofs.YtdmahdgcfaieoaaDoorW.PrintWords Go.Proofs.YtdmahdgcfaieoaaDoorW.PrintLast Go.Proofs.YtdmahdgcfaieoaaDoorW.PrintMore Go.Proofs.YtdmahdgcfaieoaaDoorW.PrintOpen
set_option linter.unusedVariables false
/-- The one pure statement of gazetteerlaw1_ScalarKnown. -/
def gazetteerlaw1_ScalarKnown.Pure : Prop := ∃ k, gazetteerlaw1_ScalarKnown.f k  = some true
end Go.Proofs.YtdmahdgcfaieoaaDoor.PScalarKnown

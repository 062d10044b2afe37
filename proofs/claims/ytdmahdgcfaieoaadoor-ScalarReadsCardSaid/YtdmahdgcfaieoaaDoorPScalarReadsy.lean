import Derived.Test.YtdmahdgcfaieoaaDoorPScalarReadsx4
import Derived.Test.YtdmahdgcfaieoaaDoorWOpen
namespace Go.Proofs.YtdmahdgcfaieoaaDoor.PScalarReads
open Go.RowKit Go.Proofs.YtdmahdgcfaieoaaDoorW.PrintWords Go.Proofs.YtdmahdgcfaieoaaDoorW.PrintLast Go.Proofs.YtdmahdgcfaieoaaDoorW.PrintMore Go.Proofs.YtdmahdgcfaieoaaDoorW.PrintOpen
set_option linter.unusedVariables false
/-- The one pure statement of gazetteerlaw1_ScalarReads. -/
def gazetteerlaw1_ScalarReads.Pure : Prop := ∀ (a0 : ByteArray), (a0.size ≤ 140737488351232) → ∃ k, gazetteerlaw1_ScalarReads.f k a0 = some true
end Go.Proofs.YtdmahdgcfaieoaaDoor.PScalarReads

import Derived.Test.YtdmahdgcfaieoaaDoorPScalarCutsx2
import Derived.Test.YtdmahdgcfaieoaaDoorWOpen
namespace Go.Proofs.YtdmahdgcfaieoaaDoor.PScalarCuts
open Go.RowKit Go.Proofs.YtdmahdgcfaieoaaDoorW.PrintWords Go.Proofs.YtdmahdgcfaieoaaDoorW.PrintLast Go.Proofs.YtdmahdgcfaieoaaDoorW.PrintMore Go.Proofs.YtdmahdgcfaieoaaDoorW.PrintOpen
set_option linter.unusedVariables false
/-- The one pure statement of gazetteerlaw1_ScalarCuts. -/
def gazetteerlaw1_ScalarCuts.Pure : Prop := ∀ (l0 : List Int) (a1 : Int), (l0.length ≤ maxLen ∧ l0.length * 4 ≤ 140737488351232 ∧ ∀ y_l0 ∈ l0, (Lit.int .i32 y_l0).wf = true) → ((Lit.int .u16 a1).wf = true) → ∃ k, gazetteerlaw1_ScalarCuts.f k l0 a1 = some true
end Go.Proofs.YtdmahdgcfaieoaaDoor.PScalarCuts

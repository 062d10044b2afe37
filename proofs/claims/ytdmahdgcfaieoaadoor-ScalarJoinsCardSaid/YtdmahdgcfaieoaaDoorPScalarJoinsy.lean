import Derived.Test.YtdmahdgcfaieoaaDoorPScalarJoinsx3
import Derived.Test.YtdmahdgcfaieoaaDoorWOpen
namespace Go.Proofs.YtdmahdgcfaieoaaDoor.PScalarJoins
open Go.RowKit Go.Proofs.YtdmahdgcfaieoaaDoorW.PrintWords Go.Proofs.YtdmahdgcfaieoaaDoorW.PrintLast Go.Proofs.YtdmahdgcfaieoaaDoorW.PrintMore Go.Proofs.YtdmahdgcfaieoaaDoorW.PrintOpen
set_option linter.unusedVariables false
/-- The one pure statement of gazetteerlaw1_ScalarJoins. -/
def gazetteerlaw1_ScalarJoins.Pure : Prop := ∀ (l0 : List Int) (l1 : List Int), (l0.length ≤ maxLen ∧ l0.length * 4 ≤ 140737488351232 ∧ ∀ y_l0 ∈ l0, (Lit.int .i32 y_l0).wf = true) → (l1.length ≤ maxLen ∧ l1.length * 4 ≤ 140737488351232 ∧ ∀ y_l1 ∈ l1, (Lit.int .i32 y_l1).wf = true) → ∃ k, gazetteerlaw1_ScalarJoins.f k l0 l1 = some true
end Go.Proofs.YtdmahdgcfaieoaaDoor.PScalarJoins

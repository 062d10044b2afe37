import Derived.Test.YtdmahdgcfaieoaaDoorPScalarWritesx3
import Derived.Test.YtdmahdgcfaieoaaDoorWOpen
namespace Go.Proofs.YtdmahdgcfaieoaaDoor.PScalarWrites
open Go.RowKit Go.Proofs.YtdmahdgcfaieoaaDoorW.PrintWords Go.Proofs.YtdmahdgcfaieoaaDoorW.PrintLast Go.Proofs.YtdmahdgcfaieoaaDoorW.PrintMore Go.Proofs.YtdmahdgcfaieoaaDoorW.PrintOpen
set_option linter.unusedVariables false
/-- The one pure statement of gazetteerlaw1_ScalarWrites. -/
def gazetteerlaw1_ScalarWrites.Pure : Prop := ∀ (l0 : List Int) (a1 : ByteArray) (a2 : ByteArray), (l0.length ≤ maxLen ∧ l0.length * 4 ≤ 140737488351232 ∧ ∀ y_l0 ∈ l0, (Lit.int .i32 y_l0).wf = true) → (a1.size ≤ 140737488351232) → (a2.size ≤ 140737488351232) → ∃ k, gazetteerlaw1_ScalarWrites.f k l0 a1 a2 = some true
end Go.Proofs.YtdmahdgcfaieoaaDoor.PScalarWrites

import Derived.Test.YtdmahdgcfaieoaaPLoreMarksx4
import Derived.Test.YtdmahdgcfaieoaaWOpen
namespace Go.Proofs.Ytdmahdgcfaieoaa.PLoreMarks
open Go.RowKit Go.Proofs.YtdmahdgcfaieoaaW.PrintWords Go.Proofs.YtdmahdgcfaieoaaW.PrintLast Go.Proofs.YtdmahdgcfaieoaaW.PrintMore Go.Proofs.YtdmahdgcfaieoaaW.PrintOpen
set_option linter.unusedVariables false
/-- The one pure statement of gazetteerlaw2_LoreMarks. -/
def gazetteerlaw2_LoreMarks.Pure : Prop := ∀ (l0 : List Int), (l0.length ≤ maxLen ∧ l0.length * 1 ≤ 140737488351232 ∧ ∀ y_l0 ∈ l0, (Lit.int .u8 y_l0).wf = true) → ∃ k, gazetteerlaw2_LoreMarks.f k l0 = some true
end Go.Proofs.Ytdmahdgcfaieoaa.PLoreMarks

import Derived.Test.YtdmahdgcfaieoaaPLoreKnownx4
import Derived.Test.YtdmahdgcfaieoaaWOpen
namespace Go.Proofs.Ytdmahdgcfaieoaa.PLoreKnown
open Go.RowKit Go.Proofs.YtdmahdgcfaieoaaW.PrintWords Go.Proofs.YtdmahdgcfaieoaaW.PrintLast Go.Proofs.YtdmahdgcfaieoaaW.PrintMore Go.Proofs.YtdmahdgcfaieoaaW.PrintOpen
set_option linter.unusedVariables false
/-- The one pure statement of gazetteerlaw2_LoreKnown. -/
def gazetteerlaw2_LoreKnown.Pure : Prop := ∃ k, gazetteerlaw2_LoreKnown.f k  = some true
end Go.Proofs.Ytdmahdgcfaieoaa.PLoreKnown

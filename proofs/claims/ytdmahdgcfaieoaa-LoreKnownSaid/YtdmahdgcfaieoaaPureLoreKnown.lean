/- LoreKnown, the plain law over the printed functions: it is computed. No condition. -/
import Derived.Test.YtdmahdgcfaieoaaPLoreKnowny
namespace Go.Proofs.Ytdmahdgcfaieoaa.Pure
set_option linter.unusedVariables false
set_option linter.unusedSimpArgs false
open Go.RowKit Go.Proofs.Ytdmahdgcfaieoaa.PLoreKnown Go.Proofs.YtdmahdgcfaieoaaW.PrintWords Go.Proofs.YtdmahdgcfaieoaaW.PrintLast Go.Proofs.YtdmahdgcfaieoaaW.PrintMore
set_option maxRecDepth 100000 in
theorem LoreKnown : gazetteerlaw2_LoreKnown.Pure := ⟨50, by kernel_rfl⟩
end Go.Proofs.Ytdmahdgcfaieoaa.Pure

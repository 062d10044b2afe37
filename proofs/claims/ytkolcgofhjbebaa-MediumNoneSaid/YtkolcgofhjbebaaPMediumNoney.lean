import Derived.Test.YtkolcgofhjbebaaPMediumNonex1
import Derived.Test.YtkolcgofhjbebaaWOpen
namespace Go.Proofs.Ytkolcgofhjbebaa.PMediumNone
open Go.RowKit Go.Proofs.YtkolcgofhjbebaaW.PrintWords Go.Proofs.YtkolcgofhjbebaaW.PrintLast Go.Proofs.YtkolcgofhjbebaaW.PrintMore Go.Proofs.YtkolcgofhjbebaaW.PrintOpen
set_option linter.unusedVariables false
/-- The one pure statement of gazetteerlaw10_MediumNone. -/
def gazetteerlaw10_MediumNone.Pure : Prop := gazetteerlaw10_MediumNone.f  = some true
end Go.Proofs.Ytkolcgofhjbebaa.PMediumNone

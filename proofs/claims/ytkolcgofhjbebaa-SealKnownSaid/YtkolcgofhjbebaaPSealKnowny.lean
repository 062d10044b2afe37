import Derived.Test.YtkolcgofhjbebaaPSealKnownx2
import Derived.Test.YtkolcgofhjbebaaWOpen
namespace Go.Proofs.Ytkolcgofhjbebaa.PSealKnown
open Go.RowKit Go.Proofs.YtkolcgofhjbebaaW.PrintWords Go.Proofs.YtkolcgofhjbebaaW.PrintLast Go.Proofs.YtkolcgofhjbebaaW.PrintMore Go.Proofs.YtkolcgofhjbebaaW.PrintOpen
set_option linter.unusedVariables false
/-- The one pure statement of gazetteerlaw8_SealKnown. -/
def gazetteerlaw8_SealKnown.Pure : Prop := ∃ k, gazetteerlaw8_SealKnown.f k  = some true
end Go.Proofs.Ytkolcgofhjbebaa.PSealKnown

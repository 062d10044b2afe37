import Derived.Test.YtkolcgofhjbebaaPMediumHandsx1
import Derived.Test.YtkolcgofhjbebaaWOpen
namespace Go.Proofs.Ytkolcgofhjbebaa.PMediumHands
open Go.RowKit Go.Proofs.YtkolcgofhjbebaaW.PrintWords Go.Proofs.YtkolcgofhjbebaaW.PrintLast Go.Proofs.YtkolcgofhjbebaaW.PrintMore Go.Proofs.YtkolcgofhjbebaaW.PrintOpen
set_option linter.unusedVariables false
/-- The one pure statement of gazetteerlaw10_MediumHands. -/
def gazetteerlaw10_MediumHands.Pure : Prop := ∀ (l0 : List Int) (l1 : List Int), (l0.length ≤ maxLen ∧ l0.length * 1 ≤ 140737488351232 ∧ ∀ y_l0 ∈ l0, (Lit.int .u8 y_l0).wf = true) → (l1.length ≤ maxLen ∧ l1.length * 1 ≤ 140737488351232 ∧ ∀ y_l1 ∈ l1, (Lit.int .u8 y_l1).wf = true) → gazetteerlaw10_MediumHands.f l0 l1 = some true
end Go.Proofs.Ytkolcgofhjbebaa.PMediumHands

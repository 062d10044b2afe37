import Derived.Test.YtkolcgofhjbebaaPSealCutsx2
import Derived.Test.YtkolcgofhjbebaaWOpen
namespace Go.Proofs.Ytkolcgofhjbebaa.PSealCuts
open Go.RowKit Go.Proofs.YtkolcgofhjbebaaW.PrintWords Go.Proofs.YtkolcgofhjbebaaW.PrintLast Go.Proofs.YtkolcgofhjbebaaW.PrintMore Go.Proofs.YtkolcgofhjbebaaW.PrintOpen
set_option linter.unusedVariables false
/-- The one pure statement of gazetteerlaw8_SealCuts. -/
def gazetteerlaw8_SealCuts.Pure : Prop := ∀ (l0 : List (List Int)) (a1 : Int) (a2_0 : Int) (a2_1 : Int), (l0.length ≤ maxLen ∧ l0.length * 24 ≤ 140737488351232 ∧ ∀ y_l0 ∈ l0, y_l0.length ≤ maxLen ∧ y_l0.length * 1 ≤ 140737488351232 ∧ ∀ y_y_l0 ∈ y_l0, (Lit.int .u8 y_y_l0).wf = true) → ((Lit.int .u16 a1).wf = true) → ((Lit.int .u16 a2_0).wf = true) → ((Lit.int .u16 a2_1).wf = true) → ∃ k, gazetteerlaw8_SealCuts.f k l0 a1 a2_0 a2_1 = some true
end Go.Proofs.Ytkolcgofhjbebaa.PSealCuts

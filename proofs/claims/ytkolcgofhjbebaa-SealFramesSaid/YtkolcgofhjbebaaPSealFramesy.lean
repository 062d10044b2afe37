import Derived.Test.YtkolcgofhjbebaaPSealFramesx2
import Derived.Test.YtkolcgofhjbebaaWOpen
namespace Go.Proofs.Ytkolcgofhjbebaa.PSealFrames
open Go.RowKit Go.Proofs.YtkolcgofhjbebaaW.PrintWords Go.Proofs.YtkolcgofhjbebaaW.PrintLast Go.Proofs.YtkolcgofhjbebaaW.PrintMore Go.Proofs.YtkolcgofhjbebaaW.PrintOpen
set_option linter.unusedVariables false
/-- The one pure statement of gazetteerlaw8_SealFrames. -/
def gazetteerlaw8_SealFrames.Pure : Prop := ∀ (a0 : Int) (l1 : List Int) (l2 : List Int), ((Lit.int .u8 a0).wf = true) → (l1.length ≤ maxLen ∧ l1.length * 1 ≤ 140737488351232 ∧ ∀ y_l1 ∈ l1, (Lit.int .u8 y_l1).wf = true) → (l2.length ≤ maxLen ∧ l2.length * 1 ≤ 140737488351232 ∧ ∀ y_l2 ∈ l2, (Lit.int .u8 y_l2).wf = true) → ∃ k, gazetteerlaw8_SealFrames.f k a0 l1 l2 = some true
end Go.Proofs.Ytkolcgofhjbebaa.PSealFrames

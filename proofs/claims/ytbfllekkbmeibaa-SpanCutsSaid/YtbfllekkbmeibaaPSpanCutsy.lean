import Derived.Test.YtbfllekkbmeibaaPSpanCutsx4
import Derived.Test.YtbfllekkbmeibaaWOpen
namespace Go.Proofs.Ytbfllekkbmeibaa.PSpanCuts
open Go.RowKit Go.Proofs.YtbfllekkbmeibaaW.PrintWords Go.Proofs.YtbfllekkbmeibaaW.PrintLast Go.Proofs.YtbfllekkbmeibaaW.PrintMore Go.Proofs.YtbfllekkbmeibaaW.PrintOpen
set_option linter.unusedVariables false
/-- The one pure statement of gazetteerlaw5_SpanCuts. -/
def gazetteerlaw5_SpanCuts.Pure : Prop := ∀ (l0 : List ByteArray) (a1 : ByteArray), (l0.length ≤ maxLen ∧ l0.length * 16 ≤ 140737488351232 ∧ ∀ y_l0 ∈ l0, y_l0.size ≤ 140737488351232) → (a1.size ≤ 140737488351232) → ∃ k, gazetteerlaw5_SpanCuts.f k l0 a1 = some true
end Go.Proofs.Ytbfllekkbmeibaa.PSpanCuts

import Derived.Test.YtbajekndbamcmaaPGroveTextsx1
import Derived.Test.YtbajekndbamcmaaWOpen
namespace Go.Proofs.Ytbajekndbamcmaa.PGroveTexts
open Go.RowKit Go.Proofs.YtbajekndbamcmaaW.PrintWords Go.Proofs.YtbajekndbamcmaaW.PrintLast Go.Proofs.YtbajekndbamcmaaW.PrintMore Go.Proofs.YtbajekndbamcmaaW.PrintOpen
set_option linter.unusedVariables false
/-- The one pure statement of gazetteerlaw6_GroveTexts. -/
def gazetteerlaw6_GroveTexts.Pure : Prop := ∀ (l0 : List ByteArray) (a1 : ByteArray) (a2 : Int), (l0.length ≤ maxLen ∧ l0.length * 16 ≤ 140737488351232 ∧ ∀ y_l0 ∈ l0, y_l0.size ≤ 140737488351232) → (a1.size ≤ 140737488351232) → ((Lit.int .u8 a2).wf = true) → gazetteerlaw6_GroveTexts.f l0 a1 a2 = some true
end Go.Proofs.Ytbajekndbamcmaa.PGroveTexts

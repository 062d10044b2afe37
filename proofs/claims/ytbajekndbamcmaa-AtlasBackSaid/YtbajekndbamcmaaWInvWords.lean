-- cut down by a program of this session (wip/tools/trimwords.py) from printed words: what this claim names, and no more
import Derived.Test.YtbajekndbamcmaaWInv
import Derived.Test.YtbajekndbamcmaaWFootNe
namespace Go.Proofs.YtbajekndbamcmaaW.PrintWords
open Go.RowKit
end Go.Proofs.YtbajekndbamcmaaW.PrintWords
namespace Go.Proofs.YtbajekndbamcmaaW.PrintLast
section
variable {ops : Array Oper} {a : Act} {o og : Oper} {g : Nat} {t : Tmp} {u : Bool}
end
end Go.Proofs.YtbajekndbamcmaaW.PrintLast

-- cut down by a program of this session (wip/tools/trimwords.py) from printed words: what this claim names, and no more
import Derived.Test.YtdmahdgcfaieoaaWInv
import Derived.Test.YtdmahdgcfaieoaaWFootNe
namespace Go.Proofs.YtdmahdgcfaieoaaW.PrintWords
open Go.RowKit
end Go.Proofs.YtdmahdgcfaieoaaW.PrintWords
namespace Go.Proofs.YtdmahdgcfaieoaaW.PrintLast
section
variable {ops : Array Oper} {a : Act} {o og : Oper} {g : Nat} {t : Tmp} {u : Bool}
end
end Go.Proofs.YtdmahdgcfaieoaaW.PrintLast

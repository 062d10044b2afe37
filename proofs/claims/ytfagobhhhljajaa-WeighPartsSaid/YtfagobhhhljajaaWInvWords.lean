-- cut down by a program of this session (wip/tools/trimwords.py) from printed words: what this claim names, and no more
import Derived.Test.YtfagobhhhljajaaWInv
import Derived.Test.YtfagobhhhljajaaWFootNe
namespace Go.Proofs.YtfagobhhhljajaaW.PrintWords
open Go.RowKit
end Go.Proofs.YtfagobhhhljajaaW.PrintWords
namespace Go.Proofs.YtfagobhhhljajaaW.PrintLast
section
variable {ops : Array Oper} {a : Act} {o og : Oper} {g : Nat} {t : Tmp} {u : Bool}
end
end Go.Proofs.YtfagobhhhljajaaW.PrintLast

-- cut down by a program of this session (wip/tools/trimwords.py) from printed words: what this claim names, and no more
import Derived.Test.YtdmahdgcfaieoaaWWords
import Derived.Laws.StructEq
namespace Go.Proofs.YtdmahdgcfaieoaaW.PrintWords
open Go.RowKit
section
variable {P : Program} {d : Nat} {xs ys : Array Value} {f : Field} {fs : List Field} {a b : Value} {r s : Bool} {w : World}
end
end Go.Proofs.YtdmahdgcfaieoaaW.PrintWords

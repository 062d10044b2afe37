-- cut down by a program of this session (wip/tools/trimwords.py) from printed words: what this claim names, and no more
import Derived.Test.YtfagobhhhljajaaWLast
import Derived.Test.YtfagobhhhljajaaWWords
namespace Go.Proofs.YtfagobhhhljajaaW.PrintLast
open Go.Proofs.YtfagobhhhljajaaW.PrintWords (Aside0)
section
variable {md : Region.Mode} {ops : Array Oper} {T : Bool × List (List Nat × List Nat)} {l l' li lj lk : Array Bool} {ds : List Nat} {i j k : Nat}
end
end Go.Proofs.YtfagobhhhljajaaW.PrintLast

-- cut down by a program of this session (wip/tools/trimwords.py) from printed words: what this claim names, and no more
import Derived.Test.YtfagobhhhljajaaWMore
import Derived.Test.YtfagobhhhljajaaWFn
import Derived.Lib.SlBytesConst
namespace Go.Proofs.YtfagobhhhljajaaW.PrintMore
open Go.RowKit Go.Proofs.YtfagobhhhljajaaW.PrintWords
end Go.Proofs.YtfagobhhhljajaaW.PrintMore

-- cut down by a program of this session (wip/tools/trimwords.py) from printed words: what this claim names, and no more
import Derived.Test.YtdmahdgcfaieoaaWMore
import Derived.Test.YtdmahdgcfaieoaaWFn
import Derived.Lib.SlBytesConst
namespace Go.Proofs.YtdmahdgcfaieoaaW.PrintMore
open Go.RowKit Go.Proofs.YtdmahdgcfaieoaaW.PrintWords
end Go.Proofs.YtdmahdgcfaieoaaW.PrintMore

/- ScalarKnown, the plain law over the printed functions: texts by hand: the borders of each length, what is none. No condition. -/
import Derived.Test.YtdmahdgcfaieoaaDoorPScalarKnowny
namespace Go.Proofs.YtdmahdgcfaieoaaDoor.Pure
open Go.RowKit Go.Proofs.YtdmahdgcfaieoaaDoor.PScalarKnown Go.Proofs.YtdmahdgcfaieoaaDoorW.PrintWords Go.Proofs.YtdmahdgcfaieoaaDoorW.PrintLast Go.Proofs.YtdmahdgcfaieoaaDoorW.PrintMore
theorem ScalarKnown : gazetteerlaw1_ScalarKnown.Pure := ⟨60, by kernel_rfl⟩
end Go.Proofs.YtdmahdgcfaieoaaDoor.Pure

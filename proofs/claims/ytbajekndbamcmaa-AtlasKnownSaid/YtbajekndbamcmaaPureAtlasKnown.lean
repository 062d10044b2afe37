/- AtlasKnown, the plain law over the printed functions: no input: the kernel reckons it. No condition. -/
import Derived.Test.YtbajekndbamcmaaPAtlasKnowny
import Derived.KernelRfl
namespace Go.Proofs.Ytbajekndbamcmaa.Pure
open Go.RowKit Go.Proofs.Ytbajekndbamcmaa.PAtlasKnown

set_option maxRecDepth 100000 in
theorem AtlasKnown : gazetteerlaw14_AtlasKnown.Pure := ⟨120, by kernel_rfl⟩

end Go.Proofs.Ytbajekndbamcmaa.Pure

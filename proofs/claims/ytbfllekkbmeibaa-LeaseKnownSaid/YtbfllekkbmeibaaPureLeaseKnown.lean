/- LeaseKnown, the plain law over the printed functions: leases by hand. No condition. -/
import Derived.Test.YtbfllekkbmeibaaPLeaseKnowny
namespace Go.Proofs.Ytbfllekkbmeibaa.Pure
open Go.RowKit Go.Proofs.Ytbfllekkbmeibaa.PLeaseKnown Go.Proofs.YtbfllekkbmeibaaW.PrintWords Go.Proofs.YtbfllekkbmeibaaW.PrintLast Go.Proofs.YtbfllekkbmeibaaW.PrintMore

theorem LeaseKnown : gazetteerlaw13_LeaseKnown.Pure := by
  show gazetteerlaw13_LeaseKnown.f = some true
  decide +kernel

end Go.Proofs.Ytbfllekkbmeibaa.Pure

/- GroveNone, the plain law: what the walk by hand shows is all of it. No condition. -/
import Derived.Test.YtbajekndbamcmaaPGroveNoney
namespace Go.Proofs.Ytbajekndbamcmaa.Pure
open Go.RowKit Go.Proofs.Ytbajekndbamcmaa.PGroveNone Go.Proofs.YtbajekndbamcmaaW.PrintWords Go.Proofs.YtbajekndbamcmaaW.PrintLast Go.Proofs.YtbajekndbamcmaaW.PrintMore

theorem GroveNone : gazetteerlaw6_GroveNone.Pure := by
  show gazetteerlaw6_GroveNone.f = some true
  rfl

end Go.Proofs.Ytbajekndbamcmaa.Pure

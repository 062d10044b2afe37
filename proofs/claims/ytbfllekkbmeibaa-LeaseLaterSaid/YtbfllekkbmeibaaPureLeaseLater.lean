/- LeaseLater, the plain law: what the walk by hand shows is all of it. No condition. -/
import Derived.Test.YtbfllekkbmeibaaPLeaseLatery
namespace Go.Proofs.Ytbfllekkbmeibaa.Pure
open Go.RowKit Go.Proofs.Ytbfllekkbmeibaa.PLeaseLater Go.Proofs.YtbfllekkbmeibaaW.PrintWords Go.Proofs.YtbfllekkbmeibaaW.PrintLast Go.Proofs.YtbfllekkbmeibaaW.PrintMore
set_option linter.unusedVariables false

theorem LeaseLater : gazetteerlaw13_LeaseLater.Pure := by
  unfold gazetteerlaw13_LeaseLater.Pure
  intros
  rfl

end Go.Proofs.Ytbfllekkbmeibaa.Pure

/- MediumHands, the plain law: what the walk by hand shows is all of it. No condition. -/
import Derived.Test.YtkolcgofhjbebaaPMediumHandsy
namespace Go.Proofs.Ytkolcgofhjbebaa.Pure
open Go.RowKit Go.Proofs.Ytkolcgofhjbebaa.PMediumHands Go.Proofs.YtkolcgofhjbebaaW.PrintWords Go.Proofs.YtkolcgofhjbebaaW.PrintLast Go.Proofs.YtkolcgofhjbebaaW.PrintMore
set_option linter.unusedVariables false

theorem MediumHands : gazetteerlaw10_MediumHands.Pure := by
  unfold gazetteerlaw10_MediumHands.Pure
  intros
  rfl

end Go.Proofs.Ytkolcgofhjbebaa.Pure

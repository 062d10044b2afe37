/- MediumKeeps, the plain law: what the walk by hand shows is all of it. No condition. -/
import Derived.Test.YtkolcgofhjbebaaPMediumKeepsy
namespace Go.Proofs.Ytkolcgofhjbebaa.Pure
open Go.RowKit Go.Proofs.Ytkolcgofhjbebaa.PMediumKeeps Go.Proofs.YtkolcgofhjbebaaW.PrintWords Go.Proofs.YtkolcgofhjbebaaW.PrintLast Go.Proofs.YtkolcgofhjbebaaW.PrintMore
set_option linter.unusedVariables false

theorem MediumKeeps : gazetteerlaw10_MediumKeeps.Pure := by
  unfold gazetteerlaw10_MediumKeeps.Pure
  intros
  rfl

end Go.Proofs.Ytkolcgofhjbebaa.Pure

/- MediumNone, the plain law: what the walk by hand shows is all of it. No condition. -/
import Derived.Test.YtkolcgofhjbebaaPMediumNoney
namespace Go.Proofs.Ytkolcgofhjbebaa.Pure
open Go.RowKit Go.Proofs.Ytkolcgofhjbebaa.PMediumNone Go.Proofs.YtkolcgofhjbebaaW.PrintWords Go.Proofs.YtkolcgofhjbebaaW.PrintLast Go.Proofs.YtkolcgofhjbebaaW.PrintMore

theorem MediumNone : gazetteerlaw10_MediumNone.Pure := by
  show gazetteerlaw10_MediumNone.f = some true
  rfl

end Go.Proofs.Ytkolcgofhjbebaa.Pure

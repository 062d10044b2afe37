import Derived.Test.YtbfllekkbmeibaaPLeaseLaterx2
import Derived.Test.YtbfllekkbmeibaaWOpen
namespace Go.Proofs.Ytbfllekkbmeibaa.PLeaseLater
open Go.RowKit Go.Proofs.YtbfllekkbmeibaaW.PrintWords Go.Proofs.YtbfllekkbmeibaaW.PrintLast Go.Proofs.YtbfllekkbmeibaaW.PrintMore Go.Proofs.YtbfllekkbmeibaaW.PrintOpen
set_option linter.unusedVariables false
/-- The one pure statement of gazetteerlaw13_LeaseLater. -/
def gazetteerlaw13_LeaseLater.Pure : Prop := ∀ (a0_0 : Int) (a0_1 : Int) (a0_2 : Int) (a1_0 : Int) (a1_1 : Int) (a1_2 : Int) (a2_0 : Int) (a2_1 : Int) (a2_2 : Int), ((Lit.int .i64 a0_0).wf = true) → ((Lit.int .i64 a0_1).wf = true) → ((Lit.int .i64 a0_2).wf = true) → ((Lit.int .i64 a1_0).wf = true) → ((Lit.int .i64 a1_1).wf = true) → ((Lit.int .i64 a1_2).wf = true) → ((Lit.int .i64 a2_0).wf = true) → ((Lit.int .i64 a2_1).wf = true) → ((Lit.int .i64 a2_2).wf = true) → gazetteerlaw13_LeaseLater.f a0_0 a0_1 a0_2 a1_0 a1_1 a1_2 a2_0 a2_1 a2_2 = some true
end Go.Proofs.Ytbfllekkbmeibaa.PLeaseLater

import Derived.Test.YtbfllekkbmeibaaPLeaseEndsx3
import Derived.Test.YtbfllekkbmeibaaWOpen
namespace Go.Proofs.Ytbfllekkbmeibaa.PLeaseEnds
open Go.RowKit Go.Proofs.YtbfllekkbmeibaaW.PrintWords Go.Proofs.YtbfllekkbmeibaaW.PrintLast Go.Proofs.YtbfllekkbmeibaaW.PrintMore Go.Proofs.YtbfllekkbmeibaaW.PrintOpen
set_option linter.unusedVariables false
/-- The one pure statement of gazetteerlaw13_LeaseEnds. -/
def gazetteerlaw13_LeaseEnds.Pure : Prop := ∀ (a0_0 : Int) (a0_1 : Int) (a0_2 : Int) (a1 : Int) (a2_0 : Int) (a2_1 : Int), ((Lit.int .i64 a0_0).wf = true) → ((Lit.int .i64 a0_1).wf = true) → ((Lit.int .i64 a0_2).wf = true) → ((Lit.int .u32 a1).wf = true) → ((Lit.int .i16 a2_0).wf = true) → ((Lit.int .i16 a2_1).wf = true) → ∃ k, gazetteerlaw13_LeaseEnds.f k a0_0 a0_1 a0_2 a1 a2_0 a2_1 = some true
end Go.Proofs.Ytbfllekkbmeibaa.PLeaseEnds

import Derived.Test.YtfagobhhhljajaaPWeighImpliedx13
import Derived.Test.YtfagobhhhljajaaWOpen
namespace Go.Proofs.Ytfagobhhhljajaa.PWeighImplied
open Go.RowKit Go.Proofs.YtfagobhhhljajaaW.PrintWords Go.Proofs.YtfagobhhhljajaaW.PrintLast Go.Proofs.YtfagobhhhljajaaW.PrintMore Go.Proofs.YtfagobhhhljajaaW.PrintOpen
set_option linter.unusedVariables false
/-- The one pure statement of gazetteerlaw3_WeighImplied. -/
def gazetteerlaw3_WeighImplied.Pure : Prop := ∀ (a0 : Int) (a1 : Int), ((Lit.int .i32 a0).wf = true) → ((Lit.int .i32 a1).wf = true) → ∃ k, gazetteerlaw3_WeighImplied.f k a0 a1 = some true
end Go.Proofs.Ytfagobhhhljajaa.PWeighImplied

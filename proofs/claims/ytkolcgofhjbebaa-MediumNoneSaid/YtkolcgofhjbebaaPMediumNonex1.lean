-- printed by a program of this session (wip/tools), a turned form of the kit's print
import Derived.Test.YtkolcgofhjbebaaPMediumNonex0
namespace Go.Proofs.Ytkolcgofhjbebaa.PMediumNone
open Go.RowKit Go.Proofs.YtkolcgofhjbebaaW.PrintWords Go.Proofs.YtkolcgofhjbebaaW.PrintLast Go.Proofs.YtkolcgofhjbebaaW.PrintMore
attribute [local go_sem] max2_int min2_int max_two min_two max_three min_three max_four min_four max2_str min2_str str_geq str_leq str_gtr   -- for this text's walks alone
set_option linter.unusedVariables false
set_option linter.unusedSimpArgs false

/-! ### gazetteerlaw10_MediumNone: function 4 -/
def gazetteerlaw10_MediumNone.f : Option Bool := some true

set_option maxHeartbeats 8000000 in
set_option maxRecDepth 100000 in
theorem gazetteerlaw10_MediumNone.calls  (r : Bool) (w : World) (HLT0 : r = true) (h : gazetteerlaw10_MediumNone.f  = some r) :
    Calls Try.prog 4 #[] w fun e w' => e = .returned (.bool r) ∧ Below w.heap.size w w' := by
  obtain rfl := Option.some.inj h
  exact Go.Proofs.YtkolcgofhjbebaaW.PrintMed.none_calls w


end Go.Proofs.Ytkolcgofhjbebaa.PMediumNone

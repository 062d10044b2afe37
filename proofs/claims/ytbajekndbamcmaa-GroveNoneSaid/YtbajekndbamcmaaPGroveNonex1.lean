-- printed by a program of this session (wip/tools), a turned form of the kit's print
import Derived.Test.YtbajekndbamcmaaPGroveNonex0
namespace Go.Proofs.Ytbajekndbamcmaa.PGroveNone
open Go.RowKit Go.Proofs.YtbajekndbamcmaaW.PrintWords Go.Proofs.YtbajekndbamcmaaW.PrintLast Go.Proofs.YtbajekndbamcmaaW.PrintMore
attribute [local go_sem] max2_int min2_int max_two min_two max_three min_three max_four min_four max2_str min2_str str_geq str_leq str_gtr   -- for this text's walks alone
set_option linter.unusedVariables false
set_option linter.unusedSimpArgs false

/-! ### gazetteerlaw6_GroveNone: function 8 -/
def gazetteerlaw6_GroveNone.f : Option Bool := some true

set_option maxHeartbeats 8000000 in
set_option maxRecDepth 100000 in
theorem gazetteerlaw6_GroveNone.calls  (r : Bool) (w : World) (HLT0 : r = true) (h : gazetteerlaw6_GroveNone.f  = some r) :
    Calls Try.prog 8 #[] w fun e w' => e = .returned (.bool r) ∧ Below w.heap.size w w' := by
  obtain rfl := Option.some.inj h
  exact Go.Proofs.YtbajekndbamcmaaW.GroveN.none_calls w


end Go.Proofs.Ytbajekndbamcmaa.PGroveNone

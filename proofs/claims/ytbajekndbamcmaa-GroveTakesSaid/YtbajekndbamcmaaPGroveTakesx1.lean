-- printed by a program of this session (wip/tools), a turned form of the kit's print
import Derived.Test.YtbajekndbamcmaaPGroveTakesx0
namespace Go.Proofs.Ytbajekndbamcmaa.PGroveTakes
open Go.RowKit Go.Proofs.YtbajekndbamcmaaW.PrintWords Go.Proofs.YtbajekndbamcmaaW.PrintLast Go.Proofs.YtbajekndbamcmaaW.PrintMore
attribute [local go_sem] max2_int min2_int max_two min_two max_three min_three max_four min_four max2_str min2_str str_geq str_leq str_gtr   -- for this text's walks alone
set_option linter.unusedVariables false
set_option linter.unusedSimpArgs false

/-! ### gazetteerlaw6_GroveTakes: function 10 -/
def gazetteerlaw6_GroveTakes.f (a0 : Int) (a1 : Int) (a2 : Int) : Option Bool := if (0 ≤ a0 ∧ a0 ≤ 255) ∧ (0 ≤ a1 ∧ a1 ≤ 255) ∧ (0 ≤ a2 ∧ a2 ≤ 255) then some true else none

set_option maxHeartbeats 8000000 in
set_option maxRecDepth 100000 in
theorem gazetteerlaw6_GroveTakes.calls (a0 : Int) (a1 : Int) (a2 : Int) (r : Bool) (w : World) (HLT0 : r = true) (h : gazetteerlaw6_GroveTakes.f a0 a1 a2 = some r) :
    Calls Try.prog 10 #[.int .u8 a0, .int .u8 a1, .int .u8 a2] w fun e w' => e = .returned (.bool r) ∧ Below w.heap.size w w' := by
  unfold gazetteerlaw6_GroveTakes.f at h
  by_cases hb : (0 ≤ a0 ∧ a0 ≤ 255) ∧ (0 ≤ a1 ∧ a1 ≤ 255) ∧ (0 ≤ a2 ∧ a2 ≤ 255)
  · rw [if_pos hb] at h
    obtain rfl := Option.some.inj h
    have k := Go.Proofs.YtbajekndbamcmaaW.GroveT.takes_calls a0.toNat a1.toNat a2 (by omega) (by omega) hb.2.2 w
    rw [Int.toNat_of_nonneg hb.1.1, Int.toNat_of_nonneg hb.2.1.1] at k
    exact k
  · rw [if_neg hb] at h
    cases h


end Go.Proofs.Ytbajekndbamcmaa.PGroveTakes

-- printed by a program of this session (wip/tools), a turned form of the kit's print
import Derived.Test.YtbajekndbamcmaaPGroveRowsx0
namespace Go.Proofs.Ytbajekndbamcmaa.PGroveRows
open Go.RowKit Go.Proofs.YtbajekndbamcmaaW.PrintWords Go.Proofs.YtbajekndbamcmaaW.PrintLast Go.Proofs.YtbajekndbamcmaaW.PrintMore
attribute [local go_sem] max2_int min2_int max_two min_two max_three min_three max_four min_four max2_str min2_str str_geq str_leq str_gtr   -- for this text's walks alone
set_option linter.unusedVariables false
set_option linter.unusedSimpArgs false

/-! ### gazetteerlaw6_GroveRows: function 9 -/
def gazetteerlaw6_GroveRows.f (a0 : Int) (a1 : Int) (a2 : Int) : Option Bool := if (0 ≤ a0 ∧ a0 ≤ 65535) ∧ (0 ≤ a1 ∧ a1 ≤ 255) ∧ (0 ≤ a2 ∧ a2 ≤ 65535) then some true else none

set_option maxHeartbeats 8000000 in
set_option maxRecDepth 100000 in
theorem gazetteerlaw6_GroveRows.calls (a0 : Int) (a1 : Int) (a2 : Int) (r : Bool) (w : World) (HLT0 : r = true) (h : gazetteerlaw6_GroveRows.f a0 a1 a2 = some r) :
    Calls Try.prog 9 #[.int .u16 a0, .int .u8 a1, .int .u16 a2] w fun e w' => e = .returned (.bool r) ∧ Below w.heap.size w w' := by
  unfold gazetteerlaw6_GroveRows.f at h
  by_cases hb : (0 ≤ a0 ∧ a0 ≤ 65535) ∧ (0 ≤ a1 ∧ a1 ≤ 255) ∧ (0 ≤ a2 ∧ a2 ≤ 65535)
  · rw [if_pos hb] at h
    obtain rfl := Option.some.inj h
    have k := Go.Proofs.YtbajekndbamcmaaW.GroveR.rows_calls a0.toNat a1.toNat a2.toNat (by omega) (by omega) (by omega) w
    rw [Int.toNat_of_nonneg hb.1.1, Int.toNat_of_nonneg hb.2.1.1, Int.toNat_of_nonneg hb.2.2.1] at k
    exact k
  · rw [if_neg hb] at h
    cases h


end Go.Proofs.Ytbajekndbamcmaa.PGroveRows

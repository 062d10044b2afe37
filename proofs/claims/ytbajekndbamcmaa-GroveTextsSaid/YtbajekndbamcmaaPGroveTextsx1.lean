-- printed by a program of this session (wip/tools), a turned form of the kit's print
import Derived.Test.YtbajekndbamcmaaPGroveTextsx0
namespace Go.Proofs.Ytbajekndbamcmaa.PGroveTexts
open Go.RowKit Go.Proofs.YtbajekndbamcmaaW.PrintWords Go.Proofs.YtbajekndbamcmaaW.PrintLast Go.Proofs.YtbajekndbamcmaaW.PrintMore
attribute [local go_sem] max2_int min2_int max_two min_two max_three min_three max_four min_four max2_str min2_str str_geq str_leq str_gtr   -- for this text's walks alone
set_option linter.unusedVariables false
set_option linter.unusedSimpArgs false

/-! ### gazetteerlaw6_GroveTexts: function 4 -/
def gazetteerlaw6_GroveTexts.f (l0 : List ByteArray) (a1 : ByteArray) (a2 : Int) : Option Bool := if 0 ≤ a2 ∧ a2 ≤ 255 then some true else none

set_option maxHeartbeats 8000000 in
set_option maxRecDepth 100000 in
theorem gazetteerlaw6_GroveTexts.calls (A0 : Option Addr) (c0 : Nat) (l0 : List ByteArray) (a1 : ByteArray) (a2 : Int) (r : Bool) (w : World) (hr0 : Kd.C Kd.string w A0 l0.length l0) (hc0 : l0.length ≤ c0) (HLT0 : r = true) (h : gazetteerlaw6_GroveTexts.f l0 a1 a2 = some r) :
    Calls Try.prog 4 #[.slice A0 l0.length c0, .string a1, .int .u8 a2] w fun e w' => e = .returned (.bool r) ∧ Below w.heap.size w w' := by
  unfold gazetteerlaw6_GroveTexts.f at h
  by_cases hb : 0 ≤ a2 ∧ a2 ≤ 255
  · rw [if_pos hb] at h
    obtain rfl := Option.some.inj h
    exact Go.Proofs.YtbajekndbamcmaaW.GroveX.texts_calls A0 c0 l0 a1 a2 hb w hr0 hc0
  · rw [if_neg hb] at h
    cases h


end Go.Proofs.Ytbajekndbamcmaa.PGroveTexts

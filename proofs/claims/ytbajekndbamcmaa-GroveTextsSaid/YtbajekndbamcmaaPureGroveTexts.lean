/- GroveTexts: the law by hand shows it whole (tpl/GroveX.lean); here the bounds alone. No condition. -/
import Derived.Test.YtbajekndbamcmaaPGroveTextsy
namespace Go.Proofs.Ytbajekndbamcmaa.Pure
set_option linter.unusedVariables false
open Go.RowKit Go.Proofs.Ytbajekndbamcmaa.PGroveTexts
theorem u8b {a : Int} (h : (Lit.int .u8 a).wf = true) : 0 ≤ a ∧ a ≤ 255 := by simpa [Lit.wf, IntKind.min, IntKind.max, IntKind.signed, IntKind.bits] using h
theorem GroveTexts : gazetteerlaw6_GroveTexts.Pure := by
  intro l0 a0 a1 h0 h1 h2
  unfold gazetteerlaw6_GroveTexts.f
  rw [if_pos (by first | exact u8b h2 | exact u8b h1)]
end Go.Proofs.Ytbajekndbamcmaa.Pure

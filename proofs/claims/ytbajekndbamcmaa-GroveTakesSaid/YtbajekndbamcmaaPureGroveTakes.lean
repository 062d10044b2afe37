/- GroveTakes: the law by hand shows it whole (tpl/GroveT.lean); here the bounds alone. No condition. -/
import Derived.Test.YtbajekndbamcmaaPGroveTakesy
namespace Go.Proofs.Ytbajekndbamcmaa.Pure
set_option linter.unusedVariables false
open Go.RowKit Go.Proofs.Ytbajekndbamcmaa.PGroveTakes
theorem u8b {a : Int} (h : (Lit.int .u8 a).wf = true) : 0 ≤ a ∧ a ≤ 255 := by simpa [Lit.wf, IntKind.min, IntKind.max, IntKind.signed, IntKind.bits] using h
theorem GroveTakes : gazetteerlaw6_GroveTakes.Pure := by
  intro a0 a1 a2 h0 h1 h2
  unfold gazetteerlaw6_GroveTakes.f
  rw [if_pos ⟨u8b h0, u8b h1, u8b h2⟩]
end Go.Proofs.Ytbajekndbamcmaa.Pure

/- GroveRows: the law by hand shows it whole (tpl/GroveR.lean); here the bounds alone. No condition. -/
import Derived.Test.YtbajekndbamcmaaPGroveRowsy
namespace Go.Proofs.Ytbajekndbamcmaa.Pure
set_option linter.unusedVariables false
open Go.RowKit Go.Proofs.Ytbajekndbamcmaa.PGroveRows
theorem u8b {a : Int} (h : (Lit.int .u8 a).wf = true) : 0 ≤ a ∧ a ≤ 255 := by simpa [Lit.wf, IntKind.min, IntKind.max, IntKind.signed, IntKind.bits] using h
theorem u16b {a : Int} (h : (Lit.int .u16 a).wf = true) : 0 ≤ a ∧ a ≤ 65535 := by simpa [Lit.wf, IntKind.min, IntKind.max, IntKind.signed, IntKind.bits] using h
theorem GroveRows : gazetteerlaw6_GroveRows.Pure := by
  intro a0 a1 a2 h0 h1 h2
  unfold gazetteerlaw6_GroveRows.f
  rw [if_pos ⟨u16b h0, u8b h1, u16b h2⟩]
end Go.Proofs.Ytbajekndbamcmaa.Pure

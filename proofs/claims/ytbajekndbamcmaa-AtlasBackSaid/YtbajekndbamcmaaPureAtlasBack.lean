/- AtlasBack: the law by hand shows it whole (genatlas.py); here the bounds alone. No condition. -/
import Derived.Test.YtbajekndbamcmaaPAtlasBacky
namespace Go.Proofs.Ytbajekndbamcmaa.Pure
set_option linter.unusedVariables false
open Go.RowKit Go.Proofs.Ytbajekndbamcmaa.PAtlasBack
theorem AtlasBack : gazetteerlaw14_AtlasBack.Pure := by
  intro a0_0 l0_1 a1 a2 _ _ _ h
  have b : 0 ≤ a2 ∧ a2 ≤ 255 := by simpa [Lit.wf, IntKind.min, IntKind.max, IntKind.signed, IntKind.bits] using h
  unfold gazetteerlaw14_AtlasBack.f
  rw [if_pos b]
end Go.Proofs.Ytbajekndbamcmaa.Pure

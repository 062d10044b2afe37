/- OnceKeeps: the law by hand shows it whole (ovr/once.lean); here the bounds alone. No condition. -/
import Derived.Test.YtdeepnpbibhfiaaPOnceKeepsy
namespace Go.Proofs.Ytdeepnpbibhfiaa.Pure
set_option linter.unusedVariables false
open Go.RowKit Go.Proofs.Ytdeepnpbibhfiaa.POnceKeeps
theorem u8b {a : Int} (h : (Lit.int .u8 a).wf = true) : 0 ≤ a ∧ a ≤ 255 := by simpa [Lit.wf, IntKind.min, IntKind.max, IntKind.signed, IntKind.bits] using h
theorem OnceKeeps : gazetteerlaw12_OnceKeeps.Pure := by
  intro l0 h
  unfold gazetteerlaw12_OnceKeeps.f
  rw [if_pos]
  rw [List.all_eq_true]
  intro p hp
  have h2 := h.2.2 p hp
  have h3 := u8b h2.1
  have h4 := u8b h2.2
  exact decide_eq_true ⟨h3.1, h3.2, h4.1, h4.2⟩
end Go.Proofs.Ytdeepnpbibhfiaa.Pure

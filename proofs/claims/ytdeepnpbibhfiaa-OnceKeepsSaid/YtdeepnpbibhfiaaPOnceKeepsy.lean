import Derived.Test.YtdeepnpbibhfiaaPOnceKeepsx1
import Derived.Test.YtdeepnpbibhfiaaWOpen
namespace Go.Proofs.Ytdeepnpbibhfiaa.POnceKeeps
open Go.RowKit Go.Proofs.YtdeepnpbibhfiaaW.PrintWords Go.Proofs.YtdeepnpbibhfiaaW.PrintLast Go.Proofs.YtdeepnpbibhfiaaW.PrintMore Go.Proofs.YtdeepnpbibhfiaaW.PrintOpen
set_option linter.unusedVariables false
def Bd27 (x : S27) : Prop := ((Lit.int .u8 x.f0).wf = true) ∧ ((Lit.int .u8 x.f1).wf = true)
instance : Inhabited S27 := ⟨z27⟩
set_option maxRecDepth 100000 in
theorem opens27 : Opens Try.prog 27 k27 Bd27 := Opens.weaken (Opens.iso (Opens.array Try.underlying27 (by kernel_rfl) (OpensFs.cons (Opens.int Try.underlying5) (by kernel_rfl) (OpensFs.one (Opens.int Try.underlying5) (by kernel_rfl)))) _ (fun p => ⟨p.1, p.2⟩) (fun _ => rfl)) (fun _ h => h)
/-- The one pure statement of gazetteerlaw12_OnceKeeps. -/
def gazetteerlaw12_OnceKeeps.Pure : Prop := ∀ (l0 : List (S27)), (l0.length ≤ maxLen ∧ l0.length * 2 ≤ 140737488351232 ∧ ∀ y_l0 ∈ l0, Bd27 y_l0) → gazetteerlaw12_OnceKeeps.f l0 = some true
end Go.Proofs.Ytdeepnpbibhfiaa.POnceKeeps

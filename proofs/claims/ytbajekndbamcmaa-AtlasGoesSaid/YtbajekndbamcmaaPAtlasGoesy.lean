import Derived.Test.YtbajekndbamcmaaPAtlasGoesx7
import Derived.Test.YtbajekndbamcmaaWOpen
namespace Go.Proofs.Ytbajekndbamcmaa.PAtlasGoes
open Go.RowKit Go.Proofs.YtbajekndbamcmaaW.PrintWords Go.Proofs.YtbajekndbamcmaaW.PrintLast Go.Proofs.YtbajekndbamcmaaW.PrintMore Go.Proofs.YtbajekndbamcmaaW.PrintOpen
set_option linter.unusedVariables false
def Bd51 (x : S51) : Prop := ((Lit.int .u8 x.f0).wf = true) ∧ ((Lit.int .u8 x.f1).wf = true) ∧ ((Lit.int .u8 x.f2).wf = true)
instance : Inhabited S51 := ⟨z51⟩
set_option maxRecDepth 100000 in
theorem opens51 : Opens Try.prog 51 k51 Bd51 := Opens.weaken (Opens.iso (Opens.array Try.underlying51 (by kernel_rfl) (OpensFs.cons (Opens.int Try.underlying5) (by kernel_rfl) (OpensFs.cons (Opens.int Try.underlying5) (by kernel_rfl) (OpensFs.one (Opens.int Try.underlying5) (by kernel_rfl))))) _ (fun p => ⟨p.1, p.2.1, p.2.2⟩) (fun _ => rfl)) (fun _ h => h)
/-- The one pure statement of gazetteerlaw14_AtlasGoes. -/
def gazetteerlaw14_AtlasGoes.Pure : Prop := ∀ (l0 : List (S51)), (l0.length ≤ maxLen ∧ l0.length * 3 ≤ 140737488351232 ∧ ∀ y_l0 ∈ l0, Bd51 y_l0) → ∃ k, gazetteerlaw14_AtlasGoes.f k l0 = some true
end Go.Proofs.Ytbajekndbamcmaa.PAtlasGoes

import Derived.Test.YtbajekndbamcmaaPAtlasBackx10
import Derived.Test.YtbajekndbamcmaaWOpen
namespace Go.Proofs.Ytbajekndbamcmaa.PAtlasBack
open Go.RowKit Go.Proofs.YtbajekndbamcmaaW.PrintWords Go.Proofs.YtbajekndbamcmaaW.PrintLast Go.Proofs.YtbajekndbamcmaaW.PrintMore Go.Proofs.YtbajekndbamcmaaW.PrintOpen
set_option linter.unusedVariables false
def Bd28 (x : S28) : Prop := (x.f0.size ≤ 140737488351232) ∧ (x.f1.size ≤ 140737488351232)
instance : Inhabited S28 := ⟨z28⟩
set_option maxRecDepth 100000 in
theorem opens28 : Opens Try.prog 28 k28 Bd28 := Opens.weaken (Opens.iso (Opens.struct Try.underlying28 (by kernel_rfl) (OpensFs.cons (Opens.string Try.underlying9) (by kernel_rfl) (OpensFs.one (Opens.string Try.underlying9) (by kernel_rfl)))) _ (fun p => ⟨p.1, p.2⟩) (fun _ => rfl)) (fun _ h => h)
def Bd38 (x : S38) : Prop := (Bd28 x.f0) ∧ ((Lit.int .i64 x.f1).wf = true) ∧ ((Lit.int .i64 x.f2).wf = true)
instance : Inhabited S38 := ⟨z38⟩
set_option maxRecDepth 100000 in
theorem opens38 : Opens Try.prog 38 k38 Bd38 := Opens.weaken (Opens.iso (Opens.struct Try.underlying38 (by kernel_rfl) (OpensFs.cons opens28 (by kernel_rfl) (OpensFs.cons (Opens.int Try.underlying3) (by kernel_rfl) (OpensFs.one (Opens.int Try.underlying3) (by kernel_rfl))))) _ (fun p => ⟨p.1, p.2.1, p.2.2⟩) (fun _ => rfl)) (fun _ h => h)
/-- The one pure statement of gazetteerlaw14_AtlasBack. -/
def gazetteerlaw14_AtlasBack.Pure : Prop := ∀ (a0_0 : Int) (l0_1 : List (S38)) (a1 : ByteArray) (a2 : Int), ((Lit.int .i64 a0_0).wf = true) → (l0_1.length ≤ maxLen ∧ l0_1.length * 48 ≤ 140737488351232 ∧ ∀ y_l0_1 ∈ l0_1, Bd38 y_l0_1) → (a1.size ≤ 140737488351232) → ((Lit.int .u8 a2).wf = true) → gazetteerlaw14_AtlasBack.f a0_0 l0_1 a1 a2 = some true
end Go.Proofs.Ytbajekndbamcmaa.PAtlasBack

import Derived.Test.YtdeepnpbibhfiaaPOnceMergesx6
import Derived.Test.YtdeepnpbibhfiaaWOpen
namespace Go.Proofs.Ytdeepnpbibhfiaa.POnceMerges
open Go.RowKit Go.Proofs.YtdeepnpbibhfiaaW.PrintWords Go.Proofs.YtdeepnpbibhfiaaW.PrintLast Go.Proofs.YtdeepnpbibhfiaaW.PrintMore Go.Proofs.YtdeepnpbibhfiaaW.PrintOpen
set_option linter.unusedVariables false
def Bd71 (x : S71) : Prop := (x.f0.size ≤ 140737488351232) ∧ (x.f1.size ≤ 140737488351232)
instance : Inhabited S71 := ⟨z71⟩
set_option maxRecDepth 100000 in
theorem opens71 : Opens Try.prog 71 k71 Bd71 := Opens.weaken (Opens.iso (Opens.struct Try.underlying71 (by kernel_rfl) (OpensFs.cons (Opens.string Try.underlying9) (by kernel_rfl) (OpensFs.one (Opens.string Try.underlying9) (by kernel_rfl)))) _ (fun p => ⟨p.1, p.2⟩) (fun _ => rfl)) (fun _ h => h)
def Bd33 (x : S33) : Prop := ((Lit.int .i64 x.f0).wf = true) ∧ ((Lit.int .i64 x.f1).wf = true) ∧ ((Lit.int .i64 x.f2).wf = true) ∧ (True) ∧ (x.f4.size ≤ 140737488351232) ∧ (x.f5.length ≤ maxLen ∧ x.f5.length * 32 ≤ 140737488351232 ∧ ∀ y_x_f5 ∈ x.f5, Bd71 y_x_f5) ∧ (x.f6.size ≤ 140737488351232) ∧ (True)
instance : Inhabited S33 := ⟨z33⟩
set_option maxRecDepth 100000 in
theorem opens33 : Opens Try.prog 33 k33 Bd33 := Opens.weaken (Opens.iso (Opens.struct Try.underlying33 (by kernel_rfl) (OpensFs.cons (Opens.int Try.underlying3) (by kernel_rfl) (OpensFs.cons (Opens.int Try.underlying3) (by kernel_rfl) (OpensFs.cons (Opens.int Try.underlying30) (by kernel_rfl) (OpensFs.cons (Opens.bool Try.underlying4) (by kernel_rfl) (OpensFs.cons (Opens.string Try.underlying9) (by kernel_rfl) (OpensFs.cons (Opens.slice (b := 32) Try.underlying31 opens71 (by kernel_rfl) (by kernel_rfl)) (by kernel_rfl) (OpensFs.cons (Opens.string Try.underlying9) (by kernel_rfl) (OpensFs.one (Opens.bool Try.underlying4) (by kernel_rfl)))))))))) _ (fun p => ⟨p.1, p.2.1, p.2.2.1, p.2.2.2.1, p.2.2.2.2.1, p.2.2.2.2.2.1, p.2.2.2.2.2.2.1, p.2.2.2.2.2.2.2⟩) (fun _ => rfl)) (fun _ h => h)
/-- The one pure statement of gazetteerlaw12_OnceMerges. -/
def gazetteerlaw12_OnceMerges.Pure : Prop := ∀ (l0 : List (S33)) (l1 : List (S33)), (l0.length ≤ maxLen ∧ l0.length * 96 ≤ 140737488351232 ∧ ∀ y_l0 ∈ l0, Bd33 y_l0) → (l1.length ≤ maxLen ∧ l1.length * 96 ≤ 140737488351232 ∧ ∀ y_l1 ∈ l1, Bd33 y_l1) → gazetteerlaw12_OnceMerges.f l0 l1 = some true
end Go.Proofs.Ytdeepnpbibhfiaa.POnceMerges

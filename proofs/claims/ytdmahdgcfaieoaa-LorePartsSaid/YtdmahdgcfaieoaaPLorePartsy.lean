import Derived.Test.YtdmahdgcfaieoaaPLorePartsx6
import Derived.Test.YtdmahdgcfaieoaaWOpen
namespace Go.Proofs.Ytdmahdgcfaieoaa.PLoreParts
open Go.RowKit Go.Proofs.YtdmahdgcfaieoaaW.PrintWords Go.Proofs.YtdmahdgcfaieoaaW.PrintLast Go.Proofs.YtdmahdgcfaieoaaW.PrintMore Go.Proofs.YtdmahdgcfaieoaaW.PrintOpen
set_option linter.unusedVariables false
def Bd33 (x : S33) : Prop := ((Lit.int .i32 x.f0).wf = true) ∧ ((Lit.int .i64 x.f1).wf = true) ∧ (x.f2.length ≤ maxLen ∧ x.f2.length * 4 ≤ 140737488351232 ∧ ∀ y_x_f2 ∈ x.f2, (Lit.int .i32 y_x_f2).wf = true)
instance : Inhabited S33 := ⟨z33⟩
set_option maxRecDepth 100000 in
theorem opens33 : Opens Try.prog 33 k33 Bd33 := Opens.weaken (Opens.iso (Opens.struct Try.underlying33 (by kernel_rfl) (OpensFs.cons (Opens.int Try.underlying21) (by kernel_rfl) (OpensFs.cons (Opens.int Try.underlying3) (by kernel_rfl) (OpensFs.one (Opens.slice (b := 4) Try.underlying23 (Opens.int Try.underlying21) (by kernel_rfl) (by kernel_rfl)) (by kernel_rfl))))) _ (fun p => ⟨p.1, p.2.1, p.2.2⟩) (fun _ => rfl)) (fun _ h => h)
/-- The one pure statement of gazetteerlaw2_LoreParts. -/
def gazetteerlaw2_LoreParts.Pure : Prop := ∀ (l0 : List (S33)) (l1 : List Int) (l2 : List Int), (l0.length ≤ maxLen ∧ l0.length * 40 ≤ 140737488351232 ∧ ∀ y_l0 ∈ l0, Bd33 y_l0) → (l1.length ≤ maxLen ∧ l1.length * 4 ≤ 140737488351232 ∧ ∀ y_l1 ∈ l1, (Lit.int .i32 y_l1).wf = true) → (l2.length ≤ maxLen ∧ l2.length * 4 ≤ 140737488351232 ∧ ∀ y_l2 ∈ l2, (Lit.int .i32 y_l2).wf = true) → ∃ k, gazetteerlaw2_LoreParts.f k l0 l1 l2 = some true
end Go.Proofs.Ytdmahdgcfaieoaa.PLoreParts

import Derived.Test.YtkolcgofhjbebaaPMediumPlaysx1
import Derived.Test.YtkolcgofhjbebaaWOpen
namespace Go.Proofs.Ytkolcgofhjbebaa.PMediumPlays
open Go.RowKit Go.Proofs.YtkolcgofhjbebaaW.PrintWords Go.Proofs.YtkolcgofhjbebaaW.PrintLast Go.Proofs.YtkolcgofhjbebaaW.PrintMore Go.Proofs.YtkolcgofhjbebaaW.PrintOpen
set_option linter.unusedVariables false
def Bd48 (x : S48) : Prop := ((Lit.int .i64 x.f0).wf = true) ∧ ((Lit.int .i64 x.f1).wf = true) ∧ (x.f2.length ≤ maxLen ∧ x.f2.length * 1 ≤ 140737488351232 ∧ ∀ y_x_f2 ∈ x.f2, (Lit.int .u8 y_x_f2).wf = true)
instance : Inhabited S48 := ⟨z48⟩
set_option maxRecDepth 100000 in
theorem opens48 : Opens Try.prog 48 k48 Bd48 := Opens.weaken (Opens.iso (Opens.struct Try.underlying48 (by kernel_rfl) (OpensFs.cons (Opens.int Try.underlying3) (by kernel_rfl) (OpensFs.cons (Opens.int Try.underlying3) (by kernel_rfl) (OpensFs.one (Opens.slice (b := 1) Try.underlying22 (Opens.int Try.underlying5) (by kernel_rfl) (by kernel_rfl)) (by kernel_rfl))))) _ (fun p => ⟨p.1, p.2.1, p.2.2⟩) (fun _ => rfl)) (fun _ h => h)
/-- The one pure statement of gazetteerlaw10_MediumPlays. -/
def gazetteerlaw10_MediumPlays.Pure : Prop := ∀ (l0 : List (S48)) (l1 : List (S48)), (l0.length ≤ maxLen ∧ l0.length * 40 ≤ 140737488351232 ∧ ∀ y_l0 ∈ l0, Bd48 y_l0) → (l1.length ≤ maxLen ∧ l1.length * 40 ≤ 140737488351232 ∧ ∀ y_l1 ∈ l1, Bd48 y_l1) → gazetteerlaw10_MediumPlays.f l0 l1 = some true
end Go.Proofs.Ytkolcgofhjbebaa.PMediumPlays

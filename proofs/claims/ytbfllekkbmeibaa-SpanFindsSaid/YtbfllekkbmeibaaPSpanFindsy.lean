import Derived.Test.YtbfllekkbmeibaaPSpanFindsx4
import Derived.Test.YtbfllekkbmeibaaWOpen
namespace Go.Proofs.Ytbfllekkbmeibaa.PSpanFinds
open Go.RowKit Go.Proofs.YtbfllekkbmeibaaW.PrintWords Go.Proofs.YtbfllekkbmeibaaW.PrintLast Go.Proofs.YtbfllekkbmeibaaW.PrintMore Go.Proofs.YtbfllekkbmeibaaW.PrintOpen
set_option linter.unusedVariables false
def Bd38 (x : S38) : Prop := (x.f0.size ≤ 140737488351232) ∧ (x.f1.size ≤ 140737488351232)
instance : Inhabited S38 := ⟨z38⟩
set_option maxRecDepth 100000 in
theorem opens38 : Opens Try.prog 38 k38 Bd38 := Opens.weaken (Opens.iso (Opens.struct Try.underlying38 (by kernel_rfl) (OpensFs.cons (Opens.string Try.underlying9) (by kernel_rfl) (OpensFs.one (Opens.string Try.underlying9) (by kernel_rfl)))) _ (fun p => ⟨p.1, p.2⟩) (fun _ => rfl)) (fun _ h => h)
/-- The one pure statement of gazetteerlaw5_SpanFinds. -/
def gazetteerlaw5_SpanFinds.Pure : Prop := ∀ (l0 : List (S38)) (l1 : List Int) (a2 : ByteArray), (l0.length ≤ maxLen ∧ l0.length * 32 ≤ 140737488351232 ∧ ∀ y_l0 ∈ l0, Bd38 y_l0) → (l1.length ≤ maxLen ∧ l1.length * 1 ≤ 140737488351232 ∧ ∀ y_l1 ∈ l1, (Lit.int .u8 y_l1).wf = true) → (a2.size ≤ 140737488351232) → ∃ k, gazetteerlaw5_SpanFinds.f k l0 l1 a2 = some true
end Go.Proofs.Ytbfllekkbmeibaa.PSpanFinds

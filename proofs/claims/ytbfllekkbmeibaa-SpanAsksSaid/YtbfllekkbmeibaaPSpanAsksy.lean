import Derived.Test.YtbfllekkbmeibaaPSpanAsksx4
import Derived.Test.YtbfllekkbmeibaaWOpen
namespace Go.Proofs.Ytbfllekkbmeibaa.PSpanAsks
open Go.RowKit Go.Proofs.YtbfllekkbmeibaaW.PrintWords Go.Proofs.YtbfllekkbmeibaaW.PrintLast Go.Proofs.YtbfllekkbmeibaaW.PrintMore Go.Proofs.YtbfllekkbmeibaaW.PrintOpen
set_option linter.unusedVariables false
def Bd38 (x : S38) : Prop := (x.f0.size ≤ 140737488351232) ∧ (x.f1.size ≤ 140737488351232)
instance : Inhabited S38 := ⟨z38⟩
theorem opens38 : Opens Try.prog 38 k38 Bd38 := Opens.weaken (Opens.iso (Opens.struct Try.underlying38 (by kernel_rfl) (OpensFs.cons (Opens.string Try.underlying9) (by kernel_rfl) (OpensFs.one (Opens.string Try.underlying9) (by kernel_rfl)))) _ (fun p => ⟨p.1, p.2⟩) (fun _ => rfl)) (fun _ h => h)
/-- The one pure statement of gazetteerlaw5_SpanAsks. -/
def gazetteerlaw5_SpanAsks.Pure : Prop := ∀ (a0_0 : ByteArray) (a0_1 : ByteArray) (a1_0 : ByteArray) (a1_1 : ByteArray) (a2 : ByteArray), (a0_0.size ≤ 140737488351232) → (a0_1.size ≤ 140737488351232) → (a1_0.size ≤ 140737488351232) → (a1_1.size ≤ 140737488351232) → (a2.size ≤ 140737488351232) → ∃ k, gazetteerlaw5_SpanAsks.f k a0_0 a0_1 a1_0 a1_1 a2 = some true
end Go.Proofs.Ytbfllekkbmeibaa.PSpanAsks

import Derived.Test.YtbfllekkbmeibaaPSpanMeetsx4
import Derived.Test.YtbfllekkbmeibaaWOpen
namespace Go.Proofs.Ytbfllekkbmeibaa.PSpanMeets
open Go.RowKit Go.Proofs.YtbfllekkbmeibaaW.PrintWords Go.Proofs.YtbfllekkbmeibaaW.PrintLast Go.Proofs.YtbfllekkbmeibaaW.PrintMore Go.Proofs.YtbfllekkbmeibaaW.PrintOpen
set_option linter.unusedVariables false
def Bd38 (x : S38) : Prop := (x.f0.size ≤ 140737488351232) ∧ (x.f1.size ≤ 140737488351232)
instance : Inhabited S38 := ⟨z38⟩
set_option maxRecDepth 100000 in
theorem opens38 : Opens Try.prog 38 k38 Bd38 := Opens.weaken (Opens.iso (Opens.struct Try.underlying38 (by kernel_rfl) (OpensFs.cons (Opens.string Try.underlying9) (by kernel_rfl) (OpensFs.one (Opens.string Try.underlying9) (by kernel_rfl)))) _ (fun p => ⟨p.1, p.2⟩) (fun _ => rfl)) (fun _ h => h)
/-- The one pure statement of gazetteerlaw5_SpanMeets. -/
def gazetteerlaw5_SpanMeets.Pure : Prop := ∀ (a0_0 : ByteArray) (a0_1 : ByteArray) (a1_0 : ByteArray) (a1_1 : ByteArray) (a2_0 : ByteArray) (a2_1 : ByteArray), (a0_0.size ≤ 140737488351232) → (a0_1.size ≤ 140737488351232) → (a1_0.size ≤ 140737488351232) → (a1_1.size ≤ 140737488351232) → (a2_0.size ≤ 140737488351232) → (a2_1.size ≤ 140737488351232) → ∃ k, gazetteerlaw5_SpanMeets.f k a0_0 a0_1 a1_0 a1_1 a2_0 a2_1 = some true
end Go.Proofs.Ytbfllekkbmeibaa.PSpanMeets

import Derived.Test.YtfagobhhhljajaaPWeighPartsx13
import Derived.Test.YtfagobhhhljajaaWOpen
namespace Go.Proofs.Ytfagobhhhljajaa.PWeighParts
open Go.RowKit Go.Proofs.YtfagobhhhljajaaW.PrintWords Go.Proofs.YtfagobhhhljajaaW.PrintLast Go.Proofs.YtfagobhhhljajaaW.PrintMore Go.Proofs.YtfagobhhhljajaaW.PrintOpen
set_option linter.unusedVariables false
def Bd42 (x : S42) : Prop := ((Lit.int .i32 x.f0).wf = true) ∧ ((Lit.int .i64 x.f1).wf = true) ∧ (x.f2.length ≤ maxLen ∧ x.f2.length * 4 ≤ 140737488351232 ∧ ∀ y_x_f2 ∈ x.f2, (Lit.int .i32 y_x_f2).wf = true)
instance : Inhabited S42 := ⟨z42⟩
set_option maxRecDepth 100000 in
theorem opens42 : Opens Try.prog 42 k42 Bd42 := Opens.weaken (Opens.iso (Opens.struct Try.underlying42 (by kernel_rfl) (OpensFs.cons (Opens.int Try.underlying21) (by kernel_rfl) (OpensFs.cons (Opens.int Try.underlying3) (by kernel_rfl) (OpensFs.one (Opens.slice (b := 4) Try.underlying26 (Opens.int Try.underlying21) (by kernel_rfl) (by kernel_rfl)) (by kernel_rfl))))) _ (fun p => ⟨p.1, p.2.1, p.2.2⟩) (fun _ => rfl)) (fun _ h => h)
def Bd39 (x : S39) : Prop := ((Lit.int .i64 x.f0).wf = true) ∧ ((Lit.int .i64 x.f1).wf = true) ∧ ((Lit.int .i64 x.f2).wf = true)
instance : Inhabited S39 := ⟨z39⟩
set_option maxRecDepth 100000 in
theorem opens39 : Opens Try.prog 39 k39 Bd39 := Opens.weaken (Opens.iso (Opens.struct Try.underlying39 (by kernel_rfl) (OpensFs.cons (Opens.int Try.underlying3) (by kernel_rfl) (OpensFs.cons (Opens.int Try.underlying3) (by kernel_rfl) (OpensFs.one (Opens.int Try.underlying3) (by kernel_rfl))))) _ (fun p => ⟨p.1, p.2.1, p.2.2⟩) (fun _ => rfl)) (fun _ h => h)
def Bd44 (x : S44) : Prop := (x.f0.length ≤ maxLen ∧ x.f0.length * 4 ≤ 140737488351232 ∧ ∀ y_x_f0 ∈ x.f0, (Lit.int .i32 y_x_f0).wf = true) ∧ (x.f1.length ≤ maxLen ∧ x.f1.length * 24 ≤ 140737488351232 ∧ ∀ y_x_f1 ∈ x.f1, Bd39 y_x_f1)
instance : Inhabited S44 := ⟨z44⟩
set_option maxRecDepth 100000 in
theorem opens44 : Opens Try.prog 44 k44 Bd44 := Opens.weaken (Opens.iso (Opens.struct Try.underlying44 (by kernel_rfl) (OpensFs.cons (Opens.slice (b := 4) Try.underlying26 (Opens.int Try.underlying21) (by kernel_rfl) (by kernel_rfl)) (by kernel_rfl) (OpensFs.one (Opens.slice (b := 24) Try.underlying29 opens39 (by kernel_rfl) (by kernel_rfl)) (by kernel_rfl)))) _ (fun p => ⟨p.1, p.2⟩) (fun _ => rfl)) (fun _ h => h)
/-- The one pure statement of gazetteerlaw3_WeighParts. -/
def gazetteerlaw3_WeighParts.Pure : Prop := ∀ (l0_0 : List (S42)) (l0_1 : List (S44)) (a0_2 : Int) (a0_3 : Bool) (l1 : List Int) (l2 : List Int), (l0_0.length ≤ maxLen ∧ l0_0.length * 40 ≤ 140737488351232 ∧ ∀ y_l0_0 ∈ l0_0, Bd42 y_l0_0) → (l0_1.length ≤ maxLen ∧ l0_1.length * 48 ≤ 140737488351232 ∧ ∀ y_l0_1 ∈ l0_1, Bd44 y_l0_1) → ((Lit.int .i64 a0_2).wf = true) → (l1.length ≤ maxLen ∧ l1.length * 4 ≤ 140737488351232 ∧ ∀ y_l1 ∈ l1, (Lit.int .i32 y_l1).wf = true) → (l2.length ≤ maxLen ∧ l2.length * 4 ≤ 140737488351232 ∧ ∀ y_l2 ∈ l2, (Lit.int .i32 y_l2).wf = true) → ∃ k, gazetteerlaw3_WeighParts.f k l0_0 l0_1 a0_2 a0_3 l1 l2 = some true
end Go.Proofs.Ytfagobhhhljajaa.PWeighParts

/- The row of the law SealCuts: from its pure statement and its walk. No condition. -/
import Derived.Test.YtkolcgofhjbebaaRows
import Derived.Test.YtkolcgofhjbebaaPSealCutsy
import Derived.Test.YtkolcgofhjbebaaPureSealCuts
import Derived.WalkKit
import Derived.ProofKit
import Derived.OpenShut
import Derived.ShutString
import Derived.ChangeOld
import Derived.Below
import Derived.SizedLaws
namespace Go.Proofs.Ytkolcgofhjbebaa.sealCuts
open Go.ChangeShapes Go.WideShapes Go.ChangeAt Go.RowKit
open Go.Proofs.YtkolcgofhjbebaaW.PrintWords Go.Proofs.YtkolcgofhjbebaaW.PrintOpen Go.Proofs.Ytkolcgofhjbebaa.PSealCuts
open Go.ChangeMaps (open_string shut_string)
set_option linter.unusedVariables false
theorem own : ownKnob Try.prog.godebug = none := by kernel_rfl
theorem laidOut : laidOutB Try.prog = true := by kernel_rfl
set_option maxRecDepth 100000 in
theorem lifted (os : Os) (started : os.Started) (H : Type) (enc : TypeId × Value → H) :
    ReturnsInHanded {} Try.checked os 8 .any (Rows.sealCutsSpec.pre6 enc Try.prog Try.f8 Rows.sealCutsRow.domain false) (Rows.sealCutsSpec.post enc Try.prog Try.f8 false true false false) := by
  refine returnsInHanded_of_change_sized (C := Try.checked) own started (by kernel_rfl) Try.func8
    (ChangeSpec.witness6 (enc := enc) (C := Try.checked) false ⟨#[], #[(.slice none 0 0), (.int .u16 0), (.agg #[(.int .u16 0), (.int .u16 0)])], []⟩ 8 (by kernel_rfl) (by kernel_rfl) (by kernel_rfl) (by kernel_rfl)) ?_
  intro W base args ds gs before hval0 hW hcnd hsz0 _
  have hsz : (DataW.weightsEach Try.prog (Try.f8.params.toList ++ Rows.sealCutsSpec.plain.varTypes Try.prog) (ds ++ gs)).all (· ≤ reachBytes) = true := hsz0
  have hval : ∀ (j : Nat) t v, Try.f8.params[j]? = some t → args[j]? = some v → Value.okWide Try.prog W .any base t v := hval0
  have hW' := hW
  obtain ⟨p, q, hA0, hV, rfl, hfz, hnd⟩ := hW
  have hA : DataW.TrodAll enc Try.prog W 0 (fun _ => true) true Try.f8.params.toList args.toList ds p := hA0
  rw [Try.params8] at hA hval hsz
  obtain ⟨v0, vs0, d0, ds0, p0, q0, hargs, rfl, rfl, h0, r0⟩ := trodAll_cons hA
  obtain ⟨v1, vs1, d1, ds1, p1, q1, rfl, rfl, rfl, h1, r1⟩ := trodAll_cons r0
  obtain ⟨v2, vs2, d2, ds2, p2, q2, rfl, rfl, rfl, h2, r2⟩ := trodAll_cons r1
  obtain ⟨rfl, rfl, rfl⟩ := trodAll_nil r2
  obtain rfl : args = #[v0, v1, v2] := by cases args; simp_all
  obtain ⟨rfl, rfl⟩ := trodVars_none hV
  have k0 := h0
  have lt0 : ∀ x ∈ p0, x.block < W.heap.size := by obtain ⟨m, hm⟩ := k0; exact DataW.trod_lt m _ _ _ hm
  have k1 := h1
  have lt1 : ∀ x ∈ p1, x.block < W.heap.size := by obtain ⟨m, hm⟩ := k1; exact DataW.trod_lt m _ _ _ hm
  have k2 := h2
  have lt2 : ∀ x ∈ p2, x.block < W.heap.size := by obtain ⟨m, hm⟩ := k2; exact DataW.trod_lt m _ _ _ hm
  obtain ⟨l0, A0, c0, rfl, hc0, hr0, b0⟩ := at_slice (Opens.slice (b := 24) Try.underlying52 (Opens.slice (b := 1) Try.underlying22 (Opens.int Try.underlying5) (by kernel_rfl) (by kernel_rfl)) (by kernel_rfl) (by kernel_rfl)) Try.underlying52 (hval 0 52 v0 rfl rfl) h0 (sized_of hsz (j := 0) (t := 52) rfl rfl)
  obtain ⟨a1, rfl, b1⟩ := at_int Try.underlying53 (hval 1 53 v1 rfl rfl) h1 (sized_of hsz (j := 1) (t := 53) rfl rfl)
  obtain ⟨⟨a2_0, a2_1⟩, _, rfl, ⟨_, _, rfl, rfl, rfl⟩, ⟨b2_0, b2_1⟩⟩ := at_array (Opens.array Try.underlying54 (by kernel_rfl) (OpensFs.cons (Opens.int Try.underlying53) (by kernel_rfl) (OpensFs.one (Opens.int Try.underlying53) (by kernel_rfl)))) Try.underlying54 (hval 2 54 v2 rfl rfl) h2 (sized_of hsz (j := 2) (t := 54) rfl rfl)
  clear hA0 hval0 hsz0 hsz
  obtain ⟨k, h⟩ := Pure.SealCuts l0 a1 a2_0 a2_1 b0 b1 b2_0 b2_1
  refine (gazetteerlaw8_SealCuts.calls k _ _ l0 a1 a2_0 a2_1 true W hr0 hc0 rfl h).mono fun e W' ⟨he, bel_⟩ => ?_
  have bel : Below W.heap.size W W' := by first | exact bel_ | exact bel_.below
  subst he
  exact ⟨_, rfl, _, _, _, [], _, [], hW', trodAll_mk1 (shut_bool Try.underlying4 _), (trodAll_cons_mk (Below.trod laidOut (by kernel_rfl) (of_decide_eq_true (by kernel_rfl)) k0 bel lt0) (trodAll_cons_mk (Below.trod laidOut (by kernel_rfl) (of_decide_eq_true (by kernel_rfl)) k1 bel lt1) (trodAll_cons_mk (Below.trod laidOut (by kernel_rfl) (of_decide_eq_true (by kernel_rfl)) k2 bel lt2) trodAll_mk0))), rfl, bel.frame _, fun h => by cases h⟩
theorem over : Rows.sealCutsRow.holds Try.pinned (OpenSpec.ofChange Rows.sealCutsSpec) :=
  OpenClaim.holds_of_wide 8 Try.f8 rfl rfl rfl rfl rfl rfl rfl ⟨rfl, rfl, rfl, rfl, rfl⟩ rfl rfl rfl rfl rfl (by kernel_rfl) Try.func8 (by kernel_rfl)
    (of_decide_eq_true (by kernel_rfl)) (by unfold Func.isWrapper; first | (rw [if_pos (by decide +kernel)]; kernel_rfl) | (rw [if_neg (by decide +kernel)]; exact ⟨rfl, rfl⟩))
    (fun os started H enc _ => lifted os started H enc)
theorem proved : Rows.SealCutsSaid := over
#print axioms proved
end Go.Proofs.Ytkolcgofhjbebaa.sealCuts
namespace Go.Proofs.Ytkolcgofhjbebaa
/-- The row, under a short name, for the claim. -/
theorem sealCuts_holds : Rows.SealCutsSaid := sealCuts.proved
end Go.Proofs.Ytkolcgofhjbebaa

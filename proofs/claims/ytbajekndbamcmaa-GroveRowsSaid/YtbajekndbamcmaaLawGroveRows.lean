/- The row of the law GroveRows: from its pure statement and its walk. No condition. -/
import Derived.Test.YtbajekndbamcmaaRows
import Derived.Test.YtbajekndbamcmaaPGroveRowsy
import Derived.Test.YtbajekndbamcmaaPureGroveRows
import Derived.WalkKit
import Derived.ProofKit
import Derived.OpenShut
import Derived.ShutString
import Derived.ChangeOld
import Derived.Below
import Derived.SizedLaws
namespace Go.Proofs.Ytbajekndbamcmaa.groveRows
open Go.ChangeShapes Go.WideShapes Go.ChangeAt Go.RowKit
open Go.Proofs.YtbajekndbamcmaaW.PrintWords Go.Proofs.YtbajekndbamcmaaW.PrintOpen Go.Proofs.Ytbajekndbamcmaa.PGroveRows
open Go.ChangeMaps (open_string shut_string)
set_option linter.unusedVariables false
theorem own : ownKnob Try.prog.godebug = none := by kernel_rfl
theorem laidOut : laidOutB Try.prog = true := by kernel_rfl
set_option maxRecDepth 100000 in
theorem lifted (os : Os) (started : os.Started) (H : Type) (enc : TypeId × Value → H) :
    ReturnsInHanded {} Try.checked os 9 .any (Rows.groveRowsSpec.pre6 enc Try.prog Try.f9 Rows.groveRowsRow.domain false) (Rows.groveRowsSpec.post enc Try.prog Try.f9 false true false false) := by
  refine returnsInHanded_of_change_sized (C := Try.checked) own started (by kernel_rfl) Try.func9
    (ChangeSpec.witness6 (enc := enc) (C := Try.checked) false ⟨#[], #[(.int .u16 0), (.int .u8 0), (.int .u16 0)], []⟩ 8 (by kernel_rfl) (by kernel_rfl) (by kernel_rfl) (by kernel_rfl)) ?_
  intro W base args ds gs before hval0 hW hcnd hsz0 _
  have hsz : (DataW.weightsEach Try.prog (Try.f9.params.toList ++ Rows.groveRowsSpec.plain.varTypes Try.prog) (ds ++ gs)).all (· ≤ reachBytes) = true := hsz0
  have hval : ∀ (j : Nat) t v, Try.f9.params[j]? = some t → args[j]? = some v → Value.okWide Try.prog W .any base t v := hval0
  have hW' := hW
  obtain ⟨p, q, hA0, hV, rfl, hfz, hnd⟩ := hW
  have hA : DataW.TrodAll enc Try.prog W 0 (fun _ => true) true Try.f9.params.toList args.toList ds p := hA0
  rw [Try.params9] at hA hval hsz
  obtain ⟨v0, vs0, d0, ds0, p0, q0, hargs, rfl, rfl, h0, r0⟩ := trodAll_cons hA
  obtain ⟨v1, vs1, d1, ds1, p1, q1, rfl, rfl, rfl, h1, r1⟩ := trodAll_cons r0
  obtain ⟨v2, vs2, d2, ds2, p2, q2, rfl, rfl, rfl, h2, r2⟩ := trodAll_cons r1
  obtain ⟨rfl, rfl, rfl⟩ := trodAll_nil r2
  obtain rfl : args = #[v0, v1, v2] := by cases args; simp_all
  obtain ⟨rfl, rfl⟩ := trodVars_none hV
  have k0 := h0
  have lt0 : ∀ x ∈ p0, x.block < W.heap.size := by obtain ⟨m, hm⟩ := k0; exact DataW.trod_lt m _ _ _ hm
  have k1 := h1
  have lt1 : ∀ x ∈ p1, x.block < W.heap.size := by obtain ⟨m, hm⟩ := k1; exact DataW.trod_lt m _ _ _ hm
  have k2 := h2
  have lt2 : ∀ x ∈ p2, x.block < W.heap.size := by obtain ⟨m, hm⟩ := k2; exact DataW.trod_lt m _ _ _ hm
  obtain ⟨a0, rfl, b0⟩ := at_int Try.underlying72 (hval 0 72 v0 rfl rfl) h0 (sized_of hsz (j := 0) (t := 72) rfl rfl)
  obtain ⟨a1, rfl, b1⟩ := at_int Try.underlying5 (hval 1 5 v1 rfl rfl) h1 (sized_of hsz (j := 1) (t := 5) rfl rfl)
  obtain ⟨a2, rfl, b2⟩ := at_int Try.underlying72 (hval 2 72 v2 rfl rfl) h2 (sized_of hsz (j := 2) (t := 72) rfl rfl)
  clear hA0 hval0 hsz0 hsz
  have h := Pure.GroveRows a0 a1 a2 b0 b1 b2
  refine (gazetteerlaw6_GroveRows.calls a0 a1 a2 true W rfl h).mono fun e W' ⟨he, bel_⟩ => ?_
  have bel : Below W.heap.size W W' := by first | exact bel_ | exact bel_.below
  subst he
  exact ⟨_, rfl, _, _, _, [], _, [], hW', trodAll_mk1 (shut_bool Try.underlying4 _), (trodAll_cons_mk (Below.trod laidOut (by kernel_rfl) (of_decide_eq_true (by kernel_rfl)) k0 bel lt0) (trodAll_cons_mk (Below.trod laidOut (by kernel_rfl) (of_decide_eq_true (by kernel_rfl)) k1 bel lt1) (trodAll_cons_mk (Below.trod laidOut (by kernel_rfl) (of_decide_eq_true (by kernel_rfl)) k2 bel lt2) trodAll_mk0))), rfl, bel.frame _, fun h => by cases h⟩
theorem over : Rows.groveRowsRow.holds Try.pinned (OpenSpec.ofChange Rows.groveRowsSpec) :=
  OpenClaim.holds_of_wide 9 Try.f9 rfl rfl rfl rfl rfl rfl rfl ⟨rfl, rfl, rfl, rfl, rfl⟩ rfl rfl rfl rfl rfl (by kernel_rfl) Try.func9 (by kernel_rfl)
    (of_decide_eq_true (by kernel_rfl)) (by unfold Func.isWrapper; first | (rw [if_pos (by decide +kernel)]; kernel_rfl) | (rw [if_neg (by decide +kernel)]; exact ⟨rfl, rfl⟩))
    (fun os started H enc _ => lifted os started H enc)
theorem proved : Rows.GroveRowsSaid := over
#print axioms proved
end Go.Proofs.Ytbajekndbamcmaa.groveRows
namespace Go.Proofs.Ytbajekndbamcmaa
/-- The row, under a short name, for the claim. -/
theorem groveRows_holds : Rows.GroveRowsSaid := groveRows.proved
end Go.Proofs.Ytbajekndbamcmaa

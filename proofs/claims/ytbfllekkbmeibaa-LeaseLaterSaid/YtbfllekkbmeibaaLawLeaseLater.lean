/- The row of the law LeaseLater: from its pure statement and its walk. No condition. -/
import Derived.Test.YtbfllekkbmeibaaRows
import Derived.Test.YtbfllekkbmeibaaPLeaseLatery
import Derived.Test.YtbfllekkbmeibaaPureLeaseLater
import Derived.WalkKit
import Derived.ProofKit
import Derived.OpenShut
import Derived.ShutString
import Derived.ChangeOld
import Derived.Below
import Derived.SizedLaws
namespace Go.Proofs.Ytbfllekkbmeibaa.leaseLater
open Go.ChangeShapes Go.WideShapes Go.ChangeAt Go.RowKit
open Go.Proofs.YtbfllekkbmeibaaW.PrintWords Go.Proofs.YtbfllekkbmeibaaW.PrintOpen Go.Proofs.Ytbfllekkbmeibaa.PLeaseLater
open Go.ChangeMaps (open_string shut_string)
set_option linter.unusedVariables false
theorem own : ownKnob Try.prog.godebug = none := by kernel_rfl
theorem laidOut : laidOutB Try.prog = true := by kernel_rfl
set_option maxRecDepth 100000 in
theorem lifted (os : Os) (started : os.Started) (H : Type) (enc : TypeId × Value → H) :
    ReturnsInHanded {} Try.checked os 11 .any (Rows.leaseLaterSpec.pre6 enc Try.prog Try.f11 Rows.leaseLaterRow.domain false) (Rows.leaseLaterSpec.post enc Try.prog Try.f11 false true false false) := by
  refine returnsInHanded_of_change_sized (C := Try.checked) own started (by kernel_rfl) Try.func11
    (ChangeSpec.witness6 (enc := enc) (C := Try.checked) false ⟨#[], #[(.agg #[(.int .i64 0), (.int .i64 0), (.int .i64 0)]), (.agg #[(.int .i64 0), (.int .i64 0), (.int .i64 0)]), (.agg #[(.int .i64 0), (.int .i64 0), (.int .i64 0)])], []⟩ 8 (by kernel_rfl) (by kernel_rfl) (by kernel_rfl) (by kernel_rfl)) ?_
  intro W base args ds gs before hval0 hW hcnd hsz0 _
  have hsz : (DataW.weightsEach Try.prog (Try.f11.params.toList ++ Rows.leaseLaterSpec.plain.varTypes Try.prog) (ds ++ gs)).all (· ≤ reachBytes) = true := hsz0
  have hval : ∀ (j : Nat) t v, Try.f11.params[j]? = some t → args[j]? = some v → Value.okWide Try.prog W .any base t v := hval0
  have hW' := hW
  obtain ⟨p, q, hA0, hV, rfl, hfz, hnd⟩ := hW
  have hA : DataW.TrodAll enc Try.prog W 0 (fun _ => true) true Try.f11.params.toList args.toList ds p := hA0
  rw [Try.params11] at hA hval hsz
  obtain ⟨v0, vs0, d0, ds0, p0, q0, hargs, rfl, rfl, h0, r0⟩ := trodAll_cons hA
  obtain ⟨v1, vs1, d1, ds1, p1, q1, rfl, rfl, rfl, h1, r1⟩ := trodAll_cons r0
  obtain ⟨v2, vs2, d2, ds2, p2, q2, rfl, rfl, rfl, h2, r2⟩ := trodAll_cons r1
  obtain ⟨rfl, rfl, rfl⟩ := trodAll_nil r2
  obtain rfl : args = #[v0, v1, v2] := by cases args; simp_all
  obtain ⟨rfl, rfl⟩ := trodVars_none hV
  have k0 := h0
  have lt0 : ∀ x ∈ p0, x.block < W.heap.size := by obtain ⟨m, hm⟩ := k0; exact DataW.trod_lt m _ _ _ hm
  have k1 := h1
  have lt1 : ∀ x ∈ p1, x.block < W.heap.size := by obtain ⟨m, hm⟩ := k1; exact DataW.trod_lt m _ _ _ hm
  have k2 := h2
  have lt2 : ∀ x ∈ p2, x.block < W.heap.size := by obtain ⟨m, hm⟩ := k2; exact DataW.trod_lt m _ _ _ hm
  obtain ⟨⟨a0_0, a0_1, a0_2⟩, _, rfl, ⟨_, _, rfl, rfl, ⟨_, _, rfl, rfl, rfl⟩⟩, ⟨b0_0, b0_1, b0_2⟩⟩ := at_struct (Opens.struct Try.underlying23 (by kernel_rfl) (OpensFs.cons (Opens.int Try.underlying3) (by kernel_rfl) (OpensFs.cons (Opens.int Try.underlying3) (by kernel_rfl) (OpensFs.one (Opens.int Try.underlying3) (by kernel_rfl))))) Try.underlying23 (hval 0 23 v0 rfl rfl) h0 (sized_of hsz (j := 0) (t := 23) rfl rfl)
  obtain ⟨⟨a1_0, a1_1, a1_2⟩, _, rfl, ⟨_, _, rfl, rfl, ⟨_, _, rfl, rfl, rfl⟩⟩, ⟨b1_0, b1_1, b1_2⟩⟩ := at_struct (Opens.struct Try.underlying23 (by kernel_rfl) (OpensFs.cons (Opens.int Try.underlying3) (by kernel_rfl) (OpensFs.cons (Opens.int Try.underlying3) (by kernel_rfl) (OpensFs.one (Opens.int Try.underlying3) (by kernel_rfl))))) Try.underlying23 (hval 1 23 v1 rfl rfl) h1 (sized_of hsz (j := 1) (t := 23) rfl rfl)
  obtain ⟨⟨a2_0, a2_1, a2_2⟩, _, rfl, ⟨_, _, rfl, rfl, ⟨_, _, rfl, rfl, rfl⟩⟩, ⟨b2_0, b2_1, b2_2⟩⟩ := at_struct (Opens.struct Try.underlying23 (by kernel_rfl) (OpensFs.cons (Opens.int Try.underlying3) (by kernel_rfl) (OpensFs.cons (Opens.int Try.underlying3) (by kernel_rfl) (OpensFs.one (Opens.int Try.underlying3) (by kernel_rfl))))) Try.underlying23 (hval 2 23 v2 rfl rfl) h2 (sized_of hsz (j := 2) (t := 23) rfl rfl)
  clear hA0 hval0 hsz0 hsz
  have h := Pure.LeaseLater a0_0 a0_1 a0_2 a1_0 a1_1 a1_2 a2_0 a2_1 a2_2 b0_0 b0_1 b0_2 b1_0 b1_1 b1_2 b2_0 b2_1 b2_2
  refine (gazetteerlaw13_LeaseLater.calls a0_0 a0_1 a0_2 a1_0 a1_1 a1_2 a2_0 a2_1 a2_2 true W rfl h).mono fun e W' ⟨he, bel_⟩ => ?_
  have bel : Below W.heap.size W W' := by first | exact bel_ | exact bel_.below
  subst he
  exact ⟨_, rfl, _, _, _, [], _, [], hW', trodAll_mk1 (shut_bool Try.underlying4 _), (trodAll_cons_mk (Below.trod laidOut (by kernel_rfl) (of_decide_eq_true (by kernel_rfl)) k0 bel lt0) (trodAll_cons_mk (Below.trod laidOut (by kernel_rfl) (of_decide_eq_true (by kernel_rfl)) k1 bel lt1) (trodAll_cons_mk (Below.trod laidOut (by kernel_rfl) (of_decide_eq_true (by kernel_rfl)) k2 bel lt2) trodAll_mk0))), rfl, bel.frame _, fun h => by cases h⟩
theorem over : Rows.leaseLaterRow.holds Try.pinned (OpenSpec.ofChange Rows.leaseLaterSpec) :=
  OpenClaim.holds_of_wide 11 Try.f11 rfl rfl rfl rfl rfl rfl rfl ⟨rfl, rfl, rfl, rfl, rfl⟩ rfl rfl rfl rfl rfl (by kernel_rfl) Try.func11 (by kernel_rfl)
    (of_decide_eq_true (by kernel_rfl)) (by unfold Func.isWrapper; first | (rw [if_pos (by decide +kernel)]; kernel_rfl) | (rw [if_neg (by decide +kernel)]; exact ⟨rfl, rfl⟩))
    (fun os started H enc _ => lifted os started H enc)
theorem proved : Rows.LeaseLaterSaid := over
#print axioms proved
end Go.Proofs.Ytbfllekkbmeibaa.leaseLater
namespace Go.Proofs.Ytbfllekkbmeibaa
/-- The row, under a short name, for the claim. -/
theorem leaseLater_holds : Rows.LeaseLaterSaid := leaseLater.proved
end Go.Proofs.Ytbfllekkbmeibaa

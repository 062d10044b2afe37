/- The row of the law WeighParts: from its pure statement and its walk. No condition. -/
import Derived.Test.YtfagobhhhljajaaRows
import Derived.Test.YtfagobhhhljajaaPWeighPartsy
import Derived.Test.YtfagobhhhljajaaPureWeighParts
import Derived.WalkKit
import Derived.ProofKit
import Derived.OpenShut
import Derived.ShutString
import Derived.ChangeOld
import Derived.Below
import Derived.SizedLaws
namespace Go.Proofs.Ytfagobhhhljajaa.weighParts
open Go.ChangeShapes Go.WideShapes Go.ChangeAt Go.RowKit
open Go.Proofs.YtfagobhhhljajaaW.PrintWords Go.Proofs.YtfagobhhhljajaaW.PrintOpen Go.Proofs.Ytfagobhhhljajaa.PWeighParts
open Go.ChangeMaps (open_string shut_string)
set_option linter.unusedVariables false
theorem own : ownKnob Try.prog.godebug = none := by kernel_rfl
theorem laidOut : laidOutB Try.prog = true := by kernel_rfl
set_option maxRecDepth 100000 in
theorem lifted (os : Os) (started : os.Started) (H : Type) (enc : TypeId × Value → H) :
  ReturnsInHanded {} Try.checked os 4 .any (Rows.weighPartsSpec.pre6 enc Try.prog Try.f4 Rows.weighPartsRow.domain false) (Rows.weighPartsSpec.post enc Try.prog Try.f4 false true false false) := by
 refine returnsInHanded_of_change_sized (C := Try.checked) own started (by kernel_rfl) Try.func4
  (ChangeSpec.witness6 (enc := enc) (C := Try.checked) false ⟨#[], #[(.agg #[(.slice none 0 0), (.slice none 0 0), (.int .i64 0), (.bool false)]), (.slice none 0 0), (.slice none 0 0)], []⟩ 8 (by kernel_rfl) (by kernel_rfl) (by kernel_rfl) (by kernel_rfl)) ?_
 intro W base args ds gs before hval0 hW hcnd hsz0 _
 have hsz : (DataW.weightsEach Try.prog (Try.f4.params.toList ++ Rows.weighPartsSpec.plain.varTypes Try.prog) (ds ++ gs)).all (· ≤ reachBytes) = true := hsz0
 have hval : ∀ (j : Nat) t v, Try.f4.params[j]? = some t → args[j]? = some v → Value.okWide Try.prog W .any base t v := hval0
 have hW' := hW
 obtain ⟨p, q, hA0, hV, rfl, hfz, hnd⟩ := hW
 have hA : DataW.TrodAll enc Try.prog W 0 (fun _ => true) true Try.f4.params.toList args.toList ds p := hA0
 rw [Try.params4] at hA hval hsz
 obtain ⟨v0, vs0, d0, ds0, p0, q0, hargs, rfl, rfl, h0, r0⟩ := trodAll_cons hA
 obtain ⟨v1, vs1, d1, ds1, p1, q1, rfl, rfl, rfl, h1, r1⟩ := trodAll_cons r0
 obtain ⟨v2, vs2, d2, ds2, p2, q2, rfl, rfl, rfl, h2, r2⟩ := trodAll_cons r1
 obtain ⟨rfl, rfl, rfl⟩ := trodAll_nil r2
 obtain rfl : args = #[v0, v1, v2] := by cases args; simp_all
 obtain ⟨rfl, rfl⟩ := trodVars_none hV
 have k0 := h0
 have lt0 : ∀ x ∈ p0, x.block < W.heap.size := by obtain ⟨m, hm⟩ := k0; exact DataW.trod_lt m _ _ _ hm
 have k1 := h1
 have lt1 : ∀ x ∈ p1, x.block < W.heap.size := by obtain ⟨m, hm⟩ := k1; exact DataW.trod_lt m _ _ _ hm
 have k2 := h2
 have lt2 : ∀ x ∈ p2, x.block < W.heap.size := by obtain ⟨m, hm⟩ := k2; exact DataW.trod_lt m _ _ _ hm
 obtain ⟨⟨l0_0, l0_1, a0_2, a0_3⟩, _, rfl, ⟨_, _, rfl, ⟨A0_0, c0_0, rfl, hc0_0, hr0_0⟩, ⟨_, _, rfl, ⟨A0_1, c0_1, rfl, hc0_1, hr0_1⟩, ⟨_, _, rfl, rfl, rfl⟩⟩⟩, ⟨b0_0, b0_1, b0_2, b0_3⟩⟩ := at_struct (Opens.struct Try.underlying25 (by kernel_rfl) (OpensFs.cons (Opens.slice (b := 40) Try.underlying22 opens42 (by kernel_rfl) (by kernel_rfl)) (by kernel_rfl) (OpensFs.cons (Opens.slice (b := 48) Try.underlying23 opens44 (by kernel_rfl) (by kernel_rfl)) (by kernel_rfl) (OpensFs.cons (Opens.int Try.underlying3) (by kernel_rfl) (OpensFs.one (Opens.bool Try.underlying4) (by kernel_rfl)))))) Try.underlying25 (hval 0 25 v0 rfl rfl) h0 (sized_of hsz (j := 0) (t := 25) rfl rfl)
 obtain ⟨l1, A1, c1, rfl, hc1, hr1, b1⟩ := at_slice (Opens.slice (b := 4) Try.underlying26 (Opens.int Try.underlying21) (by kernel_rfl) (by kernel_rfl)) Try.underlying26 (hval 1 26 v1 rfl rfl) h1 (sized_of hsz (j := 1) (t := 26) rfl rfl)
 obtain ⟨l2, A2, c2, rfl, hc2, hr2, b2⟩ := at_slice (Opens.slice (b := 4) Try.underlying26 (Opens.int Try.underlying21) (by kernel_rfl) (by kernel_rfl)) Try.underlying26 (hval 2 26 v2 rfl rfl) h2 (sized_of hsz (j := 2) (t := 26) rfl rfl)
 clear hA0 hval0 hsz0 hsz
 obtain ⟨k, h⟩ := Pure.WeighParts l0_0 l0_1 a0_2 a0_3 l1 l2 b0_0 b0_1 b0_2 b1 b2
 refine (gazetteerlaw3_WeighParts.calls k _ _ l0_0 _ _ l0_1 a0_2 a0_3 _ _ l1 _ _ l2 true W hr0_0 hc0_0 hr0_1 hc0_1 hr1 hc1 hr2 hc2 rfl h).mono fun e W' ⟨he, bel_⟩ => ?_
 have bel : Below W.heap.size W W' := by first | exact bel_ | exact bel_.below
 subst he
 exact ⟨_, rfl, _, _, _, [], _, [], hW', trodAll_mk1 (shut_bool Try.underlying4 _), (trodAll_cons_mk (Below.trod laidOut (by kernel_rfl) (of_decide_eq_true (by kernel_rfl)) k0 bel lt0) (trodAll_cons_mk (Below.trod laidOut (by kernel_rfl) (of_decide_eq_true (by kernel_rfl)) k1 bel lt1) (trodAll_cons_mk (Below.trod laidOut (by kernel_rfl) (of_decide_eq_true (by kernel_rfl)) k2 bel lt2) trodAll_mk0))), rfl, bel.frame _, fun h => by cases h⟩
theorem over : Rows.weighPartsRow.holds Try.pinned (OpenSpec.ofChange Rows.weighPartsSpec) :=
 OpenClaim.holds_of_wide 4 Try.f4 rfl rfl rfl rfl rfl rfl rfl ⟨rfl, rfl, rfl, rfl, rfl⟩ rfl rfl rfl rfl rfl (by kernel_rfl) Try.func4 (by kernel_rfl)
  (of_decide_eq_true (by kernel_rfl)) (by unfold Func.isWrapper; first | (rw [if_pos (by decide +kernel)]; kernel_rfl) | (rw [if_neg (by decide +kernel)]; exact ⟨rfl, rfl⟩))
  (fun os started H enc _ => lifted os started H enc)
theorem proved : Rows.WeighPartsSaid := over
#print axioms proved
end Go.Proofs.Ytfagobhhhljajaa.weighParts
namespace Go.Proofs.Ytfagobhhhljajaa
/-- The row, under a short name, for the claim. -/
theorem weighParts_holds : Rows.WeighPartsSaid := weighParts.proved
end Go.Proofs.Ytfagobhhhljajaa

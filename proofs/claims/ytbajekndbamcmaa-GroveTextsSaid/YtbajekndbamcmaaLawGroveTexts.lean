/- The row of the law GroveTexts: from its pure statement and its walk. No condition. -/
import Derived.Test.YtbajekndbamcmaaRows
import Derived.Test.YtbajekndbamcmaaPGroveTextsy
import Derived.Test.YtbajekndbamcmaaPureGroveTexts
import Derived.WalkKit
import Derived.ProofKit
import Derived.OpenShut
import Derived.ShutString
import Derived.ChangeOld
import Derived.Below
import Derived.SizedLaws
namespace Go.Proofs.Ytbajekndbamcmaa.groveTexts
open Go.ChangeShapes Go.WideShapes Go.ChangeAt Go.RowKit
open Go.Proofs.YtbajekndbamcmaaW.PrintWords Go.Proofs.YtbajekndbamcmaaW.PrintOpen Go.Proofs.Ytbajekndbamcmaa.PGroveTexts
open Go.ChangeMaps (open_string shut_string)
set_option linter.unusedVariables false
theorem own : ownKnob Try.prog.godebug = none := by kernel_rfl
theorem laidOut : laidOutB Try.prog = true := by kernel_rfl
set_option maxRecDepth 100000 in
theorem lifted (os : Os) (started : os.Started) (H : Type) (enc : TypeId × Value → H) :
    ReturnsInHanded {} Try.checked os 4 .any (Rows.groveTextsSpec.pre6 enc Try.prog Try.f4 Rows.groveTextsRow.domain false) (Rows.groveTextsSpec.post enc Try.prog Try.f4 false true false false) := by
  refine returnsInHanded_of_change_sized (C := Try.checked) own started (by kernel_rfl) Try.func4
    (ChangeSpec.witness6 (enc := enc) (C := Try.checked) false ⟨#[], #[(.slice none 0 0), (.string ⟨#[]⟩), (.int .u8 0)], []⟩ 8 (by kernel_rfl) (by kernel_rfl) (by kernel_rfl) (by kernel_rfl)) ?_
  intro W base args ds gs before hval0 hW hcnd hsz0 _
  have hsz : (DataW.weightsEach Try.prog (Try.f4.params.toList ++ Rows.groveTextsSpec.plain.varTypes Try.prog) (ds ++ gs)).all (· ≤ reachBytes) = true := hsz0
  have hval : ∀ (j : Nat) t v, Try.f4.params[j]? = some t → args[j]? = some v → Value.okWide Try.prog W .any base t v := hval0
  have hW' := hW
  obtain ⟨p, q, hA0, hV, rfl, hfz, hnd⟩ := hW
  have hA : DataW.TrodAll enc Try.prog W 0 (fun _ => true) true Try.f4.params.toList args.toList ds p := hA0
  rw [Try.params4] at hA hval hsz
  obtain ⟨v0, vs0, d0, ds0, p0, q0, hargs, rfl, rfl, h0, r0⟩ := trodAll_cons hA
  obtain ⟨v1, vs1, d1, ds1, p1, q1, rfl, rfl, rfl, h1, r1⟩ := trodAll_cons r0
  obtain ⟨v2, vs2, d2, ds2, p2, q2, rfl, rfl, rfl, h2, r2⟩ := trodAll_cons r1
  obtain ⟨rfl, rfl, rfl⟩ := trodAll_nil r2
  obtain rfl : args = #[v0, v1, v2] := by cases args; simp_all
  obtain ⟨rfl, rfl⟩ := trodVars_none hV
  have k0 := h0
  have lt0 : ∀ x ∈ p0, x.block < W.heap.size := by obtain ⟨m, hm⟩ := k0; exact DataW.trod_lt m _ _ _ hm
  have k1 := h1
  have lt1 : ∀ x ∈ p1, x.block < W.heap.size := by obtain ⟨m, hm⟩ := k1; exact DataW.trod_lt m _ _ _ hm
  have k2 := h2
  have lt2 : ∀ x ∈ p2, x.block < W.heap.size := by obtain ⟨m, hm⟩ := k2; exact DataW.trod_lt m _ _ _ hm
  obtain ⟨l0, A0, c0, rfl, hc0, hr0, b0⟩ := at_slice (Opens.slice (b := 16) Try.underlying41 (Opens.string Try.underlying9) (by kernel_rfl) (by kernel_rfl)) Try.underlying41 (hval 0 41 v0 rfl rfl) h0 (sized_of hsz (j := 0) (t := 41) rfl rfl)
  obtain ⟨a1, rfl, b1⟩ := at_string Try.underlying9 (hval 1 9 v1 rfl rfl) h1 (sized_of hsz (j := 1) (t := 9) rfl rfl)
  obtain ⟨a2, rfl, b2⟩ := at_int Try.underlying5 (hval 2 5 v2 rfl rfl) h2 (sized_of hsz (j := 2) (t := 5) rfl rfl)
  clear hA0 hval0 hsz0 hsz
  have h := Pure.GroveTexts l0 a1 a2 b0 b1 b2
  refine (gazetteerlaw6_GroveTexts.calls _ _ l0 a1 a2 true W hr0 hc0 rfl h).mono fun e W' ⟨he, bel_⟩ => ?_
  have bel : Below W.heap.size W W' := by first | exact bel_ | exact bel_.below
  subst he
  exact ⟨_, rfl, _, _, _, [], _, [], hW', trodAll_mk1 (shut_bool Try.underlying4 _), (trodAll_cons_mk (Below.trod laidOut (by kernel_rfl) (of_decide_eq_true (by kernel_rfl)) k0 bel lt0) (trodAll_cons_mk (Below.trod laidOut (by kernel_rfl) (of_decide_eq_true (by kernel_rfl)) k1 bel lt1) (trodAll_cons_mk (Below.trod laidOut (by kernel_rfl) (of_decide_eq_true (by kernel_rfl)) k2 bel lt2) trodAll_mk0))), rfl, bel.frame _, fun h => by cases h⟩
theorem over : Rows.groveTextsRow.holds Try.pinned (OpenSpec.ofChange Rows.groveTextsSpec) :=
  OpenClaim.holds_of_wide 4 Try.f4 rfl rfl rfl rfl rfl rfl rfl ⟨rfl, rfl, rfl, rfl, rfl⟩ rfl rfl rfl rfl rfl (by kernel_rfl) Try.func4 (by kernel_rfl)
    (of_decide_eq_true (by kernel_rfl)) (by unfold Func.isWrapper; first | (rw [if_pos (by decide +kernel)]; kernel_rfl) | (rw [if_neg (by decide +kernel)]; exact ⟨rfl, rfl⟩))
    (fun os started H enc _ => lifted os started H enc)
theorem proved : Rows.GroveTextsSaid := over
#print axioms proved
end Go.Proofs.Ytbajekndbamcmaa.groveTexts
namespace Go.Proofs.Ytbajekndbamcmaa
/-- The row, under a short name, for the claim. -/
theorem groveTexts_holds : Rows.GroveTextsSaid := groveTexts.proved
end Go.Proofs.Ytbajekndbamcmaa

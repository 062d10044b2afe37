/- The tied card of the law ScalarJoins: from its pure statement and its walk. Its row lists two tables of unicode/utf8 (laid); the card ties them to the program's text. No condition else. -/
import Derived.Test.YtdmahdgcfaieoaaDoorRows
import Derived.Test.YtdmahdgcfaieoaaDoorCards
import Derived.Test.YtdmahdgcfaieoaaDoorTie
import Derived.Test.YtdmahdgcfaieoaaDoorPScalarJoinsy
import Derived.Test.YtdmahdgcfaieoaaDoorPureScalarJoins
import Derived.WalkKit
import Derived.ProofKit
import Derived.OpenShut
import Derived.ShutString
import Derived.ChangeOld
import Derived.Below
import Derived.SizedLaws
import Derived.Lay
import Derived.LaidOnce
import Derived.LaidMore
import Derived.SevenTiedAt
import Derived.Lib.LaidU8T
import GoSem.PinnedTables
namespace Go.Proofs.YtdmahdgcfaieoaaDoor.scalarJoins
open Go.ChangeShapes Go.WideShapes Go.ChangeAt Go.RowKit
open Go.Proofs.YtdmahdgcfaieoaaDoorW.PrintWords Go.Proofs.YtdmahdgcfaieoaaDoorW.PrintOpen Go.Proofs.YtdmahdgcfaieoaaDoor.PScalarJoins
open Go.ChangeMaps (open_string shut_string)
open Go.Proofs.YtdmahdgcfaieoaaDoorW.PrintMore
set_option linter.unusedVariables false
theorem first_eq : Rows.laid_unicode_utf8_first = Lib.firstData := by kernel_rfl
theorem accept_eq : (Rows.laid_unicode_utf8_acceptRanges : DataW Unit) = Lib.acceptData := by kernel_rfl
theorem own : ownKnob Tryd.prog.godebug = none := by kernel_rfl
theorem laidOut : laidOutB Tryd.prog = true := by kernel_rfl
set_option maxRecDepth 100000 in
theorem lifted (os : Os) (started : os.Started) (H : Type) (enc : TypeId × Value → H) :
    ReturnsInHanded {} Tryd.checked os 6 .any (fun w args => (Rows.scalarJoinsSpec.pre enc Tryd.prog Tryd.f6 [] false w args ∧ laidMetH Tryd.prog Rows.scalarJoinsRow.laid w) ∧ sizedMet enc Tryd.prog Tryd.f6 (OpenSpec.ofChange Rows.scalarJoinsSpec) false w args)
      (Rows.scalarJoinsSpec.post enc Tryd.prog Tryd.f6 false true false false) := by
  refine returnsInHanded_of_change_and (C := Tryd.checked) (X := fun w _ => laidMetH Tryd.prog Rows.scalarJoinsRow.laid w) (fun _ _ _ hh h => h.of_heap hh) own started (by kernel_rfl) Tryd.func6
    (ChangeSpec.witness_shaped (enc := enc) (C := Tryd.checked) (os := os) (X := fun w _ => laidMetH Tryd.prog Rows.scalarJoinsRow.laid w) false (World.laidAll Tryd.prog os Rows.scalarJoinsRow.laid) #[(.slice none 0 0), (.slice none 0 0)] 8 (World.laidAll_os _ _ _)
      (World.shaped_of_ZipB (by kernel_rfl) (by kernel_rfl)) (by kernel_rfl) (by kernel_rfl) (by kernel_rfl)
      (by rw [MakeChecks.laidMetH_plain _ _ _ (by kernel_rfl)]; exact laidMet_laidAll _ (by kernel_rfl) (by kernel_rfl))) ?_
  intro W base args ds gs before hval0 hW hcnd hsz0 hL0 _
  have hsz : (DataW.weightsEach Tryd.prog (Tryd.f6.params.toList ++ Rows.scalarJoinsSpec.plain.varTypes Tryd.prog) (ds ++ gs)).all (· ≤ reachBytes) = true := hsz0
  have hval : ∀ (j : Nat) t v, Tryd.f6.params[j]? = some t → args[j]? = some v → Value.okWide Tryd.prog W .any base t v := hval0
  have hW' := hW
  obtain ⟨p, q, hA0, hV, rfl, hfz, hnd⟩ := hW
  have hA : DataW.TrodAll enc Tryd.prog W 0 (fun _ => true) true Tryd.f6.params.toList args.toList ds p := hA0
  rw [Tryd.params6] at hA hval hsz
  obtain ⟨v0, vs0, d0, ds0, p0, q0, hargs, rfl, rfl, h0, r0⟩ := trodAll_cons hA
  obtain ⟨v1, vs1, d1, ds1, p1, q1, rfl, rfl, rfl, h1, r1⟩ := trodAll_cons r0
  obtain ⟨rfl, rfl, rfl⟩ := trodAll_nil r1
  obtain rfl : args = #[v0, v1] := by cases args; simp_all
  obtain ⟨rfl, rfl⟩ := trodVars_none hV
  have k0 := h0
  have lt0 : ∀ x ∈ p0, x.block < W.heap.size := by obtain ⟨m, hm⟩ := k0; exact DataW.trod_lt m _ _ _ hm
  have k1 := h1
  have lt1 : ∀ x ∈ p1, x.block < W.heap.size := by obtain ⟨m, hm⟩ := k1; exact DataW.trod_lt m _ _ _ hm
  obtain ⟨l0, A0, c0, rfl, hc0, hr0, b0⟩ := at_slice (Opens.slice (b := 4) Tryd.underlying23 (Opens.int Tryd.underlying21) (by kernel_rfl) (by kernel_rfl)) Tryd.underlying23 (hval 0 23 v0 rfl rfl) h0 (sized_of hsz (j := 0) (t := 23) rfl rfl)
  obtain ⟨l1, A1, c1, rfl, hc1, hr1, b1⟩ := at_slice (Opens.slice (b := 4) Tryd.underlying23 (Opens.int Tryd.underlying21) (by kernel_rfl) (by kernel_rfl)) Tryd.underlying23 (hval 1 23 v1 rfl rfl) h1 (sized_of hsz (j := 1) (t := 23) rfl rfl)
  clear hA0 hval0 hsz0 hsz
  have hL := hL0
  rw [MakeChecks.laidMetH_plain _ _ _ (by kernel_rfl)] at hL
  have HU := Aside0.mk (show UT W from utf8Tabs_of_readsT (U8Types.of196 Tryd.laysValid) ⟨by kernel_rfl, by kernel_rfl, by kernel_rfl, by kernel_rfl, by kernel_rfl, by kernel_rfl, by kernel_rfl⟩ (first_eq ▸ Lib.laidMet.reads hL (.tail _ (.head _))) (accept_eq ▸ Lib.laidMet.reads hL (.head _)))
  have HB := Aside0.mk (Below.refl W.heap.size W)
  obtain ⟨k, h⟩ := Pure.ScalarJoins l0 l1 b0 b1
  refine (gazetteerlaw1_ScalarJoins.calls k _ _ l0 _ _ l1 true W hr0 hc0 hr1 hc1 rfl h).mono fun e W' ⟨he, bel_⟩ => ?_
  have bel : Below W.heap.size W W' := by first | exact bel_ | exact bel_.below
  subst he
  exact ⟨_, rfl, _, _, _, [], _, [], hW', trodAll_mk1 (shut_bool Tryd.underlying4 _), (trodAll_cons_mk (Below.trod laidOut (by kernel_rfl) (of_decide_eq_true (by kernel_rfl)) k0 bel lt0) (trodAll_cons_mk (Below.trod laidOut (by kernel_rfl) (of_decide_eq_true (by kernel_rfl)) k1 bel lt1) trodAll_mk0)), rfl, bel.frame _, fun h => by cases h⟩
theorem over : Rows.scalarJoinsRow.holds Tryd.pinned (OpenSpec.ofChange Rows.scalarJoinsSpec) :=
  OpenClaim.holds_of_wide 6 Tryd.f6 rfl rfl rfl rfl rfl rfl rfl ⟨rfl, rfl, rfl, rfl, rfl⟩ rfl rfl rfl rfl rfl (by kernel_rfl) Tryd.func6 (by kernel_rfl)
    (of_decide_eq_true (by kernel_rfl)) (by unfold Func.isWrapper; first | (rw [if_pos (by decide +kernel)]; kernel_rfl) | (rw [if_neg (by decide +kernel)]; exact ⟨rfl, rfl⟩))
    (fun os started H enc _ => lifted os started H enc)
theorem proved : Rows.ScalarJoinsCardSaid :=
  Claim7.holds_tied_plain_at .later [] [.data, .pinned] true Rows.scalarJoinsCard.stood.harness false over (fun _ h => by cases h) (by kernel_rfl) (fun _ h => by cases h) scalarJoins_row_tie rfl ⟨rfl, rfl⟩ (by kernel_rfl) rfl
    (fun f fn hf hfn => by
      obtain rfl : f = 6 := Option.some.inj ((show Tryd.prog.funcNamed Rows.scalarJoinsRow.func = some 6 by kernel_rfl).symm.trans hf) |>.symm
      obtain rfl : fn = Tryd.f6 := (Option.some.inj (Tryd.func6.symm.trans hfn)).symm
      exact ⟨by kernel_rfl, fun j t ht => by
        rw [Tryd.params6] at ht
        have hm : t ∈ ([23, 23] : List Nat) := by simpa using Array.mem_of_getElem? ht
        have hall : (([23, 23] : List Nat).all fun u => !Tryd.prog.wantsStandIn u) = true := by kernel_rfl
        exact (show Tryd.prog.wantsStandIn t = false by simpa using List.all_eq_true.1 hall t hm)⟩)
    (by kernel_rfl)
#print axioms proved
end Go.Proofs.YtdmahdgcfaieoaaDoor.scalarJoins
namespace Go.Proofs.YtdmahdgcfaieoaaDoor
/-- The row, under a short name, for the claim. -/
theorem scalarJoins_holds : Rows.ScalarJoinsCardSaid := scalarJoins.proved
end Go.Proofs.YtdmahdgcfaieoaaDoor

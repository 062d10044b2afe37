-- printed by a program of this session (wip/tools), a turned form of the kit's print
import Derived.Test.YtfagobhhhljajaaPWeighPartsx0
import Derived.Test.YtfagobhhhljajaaPWeighPartsx2
import Derived.Test.YtfagobhhhljajaaPWeighPartsx3
namespace Go.Proofs.Ytfagobhhhljajaa.PWeighParts
open Go.RowKit Go.Proofs.YtfagobhhhljajaaW.PrintWords Go.Proofs.YtfagobhhhljajaaW.PrintLast Go.Proofs.YtfagobhhhljajaaW.PrintMore
attribute [local go_sem] max2_int min2_int max_two min_two max_three min_three max_four min_four max2_str min2_str str_geq str_leq str_gtr   -- for this text's walks alone
set_option linter.unusedVariables false
set_option linter.unusedSimpArgs false

/-! ### weigh_Implied: function 18 -/
def weigh_Implied.f (a0 : Int) : Option (Int × Int × Int × Int × Int × Int) := some (wrap64 (64000 + (wrap64 (wrap32 (Int.tdiv a0 3999)))), 32, 2, wrap64 (60001 + (wrap64 (Int.tmod a0 3999))), 0, 0)
set_option maxHeartbeats 8000000 in
set_option maxRecDepth 100000 in
theorem weigh_Implied.calls (a0 : Int) (r1 : Int) (r2 : Int) (r3 : Int) (r4 : Int) (r5 : Int) (r6 : Int) (w : World) (h : weigh_Implied.f a0 = some (r1, r2, r3, r4, r5, r6)) :
  Calls Try.prog 18 #[.int .i32 a0] w fun e w' => e = .returned (.agg #[.int .i64 r1, .int .i64 r2, .int .i64 r3, .int .i64 r4, .int .i64 r5, .int .i64 r6]) ∧ Below w.heap.size w w' := by
 have hu46 := Try.underlying46
 have hu39 := Try.underlying39
 have HB := Aside0.mk (Below.refl w.heap.size w)
 have H : (some (wrap64 (64000 + (wrap64 (wrap32 (Int.tdiv a0 3999)))), 32, 2, wrap64 (60001 + (wrap64 (Int.tmod a0 3999))), 0, 0)) = some (r1, r2, r3, r4, r5, r6) := h
 clear h
 simp only [Option.some.injEq, Prod.mk.injEq] at H
 obtain ⟨rfl, rfl, rfl, rfl, rfl, rfl⟩ := H
 go_enter Try.func18, Try.ntmps18
 go_wp2_with (first | ((with_reducible refine gate_dst (N := 2) rfl ?_); refine box_event ?hg (N := 2) ?hd (cs := #[.int .i64 0, .int .i64 0, .int .i64 0, .int .i64 0, .int .i64 0, .int .i64 0]) (t := 46) ?hr ?_; (case hd => rfl); (case hg => rfl); (case hr => first | (go_simp; done) | (go_simp; rfl)); intro gb125 hg w2 hbox hb; have n0_ := Aside0.mk (below_step (by repeat (first | (with_reducible first | exact HB.out | apply below_alloc | apply pw_below_drewN | apply below_drew1) | exact HB.out)) hb); have n1_ := Aside0.mk (hbox); have n2_ := Aside0.mk ((by rw [hg]; exact (below_size (by repeat (first | (with_reducible first | exact HB.out | apply below_alloc | apply pw_below_drewN | apply below_drew1) | exact HB.out))) : w.heap.size ≤ gb125)); have n3_ := Aside0.mk ((by rw [hg]; exact (below_size (by repeat (first | (with_reducible first | exact HB.out | apply below_alloc | apply pw_below_drewN | apply below_drew1) | exact HB.out))) : w.heap.size ≤ gb125)); clear HB; have HB := n0_; have BK125 := n1_; have GW125 := n2_; have GE125 := n3_; clear n0_ n1_ n2_ n3_; clear hb hbox hg; have hcz3_0 : w2.cell? ⟨gb125, 0, none⟩ = some (.int .i64 0) := (blk_cell BK125.out 0).trans rfl; have hcz3_1 : w2.cell? ⟨gb125, 1, none⟩ = some (.int .i64 0) := (blk_cell BK125.out 1).trans rfl; have hcz3_2 : w2.cell? ⟨gb125, 2, none⟩ = some (.int .i64 0) := (blk_cell BK125.out 2).trans rfl; have hcz3_3 : w2.cell? ⟨gb125, 3, none⟩ = some (.int .i64 0) := (blk_cell BK125.out 3).trans rfl; have hcz3_4 : w2.cell? ⟨gb125, 4, none⟩ = some (.int .i64 0) := (blk_cell BK125.out 4).trans rfl; have hcz3_5 : w2.cell? ⟨gb125, 5, none⟩ = some (.int .i64 0) := (blk_cell BK125.out 5).trans rfl; have hfz3_0 := blk_frozen BK125.out 0; have hfz3_1 := blk_frozen BK125.out 1; have hfz3_2 := blk_frozen BK125.out 2; have hfz3_3 := blk_frozen BK125.out 3; have hfz3_4 := blk_frozen BK125.out 4; have hfz3_5 := blk_frozen BK125.out 5))
 refine bodyPost_ret (results_cell_row rfl _ _ gb125 46 #[.int .i64 (wrap64 (64000 + (wrap64 (wrap32 (Int.tdiv a0 3999))))), .int .i64 32, .int .i64 2, .int .i64 (wrap64 (60001 + (wrap64 (Int.tmod a0 3999)))), .int .i64 0, .int .i64 0] (0, 0) _ rfl (by (with_reducible repeat (first | refine blk_drewN ?_ _ | refine blk_drew ?_ | refine blk_alloc ?_ _)); refine blk_put (cs := #[.int .i64 (wrap64 (64000 + (wrap64 (wrap32 (Int.tdiv a0 3999))))), .int .i64 32, .int .i64 2, .int .i64 (wrap64 (60001 + (wrap64 (Int.tmod a0 3999)))), .int .i64 0, .int .i64 0]) ?_ 5 _ rfl; (with_reducible repeat (first | refine blk_drewN ?_ _ | refine blk_drew ?_ | refine blk_alloc ?_ _)); refine blk_put (cs := #[.int .i64 (wrap64 (64000 + (wrap64 (wrap32 (Int.tdiv a0 3999))))), .int .i64 32, .int .i64 2, .int .i64 (wrap64 (60001 + (wrap64 (Int.tmod a0 3999)))), .int .i64 0, .int .i64 0]) ?_ 4 _ rfl; (with_reducible repeat (first | refine blk_drewN ?_ _ | refine blk_drew ?_ | refine blk_alloc ?_ _)); refine blk_put (cs := #[.int .i64 (wrap64 (64000 + (wrap64 (wrap32 (Int.tdiv a0 3999))))), .int .i64 32, .int .i64 2, .int .i64 0, .int .i64 0, .int .i64 0]) ?_ 3 _ rfl; (with_reducible repeat (first | refine blk_drewN ?_ _ | refine blk_drew ?_ | refine blk_alloc ?_ _)); refine blk_put (cs := #[.int .i64 (wrap64 (64000 + (wrap64 (wrap32 (Int.tdiv a0 3999))))), .int .i64 32, .int .i64 0, .int .i64 0, .int .i64 0, .int .i64 0]) ?_ 2 _ rfl; (with_reducible repeat (first | refine blk_drewN ?_ _ | refine blk_drew ?_ | refine blk_alloc ?_ _)); refine blk_put (cs := #[.int .i64 (wrap64 (64000 + (wrap64 (wrap32 (Int.tdiv a0 3999))))), .int .i64 0, .int .i64 0, .int .i64 0, .int .i64 0, .int .i64 0]) ?_ 1 _ rfl; (with_reducible repeat (first | refine blk_drewN ?_ _ | refine blk_drew ?_ | refine blk_alloc ?_ _)); refine blk_put (cs := #[.int .i64 0, .int .i64 0, .int .i64 0, .int .i64 0, .int .i64 0, .int .i64 0]) ?_ 0 _ rfl; (with_reducible repeat (first | refine blk_drewN ?_ _ | refine blk_drew ?_ | refine blk_alloc ?_ _)); exact BK125.out) Try.underlying46 rfl (by kernel_rfl)) rfl ?_
 exact ⟨by first | rfl | (simp [errW_none, errW_some] <;> rfl) | (simp [*, errW_none, errW_some] <;> rfl), by repeat (first | (with_reducible first | exact HB.out | apply below_alloc | apply pw_below_drewN | apply below_drew1 | refine below_set ?_ GE125.out) | exact HB.out)⟩

/-! ### slices_ContainsFunc_rune_rune: function 38 -/
def slices_ContainsFunc_rune_rune.f (l0 : List Int) : Option Bool := if (l0.length : Int) ≤ 9223372036854775806 then some (l0.any (fun r => !mayB r)) else none
set_option maxHeartbeats 2000000 in
set_option maxRecDepth 100000 in
theorem normal1_any (r : Int) (w : World) : Calls Try.prog 39 #[.int .i32 r] w fun e w' => e = .returned (.bool (!mayB r)) ∧ Below w.heap.size w w' := by
 have FF := Aside0.mk (may_calls r w)
 go_enter Try.func39, Try.ntmps39
 go_wp2_with fail
 refine FF.out.mono ?_
 rintro e w1 ⟨rfl, hb⟩
 have HB := Aside0.mk hb.below
 clear hb FF
 go_wp2_with fail
 go_ret
 exact ⟨rfl, HB.out⟩
set_option maxHeartbeats 2000000 in
set_option maxRecDepth 100000 in
theorem indexRune_any (A0 : Option Addr) (c0 : Nat) (l0 : List Int) (w : World) (hr : Kd.C (Kd.int .i32) w A0 l0.length l0) (hl : (l0.length : Int) ≤ 9223372036854775806) :
  Calls Try.prog 56 #[.slice A0 l0.length c0, .func (.func 39) #[] #[]] w
   fun r w' => r = .returned (.int .i64 (firstAt (fun r => !mayB r) l0)) ∧ Below w.heap.size w w' := by
 have HR := Aside0.mk hr
 have HL := Aside0.mk hl
 clear hr hl
 go_enter Try.func56, Try.ntmps56
 go_wp2
 go_loopw [8] (fun i wr => ∃ k : Nat, i = .int .i64 k ∧ Aside0 (k ≤ l0.length) ∧ Aside0 (Below w.heap.size w wr) ∧ Aside0 (∀ j < k, (fun r => !mayB r) (l0.getD j 0) = false)) (fun i _ => l0.length - (intOf i).toNat)
 case atStart => exact ⟨0, rfl, ⟨by omega⟩, ⟨Below.refl _ _⟩, ⟨by omega⟩⟩
 case round =>
  obtain ⟨k, rfl, HK, HB, HA⟩ := hrel
  by_cases hlt : (k : Int) < (l0.length : Int)
  ·
   have hb0 : decide ((k : Int) < (l0.length : Int)) = true := decide_eq_true hlt
   have KL := Aside0.mk (show k < l0.length by omega)
   obtain ⟨ad, e, hx0⟩ := Kd.at_int (i := (k : Int)) HR.out (by omega) hlt
   cases e
   simp only [Int.toNat_natCast] at hx0
   replace hx0 := cell_keep HB.out hx0
   obtain ⟨r, hr⟩ : ∃ r, r = rd l0 (k : Int) := ⟨_, rfl⟩
   rw [← hr] at hx0
   have HRD : Aside0 (l0.getD k 0 = r) := ⟨by rw [hr]; simp [rd]⟩
   have HW := Aside0.mk (show wrap64 ((k : Int) + 1) = ((k + 1 : Nat) : Int) by have := HL.out; unfold wrap64; omega)
   have p1 := eq_true (show 0 ≤ (k : Int) by omega)
   have q1 := eq_true hlt
   have F := Aside0.mk (normal1_any r wr)
   clear hlt hr
   cases hh : mayB r
   ·
    rw [hh] at F
    have HH : Aside0 ((fun r => !mayB r) (l0.getD k 0) = true) := ⟨by show (!mayB (l0.getD k 0)) = true; rw [HRD.out, hh]; rfl⟩
    clear hh
    go_wp2_with fail
    refine F.out.mono ?_
    rintro z w1 ⟨rfl, hb⟩
    have HB1 := aside_step hb HB
    clear hb
    go_wp2_with fail
    go_ret
    exact ⟨ret_int (firstAt_at (d := (0 : Int)) KL.out HH.out HA.out).symm, HB1.out⟩
   ·
    rw [hh] at F
    have HH : Aside0 ((fun r => !mayB r) (l0.getD k 0) = false) := ⟨by show (!mayB (l0.getD k 0)) = false; rw [HRD.out, hh]; rfl⟩
    clear hh
    go_wp2_with fail
    refine F.out.mono ?_
    rintro z w1 ⟨rfl, hb⟩
    have HB1 := aside_step hb HB
    clear hb
    go_wp2_with fail
    go_roundw
    case rel =>
     refine ⟨k + 1, by rw [HW.out], ⟨by have := KL.out; omega⟩, HB1, ⟨fun j hj => ?_⟩⟩
     rcases Nat.lt_succ_iff_lt_or_eq.1 hj with h | rfl
     ·
      exact HA.out j h
     ·
      exact HH.out
    case measure => have := KL.out; rw [HW.out]; simp [intOf]; omega
  ·
   obtain rfl : k = l0.length := by have := HK.out; omega
   clear hlt
   go_wp2
   go_ret
   exact ⟨ret_int (firstAt_none (d := (0 : Int)) (fun j hj => HA.out j hj)).symm, HB.out⟩
theorem firstAt_any {α : Type} (p : α → Bool) (l : List α) : decide (0 ≤ firstAt p l) = l.any p := by
 unfold firstAt
 cases h : l.findIdx? p with
 | none =>
  have : l.any p = false := by
   rw [List.any_eq_false]
   intro x hx
   have := List.findIdx?_eq_none_iff.1 h x hx
   simp [this]
  rw [this]; rfl
 | some i =>
  obtain ⟨hi, hp, _⟩ := List.findIdx?_eq_some_iff_getElem.1 h
  have : l.any p = true := by
   rw [List.any_eq_true]
   exact ⟨l[i], List.getElem_mem _, hp⟩
  rw [this]; simp
set_option maxHeartbeats 8000000 in
set_option maxRecDepth 100000 in
theorem slices_ContainsFunc_rune_rune.calls (A0 : Option Addr) (c0 : Nat) (l0 : List Int) (r : Bool) (w : World) (hr0 : Kd.C (Kd.int .i32) w A0 l0.length l0) (hc0 : l0.length ≤ c0) (h : slices_ContainsFunc_rune_rune.f l0 = some r) :
  Calls Try.prog 38 #[.slice A0 l0.length c0, .func (.func 39) #[] #[]] w fun e w' => e = .returned (.bool r) ∧ Below w.heap.size w w' := by
 unfold slices_ContainsFunc_rune_rune.f at h
 split at h
 case isFalse => cases h
 case isTrue hl =>
 obtain rfl := Option.some.inj h
 have FF := Aside0.mk (indexRune_any A0 c0 l0 w hr0 hl)
 clear hr0 hc0 h hl
 go_enter Try.func38, Try.ntmps38
 go_wp2_with fail
 refine FF.out.mono ?_
 rintro e w1 ⟨rfl, hb⟩
 have HB := Aside0.mk hb
 clear hb FF
 go_wp2_with fail
 go_ret
 rw [← firstAt_any]
 exact ⟨rfl, HB.out⟩


/-! ### lore_Normal_1: function 39 -/
def lore_Normal_1.f (k : Nat) (a0 : Int) : Option (Bool) := (scalar_May.f k a0).bind fun t126 => (some (!t126))
theorem lore_Normal_1.mono : ∀ a0 k, LeO (lore_Normal_1.f k a0) (lore_Normal_1.f (k + 1) a0) := by
 intro a0 k
 unfold lore_Normal_1.f
 repeat' first
   | (with_reducible exact scalar_May.mono _ _)
   | (with_reducible exact LeO.refl _)
   | (with_reducible exact LeO.none _)
   | (with_reducible refine LeO.ite ?_ ?_)
   | (with_reducible refine LeO.bind ?_ (fun _ => ?_))
   | exact scalar_May.mono _ _
   | exact LeO.none _
   | refine LeO.ite ?_ ?_
   | refine LeO.bind ?_ (fun _ => ?_)
set_option maxHeartbeats 8000000 in
set_option maxRecDepth 100000 in
theorem lore_Normal_1.calls (k : Nat) (a0 : Int) (r : Bool) (w : World) (h : lore_Normal_1.f k a0 = some r) :
  Calls Try.prog 39 #[.int .i32 a0] w fun e w' => e = .returned (.bool r) ∧ Drawn0 w w' := by
 have H : ((scalar_May.f k a0).bind fun t126 => (some (!t126))) = some r := h
 clear h
 replace H := Option.bind_eq_some_iff.mp H
 obtain ⟨t126, A20, H⟩ := H
 replace H : (some (!t126)) = some r := H
 have A2 := Aside0.mk A20
 clear A20
 obtain rfl := Option.some.inj H
 go_enter Try.func39, Try.ntmps39
 go_wp2_with (first | ((with_reducible refine gate_callee (f := 40) rfl ?_); refine goesL_ (some 4) rfl rfl Try.func40 (by kernel_rfl) rfl #[.int .i32 a0] rfl (by (try simp only [List.map_toArray, List.map_cons, List.map_nil]); first | done | rfl | (simp only [List.length_drop, List.length_take]; done) | (simp only [List.length_drop, List.length_take]; rfl)) ?_; (with_reducible refine (scalar_May.calls k a0 t126 _ A2.out).mono ?_); rintro e w' ⟨rfl, ⟨nd, rfl⟩⟩; refine ⟨_, rfl, ?_⟩))
 go_ret
 exact ⟨by first | rfl | (simp; done) | (simp [*]; done), by repeat (first | exact Drawn0.refl _ | apply Drawn0.step)⟩

/-! ### slices_Clone_rune_rune: function 44 -/
def slices_Clone_rune_rune.f (l0 : List Int) : Option (List Int) := if l0.length * 4 ≤ 140737488355328 then some l0 else none

set_option maxHeartbeats 8000000 in
set_option maxRecDepth 100000 in
theorem slices_Clone_rune_rune.calls (A0 : Option Addr) (c0 : Nat) (l0 : List Int) (r : List Int) (w : World) (hr0 : Kd.C (Kd.int .i32) w A0 l0.length l0) (hc0 : l0.length ≤ c0) (h : slices_Clone_rune_rune.f l0 = some r) :
  Calls Try.prog 44 #[.slice A0 l0.length c0] w fun e w' => ∃ v0_ : Value, e = .returned (v0_) ∧ Kd.R (Kd.int .i32) 21 w' w.heap.size (fun _ => True) v0_ r ∧ Below w.heap.size w w' := by
 unfold slices_Clone_rune_rune.f at h
 split at h
 case isFalse => cases h
 case isTrue hl =>
 obtain rfl := Option.some.inj h
 have he := fun wx => run_eql_row_nil (P := Try.prog) wx 26 _ A0 l0.length c0 Try.underlying26
 cases A0 with
 | none =>
  obtain rfl := C_none hr0
  have he0 : ∀ wx, (binOp .eql 26 (.slice none 0 c0) (.slice none 0 0)).run Try.prog wx = .ok (.bool true) wx := fun wx => he wx
  clear hr0 hc0 h hl he
  go_enter Try.func44, Try.ntmps44
  go_wp2
  go_ret
  exact ⟨_, rfl, Kd.R_nil _ _ _ _ _, Below.refl _ _⟩
 | some ad =>
  have HR := Aside0.mk hr0
  have HL := Aside0.mk hl
  clear hr0 hc0 h hl
  go_enter Try.func44, Try.ntmps44
  go_wp2_with (first
   | ((with_reducible refine gate_dst (N := 5) rfl ?_); refine Kd.R_lit (Kd.int .i32) w.heap.size 21 ?hg (N := 5) ?hd (xs := ([] : List Int)) (inner := []) (ok := fun _ => True) (okp := fun _ => True) ?hr ?hp (fun _ hk => hk) trivial (Below.refl _ _) (Nat.le_refl _) (by simp) ?_; (case hd => rfl); (case hg => rfl); (case hr => first | (go_simp; done) | (go_simp; rfl)); (case hp => exact (Reps.none _ _)); intro v1 w1 ho1 hb1 hg_ hnew_; have HO := Aside0.mk ho1; have HB := Aside0.mk hb1; clear hg_ hnew_ ho1 hb1)
   | ((with_reducible refine gate_builtin (b := .append) (xs := #[.tmp 5, .tmp 6]) rfl ?_); at_builtin; refine Kd.R_append_rows (Kd.int .i32) (w0 := w) w.heap.size rfl (.tmp 5) (.tmp 6) 26 21 (.int .i32 0) 4 rfl Try.underlying26 info21 rfl (by decide) (by omega) v1 [] l0 _ _ _ (fun _ => True) (fun _ => False) rfl rfl ?aO ?aR (fun _ _ h => h) (fun _ h => h.elim) (fun _ _ => trivial) ?aB ?aS ?aL ?_; (case aO => exact HO.out); (case aR => exact Kd.C_below HR.out HB.out); (case aB => exact HB.out); (case aS => exact below_size HB.out); (case aL => have := HL.out; simpa using this); intro v2 w2 ho2 hb2 hg2 hat2; have HO2 := Aside0.mk ho2; have HB2 := Aside0.mk hb2; clear ho2 hb2 hg2 hat2))
  go_ret
  exact ⟨_, rfl, HO2.out, HB2.out⟩
-- lore.Order: marks in order. The sort of package slices and the closures are walked by hand.

-- NOT PRINTED: function 72 (slices_insertionSortCmpFunc_rune)

-- NOT PRINTED: function 75 (slices_swapRangeCmpFunc_rune)

-- NOT PRINTED: function 74 (slices_rotateCmpFunc_rune)

-- NOT PRINTED: function 73 (slices_symMergeCmpFunc_rune)

-- NOT PRINTED: function 70 (slices_stableCmpFunc_rune)

-- NOT PRINTED: function 66 (slices_SortStableFunc_rune_rune)

/-! ### cmp_isNaN_int: function 71 -/
def cmp_isNaN_int.f (a0 : Int) : Option (Bool) := some (a0 != a0)
set_option maxHeartbeats 8000000 in
set_option maxRecDepth 100000 in
theorem cmp_isNaN_int.calls (a0 : Int) (r : Bool) (w : World) (h : cmp_isNaN_int.f a0 = some r) :
  Calls Try.prog 71 #[.int .i64 a0] w fun e w' => e = .returned (.bool r) ∧ Drawn0 w w' := by
 have H : (some (a0 != a0)) = some r := h
 clear h
 obtain rfl := Option.some.inj H
 go_enter Try.func71, Try.ntmps71
 go_wp2
 go_ret
 exact ⟨by first | rfl | (simp; done) | (simp [*]; done), by repeat (first | exact Drawn0.refl _ | apply Drawn0.step)⟩

/-! ### cmp_Compare_int: function 68 -/
def cmp_Compare_int.f (a0 : Int) (a1 : Int) : Option (Int) := (cmp_isNaN_int.f a0).bind fun t127 => ((cmp_isNaN_int.f a1).bind fun t128 => (if t127 = true then (if t128 = true then (some 0) else (some (-1))) else (if t128 = true then (some 1) else (if a0 < a1 then (some (-1)) else (if a0 > a1 then (some 1) else (some 0))))))
set_option maxHeartbeats 8000000 in
set_option maxRecDepth 100000 in
theorem cmp_Compare_int.calls (a0 : Int) (a1 : Int) (r : Int) (w : World) (h : cmp_Compare_int.f a0 a1 = some r) :
  Calls Try.prog 68 #[.int .i64 a0, .int .i64 a1] w fun e w' => e = .returned (.int .i64 r) ∧ Drawn0 w w' := by
 have H : ((cmp_isNaN_int.f a0).bind fun t127 => ((cmp_isNaN_int.f a1).bind fun t128 => (if t127 = true then (if t128 = true then (some 0) else (some (-1))) else (if t128 = true then (some 1) else (if a0 < a1 then (some (-1)) else (if a0 > a1 then (some 1) else (some 0))))))) = some r := h
 clear h
 replace H := Option.bind_eq_some_iff.mp H
 obtain ⟨t127, A30, H⟩ := H
 replace H : ((cmp_isNaN_int.f a1).bind fun t128 => (if t127 = true then (if t128 = true then (some 0) else (some (-1))) else (if t128 = true then (some 1) else (if a0 < a1 then (some (-1)) else (if a0 > a1 then (some 1) else (some 0)))))) = some r := H
 have A3 := Aside0.mk A30
 clear A30
 replace H := Option.bind_eq_some_iff.mp H
 obtain ⟨t128, A40, H⟩ := H
 replace H : (if t127 = true then (if t128 = true then (some 0) else (some (-1))) else (if t128 = true then (some 1) else (if a0 < a1 then (some (-1)) else (if a0 > a1 then (some 1) else (some 0))))) = some r := H
 have A4 := Aside0.mk A40
 clear A40
 by_cases c5 : t127 = true
 ·
  subst c5
  have H1 : (if t128 = true then (some 0) else (some (-1))) = some r := by rw [if_pos rfl] at H; exact H
  clear H
  have H := H1
  clear H1
  by_cases c6 : t128 = true
  ·
   subst c6
   have H1 : (some 0) = some r := by rw [if_pos rfl] at H; exact H
   clear H
   have H := H1
   clear H1
   obtain rfl := Option.some.inj H
   go_enter Try.func68, Try.ntmps68
   go_wp2_with (first | ((with_reducible refine gate_callee (f := 71) rfl ?_); refine goesL_ (some 8) rfl rfl Try.func71 (by kernel_rfl) rfl #[.int .i64 a0] rfl (by (try simp only [List.map_toArray, List.map_cons, List.map_nil]); first | done | rfl | (simp only [List.length_drop, List.length_take]; done) | (simp only [List.length_drop, List.length_take]; rfl)) ?_; (with_reducible refine (cmp_isNaN_int.calls a0 true _ A3.out).mono ?_); rintro e w' ⟨rfl, ⟨nd, rfl⟩⟩; refine ⟨_, rfl, ?_⟩) | ((with_reducible refine gate_callee (f := 71) rfl ?_); refine goesL_ (some 10) rfl rfl Try.func71 (by kernel_rfl) rfl #[.int .i64 a1] rfl (by (try simp only [List.map_toArray, List.map_cons, List.map_nil]); first | done | rfl | (simp only [List.length_drop, List.length_take]; done) | (simp only [List.length_drop, List.length_take]; rfl)) ?_; (with_reducible refine (cmp_isNaN_int.calls a1 true _ A4.out).mono ?_); rintro e w' ⟨rfl, ⟨nd, rfl⟩⟩; refine ⟨_, rfl, ?_⟩))
   go_ret
   exact ⟨by first | rfl | (simp; done) | (simp [*]; done), by repeat (first | exact Drawn0.refl _ | apply Drawn0.step)⟩
  ·
   replace c6 := Bool.eq_false_iff.mpr c6
   subst c6
   have H1 : (some (-1)) = some r := by rw [if_neg (show ¬ (false = true) by decide)] at H; exact H
   clear H
   have H := H1
   clear H1
   obtain rfl := Option.some.inj H
   go_enter Try.func68, Try.ntmps68
   go_wp2_with (first | ((with_reducible refine gate_callee (f := 71) rfl ?_); refine goesL_ (some 8) rfl rfl Try.func71 (by kernel_rfl) rfl #[.int .i64 a0] rfl (by (try simp only [List.map_toArray, List.map_cons, List.map_nil]); first | done | rfl | (simp only [List.length_drop, List.length_take]; done) | (simp only [List.length_drop, List.length_take]; rfl)) ?_; (with_reducible refine (cmp_isNaN_int.calls a0 true _ A3.out).mono ?_); rintro e w' ⟨rfl, ⟨nd, rfl⟩⟩; refine ⟨_, rfl, ?_⟩) | ((with_reducible refine gate_callee (f := 71) rfl ?_); refine goesL_ (some 10) rfl rfl Try.func71 (by kernel_rfl) rfl #[.int .i64 a1] rfl (by (try simp only [List.map_toArray, List.map_cons, List.map_nil]); first | done | rfl | (simp only [List.length_drop, List.length_take]; done) | (simp only [List.length_drop, List.length_take]; rfl)) ?_; (with_reducible refine (cmp_isNaN_int.calls a1 false _ A4.out).mono ?_); rintro e w' ⟨rfl, ⟨nd, rfl⟩⟩; refine ⟨_, rfl, ?_⟩))
   go_ret
   exact ⟨by first | rfl | (simp; done) | (simp [*]; done), by repeat (first | exact Drawn0.refl _ | apply Drawn0.step)⟩
 ·
  replace c5 := Bool.eq_false_iff.mpr c5
  subst c5
  have H1 : (if t128 = true then (some 1) else (if a0 < a1 then (some (-1)) else (if a0 > a1 then (some 1) else (some 0)))) = some r := by rw [if_neg (show ¬ (false = true) by decide)] at H; exact H
  clear H
  have H := H1
  clear H1
  by_cases c7 : t128 = true
  ·
   subst c7
   have H1 : (some 1) = some r := by rw [if_pos rfl] at H; exact H
   clear H
   have H := H1
   clear H1
   obtain rfl := Option.some.inj H
   go_enter Try.func68, Try.ntmps68
   go_wp2_with (first | ((with_reducible refine gate_callee (f := 71) rfl ?_); refine goesL_ (some 8) rfl rfl Try.func71 (by kernel_rfl) rfl #[.int .i64 a0] rfl (by (try simp only [List.map_toArray, List.map_cons, List.map_nil]); first | done | rfl | (simp only [List.length_drop, List.length_take]; done) | (simp only [List.length_drop, List.length_take]; rfl)) ?_; (with_reducible refine (cmp_isNaN_int.calls a0 false _ A3.out).mono ?_); rintro e w' ⟨rfl, ⟨nd, rfl⟩⟩; refine ⟨_, rfl, ?_⟩) | ((with_reducible refine gate_callee (f := 71) rfl ?_); refine goesL_ (some 10) rfl rfl Try.func71 (by kernel_rfl) rfl #[.int .i64 a1] rfl (by (try simp only [List.map_toArray, List.map_cons, List.map_nil]); first | done | rfl | (simp only [List.length_drop, List.length_take]; done) | (simp only [List.length_drop, List.length_take]; rfl)) ?_; (with_reducible refine (cmp_isNaN_int.calls a1 true _ A4.out).mono ?_); rintro e w' ⟨rfl, ⟨nd, rfl⟩⟩; refine ⟨_, rfl, ?_⟩))
   go_ret
   exact ⟨by first | rfl | (simp; done) | (simp [*]; done), by repeat (first | exact Drawn0.refl _ | apply Drawn0.step)⟩
  ·
   replace c7 := Bool.eq_false_iff.mpr c7
   subst c7
   have H1 : (if a0 < a1 then (some (-1)) else (if a0 > a1 then (some 1) else (some 0))) = some r := by rw [if_neg (show ¬ (false = true) by decide)] at H; exact H
   clear H
   have H := H1
   clear H1
   by_cases c8 : a0 < a1
   ·
    rw [if_pos c8] at H
    have c8b0 : decide (a0 < a1) = true := decide_eq_true c8
    clear c8
    obtain rfl := Option.some.inj H
    go_enter Try.func68, Try.ntmps68
    go_wp2_with (first | ((with_reducible refine gate_callee (f := 71) rfl ?_); refine goesL_ (some 8) rfl rfl Try.func71 (by kernel_rfl) rfl #[.int .i64 a0] rfl (by (try simp only [List.map_toArray, List.map_cons, List.map_nil]); first | done | rfl | (simp only [List.length_drop, List.length_take]; done) | (simp only [List.length_drop, List.length_take]; rfl)) ?_; (with_reducible refine (cmp_isNaN_int.calls a0 false _ A3.out).mono ?_); rintro e w' ⟨rfl, ⟨nd, rfl⟩⟩; refine ⟨_, rfl, ?_⟩) | ((with_reducible refine gate_callee (f := 71) rfl ?_); refine goesL_ (some 10) rfl rfl Try.func71 (by kernel_rfl) rfl #[.int .i64 a1] rfl (by (try simp only [List.map_toArray, List.map_cons, List.map_nil]); first | done | rfl | (simp only [List.length_drop, List.length_take]; done) | (simp only [List.length_drop, List.length_take]; rfl)) ?_; (with_reducible refine (cmp_isNaN_int.calls a1 false _ A4.out).mono ?_); rintro e w' ⟨rfl, ⟨nd, rfl⟩⟩; refine ⟨_, rfl, ?_⟩))
    go_ret
    exact ⟨by first | rfl | (simp; done) | (simp [*]; done), by repeat (first | exact Drawn0.refl _ | apply Drawn0.step)⟩
   ·
    rw [if_neg c8] at H
    have c8b0 : decide (a0 < a1) = false := decide_eq_false c8
    clear c8
    by_cases c9 : a0 > a1
    ·
     rw [if_pos c9] at H
     have c9b0 : decide (a1 < a0) = true := decide_eq_true c9
     clear c9
     obtain rfl := Option.some.inj H
     go_enter Try.func68, Try.ntmps68
     go_wp2_with (first | ((with_reducible refine gate_callee (f := 71) rfl ?_); refine goesL_ (some 8) rfl rfl Try.func71 (by kernel_rfl) rfl #[.int .i64 a0] rfl (by (try simp only [List.map_toArray, List.map_cons, List.map_nil]); first | done | rfl | (simp only [List.length_drop, List.length_take]; done) | (simp only [List.length_drop, List.length_take]; rfl)) ?_; (with_reducible refine (cmp_isNaN_int.calls a0 false _ A3.out).mono ?_); rintro e w' ⟨rfl, ⟨nd, rfl⟩⟩; refine ⟨_, rfl, ?_⟩) | ((with_reducible refine gate_callee (f := 71) rfl ?_); refine goesL_ (some 10) rfl rfl Try.func71 (by kernel_rfl) rfl #[.int .i64 a1] rfl (by (try simp only [List.map_toArray, List.map_cons, List.map_nil]); first | done | rfl | (simp only [List.length_drop, List.length_take]; done) | (simp only [List.length_drop, List.length_take]; rfl)) ?_; (with_reducible refine (cmp_isNaN_int.calls a1 false _ A4.out).mono ?_); rintro e w' ⟨rfl, ⟨nd, rfl⟩⟩; refine ⟨_, rfl, ?_⟩))
     go_ret
     exact ⟨by first | rfl | (simp; done) | (simp [*]; done), by repeat (first | exact Drawn0.refl _ | apply Drawn0.step)⟩
    ·
     rw [if_neg c9] at H
     have c9b0 : decide (a1 < a0) = false := decide_eq_false c9
     clear c9
     obtain rfl := Option.some.inj H
     go_enter Try.func68, Try.ntmps68
     go_wp2_with (first | ((with_reducible refine gate_callee (f := 71) rfl ?_); refine goesL_ (some 8) rfl rfl Try.func71 (by kernel_rfl) rfl #[.int .i64 a0] rfl (by (try simp only [List.map_toArray, List.map_cons, List.map_nil]); first | done | rfl | (simp only [List.length_drop, List.length_take]; done) | (simp only [List.length_drop, List.length_take]; rfl)) ?_; (with_reducible refine (cmp_isNaN_int.calls a0 false _ A3.out).mono ?_); rintro e w' ⟨rfl, ⟨nd, rfl⟩⟩; refine ⟨_, rfl, ?_⟩) | ((with_reducible refine gate_callee (f := 71) rfl ?_); refine goesL_ (some 10) rfl rfl Try.func71 (by kernel_rfl) rfl #[.int .i64 a1] rfl (by (try simp only [List.map_toArray, List.map_cons, List.map_nil]); first | done | rfl | (simp only [List.length_drop, List.length_take]; done) | (simp only [List.length_drop, List.length_take]; rfl)) ?_; (with_reducible refine (cmp_isNaN_int.calls a1 false _ A4.out).mono ?_); rintro e w' ⟨rfl, ⟨nd, rfl⟩⟩; refine ⟨_, rfl, ?_⟩))
     go_ret
     exact ⟨by first | rfl | (simp; done) | (simp [*]; done), by repeat (first | exact Drawn0.refl _ | apply Drawn0.step)⟩

-- NOT PRINTED: function 67 (lore_sortBy_rune_int_1)

-- NOT PRINTED: function 58 (lore_sortBy_rune_int)

/-! ### lore_Order: function 41 -/
/-- A rune's class. -/
def clsOf (l : List S42) (r : Int) : Int := (rowOf l r).f1
/-- Runes, each run of marks in order. -/
def orderL (l : List S42) (s : List Int) : List Int := Go.Proofs.YtfagobhhhljajaaW.PrintSort.ordA (clsOf l) [] s
def lore_Order.f (l0 : List S42) (l1 : List Int) : Option (List Int) := if (l0.length : Int) ≤ 9223372036854775806 ∧ l1.length ≤ 35184372088832 then some (orderL l0 l1) else none
open Go.Proofs.YtfagobhhhljajaaW.PrintReg
/-- What two keys compare to. -/
def cmpI (x y : Int) : Int := if x < y then -1 else if x > y then 1 else 0
theorem cmpI_lt (x y : Int) : cmpI x y < 0 ↔ x < y := by
 unfold cmpI
 split
 ·
  simp [*]
 ·
  split
  ·
   omega
  ·
   omega
theorem cmp_any (x y : Int) (w : World) : Calls Try.prog 68 #[.int .i64 x, .int .i64 y] w fun e w' => e = .returned (.int .i64 (cmpI x y)) ∧ Below w.heap.size w w' := by
 refine (cmp_Compare_int.calls x y (cmpI x y) w (by
  unfold cmp_Compare_int.f cmp_isNaN_int.f cmpI
  simp only [bne_self_eq_false, Option.bind_some, Bool.false_eq_true, if_false]
  by_cases h1 : x < y
  ·
   simp [h1]
  ·
   by_cases h2 : x > y <;> simp [h1, h2])).mono ?_
 rintro e w' ⟨rfl, hb⟩
 exact ⟨rfl, hb.below⟩
set_option maxHeartbeats 2000000 in
set_option maxRecDepth 100000 in
theorem order1_any (A0 : Option Addr) (c0 : Nat) (l0 : List S42) (r : Int) (g : Nat) (w : World) (hr : Kd.C k42 w A0 l0.length l0) (hc0 : l0.length ≤ c0) (hl : (l0.length : Int) ≤ 9223372036854775806) (h0 : w.cell? ⟨g, 0, none⟩ = some (.slice A0 l0.length c0)) :
  Calls Try.prog 59 #[.int .i32 r, .pointer (some ⟨g, 0, none⟩)] w fun e w' => e = .returned (.int .i64 (clsOf l0 r)) ∧ Below w.heap.size w w' := by
 have FF := Aside0.mk (lore_Class.calls A0 c0 l0 r (clsOf l0 r) w hr hc0 (by unfold lore_Class.f; rw [if_pos hl]; rfl))
 clear hr hc0 hl
 go_enter Try.func59, Try.ntmps59
 go_wp2_with fail
 refine FF.out.mono ?_
 rintro e w1 ⟨rfl, hb⟩
 have HB := Aside0.mk hb
 clear hb FF h0
 go_wp2_with fail
 go_ret
 exact ⟨rfl, HB.out⟩
set_option maxHeartbeats 2000000 in
set_option maxRecDepth 100000 in
theorem sort1_any (A0 : Option Addr) (c0 : Nat) (l0 : List S42) (x y : Int) (g g' : Nat) (w : World) (hr : Kd.C k42 w A0 l0.length l0) (hc0 : l0.length ≤ c0) (hl : (l0.length : Int) ≤ 9223372036854775806) (h0 : w.cell? ⟨g, 0, none⟩ = some (.slice A0 l0.length c0)) (h1 : w.cell? ⟨g', 0, none⟩ = some (.func (.func 59) #[] #[.pointer (some ⟨g, 0, none⟩)])) :
  Calls Try.prog 67 #[.int .i32 x, .int .i32 y, .pointer (some ⟨g', 0, none⟩)] w fun e w' => e = .returned (.int .i64 (cmpI (clsOf l0 x) (clsOf l0 y))) ∧ Below w.heap.size w w' := by
 have F := Aside0.mk (fun r W (hb : Below w.heap.size w W) => order1_any A0 c0 l0 r g W (Kd.C_below hr hb) hc0 hl (cell_keep hb h0))
 have HB := Aside0.mk (Below.refl w.heap.size w)
 clear hr hc0 hl h0
 go_enter Try.func67, Try.ntmps67
 go_wp2_with fail
 go_region_held3 (fun w' => w'.cell? ⟨g', 0, none⟩ = some (.func (.func 59) #[] #[.pointer (some ⟨g, 0, none⟩)]) ∧ Aside0 (Below w.heap.size w w'))
  (((try dsimp only); (repeat' apply And.intro) <;> (first | go_keep | assumption | (go_split_ands; assumption) | (go_split_ands; apply aside_drew; assumption) | (go_split_ands; apply aside_step; assumption; assumption) | (go_split_ands; apply cell_keep; assumption; assumption))))
  (first
   | (go_at_call 59; refine (F.out _ _ (by go_split_ands; exact Aside0.out (by assumption))).mono ?_; rintro x w' ⟨rfl, hb⟩)
   | (go_at_call 68; refine (cmp_any _ _ _).mono ?_; rintro x w' ⟨rfl, hb⟩))
 go_wp2
 go_split_ands
 go_ret
 exact ⟨rfl, Aside0.out (by assumption)⟩
set_option maxHeartbeats 2000000 in
set_option maxRecDepth 100000 in
theorem sortBy_any (XX : List Value) (g o n c : Nat) (ad : Addr) (had : ad = ⟨g, o, none⟩) (A0 : Option Addr) (c0 : Nat) (l0 : List S42) (gl : Nat) (wb w : World) (hb : Below wb.heap.size wb w) (hg : wb.heap.size ≤ g) (hr : Kd.C k42 wb A0 l0.length l0) (hc0 : l0.length ≤ c0) (hl : (l0.length : Int) ≤ 9223372036854775806)
  (h0 : w.heap[gl]? = some (.cells #[.slice A0 l0.length c0] 22 (0, 0))) (hne : gl ≠ g) (P S Q : List Int) (hA : Go.Proofs.YtfagobhhhljajaaW.PrintSort.Arr XX w g (P ++ S ++ Q)) (hP : P.length = o) (hS : S.length = n) (hN : n ≤ 1152921504606846975) :
  Calls Try.prog 58 #[.slice (some ad) n c, .func (.func 59) #[] #[.pointer (some ⟨gl, 0, none⟩)]] w
   fun e w' => e = .returned (.tuple #[]) ∧ ∃ X, Go.Proofs.YtfagobhhhljajaaW.PrintSort.Arr XX w' g (P ++ X ++ Q) ∧ Go.Proofs.YtfagobhhhljajaaW.PrintSort.St (clsOf l0) S X ∧ Go.Proofs.YtfagobhhhljajaaW.PrintTree.On (· = g) w w' := by
 have hgl := blk_lt h0
 have hgg := hA.lt
 obtain ⟨W, hW⟩ : ∃ W, W = w.alloc (.cells #[.func (.func 59) #[] #[.pointer (some ⟨gl, 0, none⟩)]] 83) := ⟨_, rfl⟩
 have hB : Below w.heap.size w W := by subst hW; exact below_alloc (Below.refl _ _) _
 have b1 : W.heap[w.heap.size]? = some (.cells #[.func (.func 59) #[] #[.pointer (some ⟨gl, 0, none⟩)]] 83 (0, 0)) := by subst hW; simpa using heap_alloc_new w _
 have hfc : ∀ args W, (callFunc 67 args).run Try.prog W = .ok (.enter 67 args) W := fun args W => rfl
 have FF := Aside0.mk (Go.Proofs.YtfagobhhhljajaaW.PrintSort.sortStable_calls XX g o n c ad had 67 #[.pointer (some ⟨w.heap.size, 0, none⟩)] hfc (fun x y => cmpI (clsOf l0 x) (clsOf l0 y)) (clsOf l0) (fun x y => cmpI_lt _ _) W
  (fun x y W2 h2 => sort1_any A0 c0 l0 x y gl w.heap.size W2 (Kd.C_below hr ((below_step hb hB).trans (h2.to_below (Nat.le_trans hb.size hB.size) (fun k hk => by rw [hk]; exact hg)))) hc0 hl ((blk_cell (h2.blk (blk_below h0 hB) hne) 0).trans rfl) ((blk_cell (h2.blk b1 (by omega)) 0).trans rfl))
  P S Q W (hA.below hB) (Go.Proofs.YtfagobhhhljajaaW.PrintTree.On.refl _ _) hP hS hN)
 have HB := Aside0.mk hB
 have hmf := run_mf (P := Try.prog)
 clear hB b1 hfc hr hb hl h0 hA hP hS hN had
 go_enter Try.func58, Try.ntmps58
 go_wp2_with fail
 rw [← hW]
 refine FF.out.mono ?_
 rintro e w1 ⟨rfl, X, hA, hS, hO⟩
 have HX := Aside0.mk (And.intro hA (And.intro hS ((Go.Proofs.YtfagobhhhljajaaW.PrintTree.On.of_below HB.out).trans hO)))
 clear hA hS hO hW
 go_wp2_with fail
 go_end0
 exact ⟨rfl, X, HX.out⟩
theorem arr_of_R {w : World} {base : Nat} {v : Value} {s : List Int} (h : (Kd.int .i32).R 21 w base (fun _ => True) v s) :
  (v = .slice none 0 0 ∧ s = []) ∨ ∃ g cap XX, v = .slice (some ⟨g, 0, none⟩) s.length cap ∧ base ≤ g ∧ Go.Proofs.YtfagobhhhljajaaW.PrintSort.Arr XX w g s ∧ s.length ≤ cap ∧ cap ≤ maxLen ∧ s.length + XX.length = cap := by
 have ho := Kd.own_of_R h
 rcases ho.2 with ⟨h1, h2⟩ | ⟨g, cap, cur, h1, h2, h3, h4, h5, h6, h7⟩
 ·
  exact .inl ⟨h1, List.eq_nil_of_length_eq_zero h2⟩
 ·
  refine .inr ⟨g, cap, cur.toList.drop s.length, h1, h2, ?_, h4, h5, ?_⟩
  ·
   unfold Go.Proofs.YtfagobhhhljajaaW.PrintSort.Arr
   rw [h3]
   have e : cur = (s.map (Value.int .i32) ++ cur.toList.drop s.length).toArray := by
    rw [Nat.mul_one] at h7
    have e2 : s.map (Value.int .i32) = cur.toList.take s.length := h7.symm
    rw [e2, List.take_append_drop]
   rw [← e]
  ·
   have e9 : (cur.toList.drop s.length).length = cap - s.length := by rw [List.length_drop, Array.length_toList, h6, Nat.mul_one]
   omega
theorem R_of_arr {w : World} {base g cap : Nat} {XX : List Value} {s : List Int} (hg : base ≤ g) (hA : Go.Proofs.YtfagobhhhljajaaW.PrintSort.Arr XX w g s) (h1 : s.length ≤ cap) (h2 : cap ≤ maxLen) (h3 : s.length + XX.length = cap) :
  (Kd.int .i32).R 21 w base (fun _ => True) (.slice (some ⟨g, 0, none⟩) s.length cap) s :=
 Kd.R_of_own (enc := Value.int .i32) (h1 := fun _ => rfl) ⟨by simp [encs], .inr ⟨g, cap, _, rfl, hg, hA, h1, h2, by simp; omega, by simp [encs]⟩⟩ (fun _ _ => trivial)
set_option maxHeartbeats 8000000 in
set_option maxRecDepth 100000 in
theorem lore_Order.calls (A0 : Option Addr) (c0 : Nat) (l0 : List (S42)) (A1 : Option Addr) (c1 : Nat) (l1 : List Int) (r : List Int) (w : World) (hr0 : Kd.C k42 w A0 l0.length l0) (hc0 : l0.length ≤ c0) (hr1 : Kd.C (Kd.int .i32) w A1 l1.length l1) (hc1 : l1.length ≤ c1) (h : lore_Order.f l0 l1 = some r) :
  Calls Try.prog 41 #[.slice A0 l0.length c0, .slice A1 l1.length c1] w fun e w' => ∃ v0_ : Value, e = .returned (v0_) ∧ Kd.R (Kd.int .i32) 21 w' w.heap.size (fun _ => True) v0_ r ∧ Below w.heap.size w w' := by
 unfold lore_Order.f at h
 split at h
 case isFalse => cases h
 case isTrue hl =>
 obtain rfl := Option.some.inj h
 have HR := Aside0.mk (And.intro hr0 (And.intro hc0 hl.1))
 obtain ⟨W, hW⟩ : ∃ W, W = w.alloc (.cells #[.slice A0 l0.length c0] 22) := ⟨_, rfl⟩
 have hB : Below w.heap.size w W := by subst hW; exact below_alloc (Below.refl _ _) _
 have b0 : W.heap[w.heap.size]? = some (.cells #[.slice A0 l0.length c0] 22 (0, 0)) := by subst hW; simpa using heap_alloc_new w _
 have FC := Aside0.mk (slices_Clone_rune_rune.calls A1 c1 l1 l1 W (Kd.C_below hr1 hB) hc1 (by unfold slices_Clone_rune_rune.f; rw [if_pos (by omega)]))
 have HB := Aside0.mk hB
 have HK := Aside0.mk b0
 have HSZ : Aside0 (W.heap.size = w.heap.size + 1) := ⟨by rw [hW]; exact Array.size_push _⟩
 have HL := Aside0.mk hl.2
 have hmf := run_mf (P := Try.prog)
 clear hr0 hc0 h hl hr1 hc1 hB b0
 go_enter Try.func41, Try.ntmps41
 go_wp2_with fail
 rw [← hW]
 refine FC.out.mono ?_
 rintro e w1 ⟨v, rfl, hR, hb⟩
 clear hW
 rcases arr_of_R hR with ⟨rfl, hs⟩ | ⟨g, cap, XX, rfl, hg, hA, hc1, hc2, hc3⟩
 ·
  have HB1 := Aside0.mk (below_step HB.out hb)
  have HN : Aside0 (orderL l0 l1 = []) := ⟨by rw [hs]; rfl⟩
  clear hR hb hs
  go_wp2_with fail
  go_loopw [6] (fun v6 wr => v6 = .int .i64 0 ∧ wr = w1) (fun _ _ => 0)
  case atStart => exact ⟨rfl, rfl⟩
  case round =>
   obtain ⟨rfl, rfl⟩ := hrel
   go_wp2_with fail
   go_ret
   rw [HN.out]
   exact ⟨_, rfl, Kd.R_nil _ _ _ _ _, HB1.out⟩
 ·
  have HB1 := Aside0.mk (below_step HB.out hb)
  have hk1 := blk_below HK.out hb
  have HA := Aside0.mk hA
  have hne : w.heap.size ≠ g := by have := HSZ.out; omega
  have HG : Aside0 (w.heap.size ≤ g ∧ w.heap.size ≠ g ∧ l1.length ≤ cap ∧ cap ≤ maxLen ∧ l1.length + XX.length = cap ∧ g < w1.heap.size) := ⟨by have := HSZ.out; omega, hne, hc1, hc2, hc3, hA.lt⟩
  have HK1 := Aside0.mk hk1
  obtain ⟨n, hn⟩ : ∃ n, n = l1.length := ⟨_, rfl⟩
  rw [← hn]
  have HN := Aside0.mk hn
  have FCL := Aside0.mk (fun x W2 (hb : Below w.heap.size w W2) => lore_Class.calls A0 c0 l0 x (clsOf l0 x) W2 (Kd.C_below HR.out.1 hb) HR.out.2.1 (by unfold lore_Class.f; rw [if_pos HR.out.2.2]; rfl))
  clear hR hb hk1 hA hne hg hc1 hc2 hc3 hn HK HB
  go_wp2_with fail
  go_loopw [6] (fun v6 wr => ∃ (i : Nat) (D : List Int), v6 = .int .i64 (i : Int) ∧ Aside0 (Go.Proofs.YtfagobhhhljajaaW.PrintSort.Way (clsOf l0) l1 i D) ∧ Aside0 (Go.Proofs.YtfagobhhhljajaaW.PrintSort.Arr XX wr g D) ∧ Aside0 (Go.Proofs.YtfagobhhhljajaaW.PrintTree.On (· = g) w1 wr)) (fun v6 _ => n + 1 - (intOf v6).toNat)
  case atStart => exact ⟨0, l1, rfl, ⟨Go.Proofs.YtfagobhhhljajaaW.PrintSort.Way.start⟩, HA, ⟨Go.Proofs.YtfagobhhhljajaaW.PrintTree.On.refl _ _⟩⟩
  case round =>
   clear HA
   obtain ⟨i, D, rfl, HWY, HA, HO⟩ := hrel
   have HDL : Aside0 (D.length = n ∧ i ≤ n + 1) := ⟨by obtain ⟨M, T, _, _, h3, _, h5⟩ := HWY.out; rw [HN.out]; exact ⟨h3, h5⟩⟩
   by_cases hlt : (i : Int) < (n : Int)
   ·
    have q1 := eq_true hlt
    have q2 : (i < n) = True := eq_true (by omega)
    have HI : Aside0 (i < n) := ⟨by omega⟩
    clear hlt
    go_wp2_with fail
    go_loopw [7] (fun v7 wq => ∃ m : Nat, v7 = .int .i64 (m : Int) ∧ Aside0 (i ≤ m ∧ m ≤ n ∧ ∀ j, i ≤ j → j < m → 0 < clsOf l0 (D.getD j 0)) ∧ Aside0 (Go.Proofs.YtfagobhhhljajaaW.PrintSort.Arr XX wq g D) ∧ Aside0 (Go.Proofs.YtfagobhhhljajaaW.PrintTree.On (· = g) w1 wq)) (fun v7 _ => n - (intOf v7).toNat)
    case atStart => exact ⟨i, rfl, ⟨Nat.le_refl _, by have := HI.out; omega, by omega⟩, HA, HO⟩
    case round =>
     clear HA HO
     obtain ⟨m, rfl, HM, HA, HO⟩ := hrel
     by_cases hlt : (m : Int) < (n : Int)
     ·
      have r1 := eq_true hlt
      have r2 : (m < n) = True := eq_true (by omega)
      have r0 : ((0 : Int) ≤ (m : Int)) = True := eq_true (by omega)
      have HML : Aside0 (m < n) := ⟨by omega⟩
      have HW := Aside0.mk (show wrap64 ((m : Int) + 1) = ((m + 1 : Nat) : Int) by have := HN.out; have := HL.out; unfold wrap64; omega)
      have HBQ := Aside0.mk (HB1.out.trans (HO.out.to_below HB1.out.size (fun k hk => by rw [hk]; exact HG.out.1)))
      have HKQ := Aside0.mk (HO.out.blk HK1.out HG.out.2.1)
      obtain ⟨x, hx⟩ : ∃ x, x = D.getD m 0 := ⟨_, rfl⟩
      have HX := Aside0.mk hx
      clear q1 q2 hx hlt
      go_wp2_with fail
      by_cases hc : 0 < clsOf l0 x
      ·
       have HCT : Aside0 ((0 < clsOf l0 x) = True) := ⟨eq_true hc⟩
       clear hc
       refine wp_reg 13 rfl rfl (by kernel_rfl) (fun z => .slice A0 l0.length c0 :: .slice A1 n c1 :: .pointer (some ⟨w.heap.size, 0, none⟩) :: undef :: .slice none 0 0 :: .slice (some ⟨g, 0, none⟩) n cap :: .int .i64 (i : Int) :: .int .i64 (m : Int) :: .slice A1 n c1 :: .slice (some ⟨g, 0, none⟩) n cap :: .int .i64 (i : Int) :: .slice (some ⟨g, 0, none⟩) n cap :: .int .i64 (n : Int) :: .bool true :: .int .i64 (i : Int) :: z 15 :: z 16 :: z 17 :: z 18 :: z 19 :: z 20 :: z 21 :: z 22 :: z 23 :: z 24 :: z 25 :: z 26 :: z 27 :: u28 :: u29 :: u30 :: u31 :: u32 :: u33 :: u34 :: u35 :: u36 :: u37 :: undef :: []) (fun (gg : Unit) => [(0, 15, .int .i64 (m : Int)), (1, 16, .slice (some ⟨g, 0, none⟩) n cap), (2, 17, .int .i64 (n : Int)), (3, 18, .bool true), (4, 19, .bool true), (5, 20, .slice A0 l0.length c0), (6, 21, .slice (some ⟨g, 0, none⟩) n cap), (7, 22, .int .i64 (m : Int)), (8, 23, .pointer (some ⟨g, m, none⟩)), (9, 24, .int .i32 x), (10, 25, .int .i64 (clsOf l0 x)), (11, 26, .bool true), (12, 27, .bool true)]) (fun LL gg z wx => Aside0 (Below wr.heap.size wr wx)) () (zz [(15, u15), (16, u16), (17, u17), (18, u18), (19, u19), (20, u20), (21, u21), (22, u22), (23, u23), (24, u24), (25, u25), (26, u26), (27, u27)]) rfl rfl ⟨below_drew (Below.refl _ _)⟩ ?_ ?_
       ·
        refine Steps.cons ?_ (Steps.cons ?_ (Steps.cons ?_ (Steps.cons ?_ (Steps.cons ?_ (Steps.cons ?_ (Steps.cons ?_ (Steps.cons ?_ (Steps.cons ?_ (Steps.cons ?_ (Steps.cons ?_ (Steps.cons ?_ (Steps.cons ?_ (Steps.nil)))))))))))))
        ·
         exact V0 0
        ·
         exact V0 1
        ·
         exact V1 2 1
        ·
         exact V2 3 0 2
        ·
         exact V1 4 3
        ·
         refine V1 5 4 (h := fun LL gg z wx hl hLk eg K hK => ?_)
         obtain ⟨hb⟩ := hl
         have ck0 : wx.cell? ⟨w.heap.size, 0, none⟩ = some (.slice A0 l0.length c0) := (blk_cell (blk_below HKQ.out hb.out) 0).trans rfl
         dsimp only [FA]
         refine wantd (by rw [eg]; rfl) ?_
         go_simp
         exact hK.out
        ·
         exact V1 6 4
        ·
         exact V1 7 4
        ·
         exact V3 8 4 6 7
        ·
         refine V2 9 4 8 (h := fun LL gg z wx hl hLk eg e8 K hK => ?_)
         obtain ⟨hb⟩ := hl
         have hq := HA.out.below hb.out
         have ck : wx.cell? ⟨g, m, none⟩ = some (.int .i32 x) := by have h := hq.cell (o := m) rfl 0 (by have := HML.out; have := HDL.out; omega); rw [Nat.add_zero, ← HX.out] at h; exact h
         dsimp only [FA]
         refine wantd (by rw [eg]; rfl) ?_
         go_simp
         exact hK.out
        ·
         refine CD 10 (fun _ => rfl) (fun _ => rfl) fun LL gg z wx hl hLk hd hI K hK => ?_
         obtain ⟨hb⟩ := hl
         have e5 := hI.at 5 rfl (hd 5 rfl)
         have e9 := hI.at 9 rfl (hd 9 rfl)
         dsimp only [FA]
         have eg := hI.at 4 rfl (hd 4 rfl)
         refine wantd (by rw [eg]; rfl) ?_
         go_simp
         refine (FCL.out x wx (below_step HBQ.out hb.out)).mono ?_
         rintro e w' ⟨rfl, hb1⟩
         exact hK gg _ _ (sm3 eg e5 e9) rfl rfl ⟨below_step hb.out hb1⟩
        ·
         refine V2 11 4 10 (h := fun LL gg z wx hl hLk eg e10 K hK => ?_)
         obtain ⟨hb⟩ := hl
         have hw := HCT.out
         dsimp only [FA]
         refine wantd (by rw [eg]; rfl) ?_
         go_simp
         exact hK.out
        ·
         exact V2 12 4 11
       ·
        intro LL gg z wc hall hI hl
        obtain ⟨hb⟩ := hl
        have e12 := hI.at 12 rfl (hall 12 (by decide))
        dsimp only [FA] at ⊢
        rw [e12]
        have HBC := hb
        clear hI hb e12 hall
        have HAK := Aside0.mk (HA.out.below HBC.out)
        have HOK := Aside0.mk (HO.out.trans (Go.Proofs.YtfagobhhhljajaaW.PrintTree.On.of_below HBC.out))
        have HBK := Aside0.mk (below_step HBQ.out HBC.out)
        have HKK := Aside0.mk (blk_below HKQ.out HBC.out)
        clear HA HO HBC HBQ HKQ
        go_wp2_with fail
        go_roundw
        case rel =>
         refine ⟨m + 1, by rw [HW.out], ⟨by have := HM.out.1; omega, HML.out, fun j h1 h2 => ?_⟩, HAK, HOK⟩
         rcases Nat.lt_succ_iff_lt_or_eq.1 h2 with h | rfl
         ·
          exact HM.out.2.2 j h1 h
         ·
          rw [← HX.out]; exact of_eq_true HCT.out
        case measure => rw [HW.out]; simp only [intOf]; have := HML.out; omega
      ·
       have HCF : Aside0 ((0 < clsOf l0 x) = False) := ⟨eq_false hc⟩
       clear hc
       refine wp_reg 13 rfl rfl (by kernel_rfl) (fun z => .slice A0 l0.length c0 :: .slice A1 n c1 :: .pointer (some ⟨w.heap.size, 0, none⟩) :: undef :: .slice none 0 0 :: .slice (some ⟨g, 0, none⟩) n cap :: .int .i64 (i : Int) :: .int .i64 (m : Int) :: .slice A1 n c1 :: .slice (some ⟨g, 0, none⟩) n cap :: .int .i64 (i : Int) :: .slice (some ⟨g, 0, none⟩) n cap :: .int .i64 (n : Int) :: .bool true :: .int .i64 (i : Int) :: z 15 :: z 16 :: z 17 :: z 18 :: z 19 :: z 20 :: z 21 :: z 22 :: z 23 :: z 24 :: z 25 :: z 26 :: z 27 :: u28 :: u29 :: u30 :: u31 :: u32 :: u33 :: u34 :: u35 :: u36 :: u37 :: undef :: []) (fun (gg : Unit) => [(0, 15, .int .i64 (m : Int)), (1, 16, .slice (some ⟨g, 0, none⟩) n cap), (2, 17, .int .i64 (n : Int)), (3, 18, .bool true), (4, 19, .bool true), (5, 20, .slice A0 l0.length c0), (6, 21, .slice (some ⟨g, 0, none⟩) n cap), (7, 22, .int .i64 (m : Int)), (8, 23, .pointer (some ⟨g, m, none⟩)), (9, 24, .int .i32 x), (10, 25, .int .i64 (clsOf l0 x)), (11, 26, .bool false), (12, 27, .bool false)]) (fun LL gg z wx => Aside0 (Below wr.heap.size wr wx)) () (zz [(15, u15), (16, u16), (17, u17), (18, u18), (19, u19), (20, u20), (21, u21), (22, u22), (23, u23), (24, u24), (25, u25), (26, u26), (27, u27)]) rfl rfl ⟨below_drew (Below.refl _ _)⟩ ?_ ?_
       ·
        refine Steps.cons ?_ (Steps.cons ?_ (Steps.cons ?_ (Steps.cons ?_ (Steps.cons ?_ (Steps.cons ?_ (Steps.cons ?_ (Steps.cons ?_ (Steps.cons ?_ (Steps.cons ?_ (Steps.cons ?_ (Steps.cons ?_ (Steps.cons ?_ (Steps.nil)))))))))))))
        ·
         exact V0 0
        ·
         exact V0 1
        ·
         exact V1 2 1
        ·
         exact V2 3 0 2
        ·
         exact V1 4 3
        ·
         refine V1 5 4 (h := fun LL gg z wx hl hLk eg K hK => ?_)
         obtain ⟨hb⟩ := hl
         have ck0 : wx.cell? ⟨w.heap.size, 0, none⟩ = some (.slice A0 l0.length c0) := (blk_cell (blk_below HKQ.out hb.out) 0).trans rfl
         dsimp only [FA]
         refine wantd (by rw [eg]; rfl) ?_
         go_simp
         exact hK.out
        ·
         exact V1 6 4
        ·
         exact V1 7 4
        ·
         exact V3 8 4 6 7
        ·
         refine V2 9 4 8 (h := fun LL gg z wx hl hLk eg e8 K hK => ?_)
         obtain ⟨hb⟩ := hl
         have hq := HA.out.below hb.out
         have ck : wx.cell? ⟨g, m, none⟩ = some (.int .i32 x) := by have h := hq.cell (o := m) rfl 0 (by have := HML.out; have := HDL.out; omega); rw [Nat.add_zero, ← HX.out] at h; exact h
         dsimp only [FA]
         refine wantd (by rw [eg]; rfl) ?_
         go_simp
         exact hK.out
        ·
         refine CD 10 (fun _ => rfl) (fun _ => rfl) fun LL gg z wx hl hLk hd hI K hK => ?_
         obtain ⟨hb⟩ := hl
         have e5 := hI.at 5 rfl (hd 5 rfl)
         have e9 := hI.at 9 rfl (hd 9 rfl)
         dsimp only [FA]
         have eg := hI.at 4 rfl (hd 4 rfl)
         refine wantd (by rw [eg]; rfl) ?_
         go_simp
         refine (FCL.out x wx (below_step HBQ.out hb.out)).mono ?_
         rintro e w' ⟨rfl, hb1⟩
         exact hK gg _ _ (sm3 eg e5 e9) rfl rfl ⟨below_step hb.out hb1⟩
        ·
         refine V2 11 4 10 (h := fun LL gg z wx hl hLk eg e10 K hK => ?_)
         obtain ⟨hb⟩ := hl
         have hw := HCF.out
         dsimp only [FA]
         refine wantd (by rw [eg]; rfl) ?_
         go_simp
         exact hK.out
        ·
         exact V2 12 4 11
       ·
        intro LL gg z wc hall hI hl
        obtain ⟨hb⟩ := hl
        have e12 := hI.at 12 rfl (hall 12 (by decide))
        dsimp only [FA] at ⊢
        rw [e12]
        have HBC := hb
        clear hI hb e12 hall
        have HAK := Aside0.mk (HA.out.below HBC.out)
        have HOK := Aside0.mk (HO.out.trans (Go.Proofs.YtfagobhhhljajaaW.PrintTree.On.of_below HBC.out))
        have HBK := Aside0.mk (below_step HBQ.out HBC.out)
        have HKK := Aside0.mk (blk_below HKQ.out HBC.out)
        clear HA HO HBC HBQ HKQ
        obtain ⟨M, R, Q, hD, hM, hR, hX⟩ := HWY.out.cut (n := m) (by have := HN.out; have := HI.out; omega) HM.out.1 (by have := HN.out; have := HM.out; omega) HM.out.2.2 (by intro _; rw [← HX.out]; exact of_eq_false HCF.out)
        rw [hD] at HAK
        have HMR := Aside0.mk (And.intro hM (And.intro hR hX))
        have s0 : ((0 : Int) ≤ (i : Int)) = True := eq_true (by omega)
        have s1 : ((i : Int) ≤ (m : Int)) = True := eq_true (by have := HM.out; omega)
        have s2 : ((m : Int) ≤ (cap : Int)) = True := eq_true (by have := HG.out; have := HN.out; have := HM.out; omega)
        have s1n : (i ≤ m) = True := eq_true HM.out.1
        have s2n : (m ≤ cap) = True := eq_true (by have := HG.out; have := HN.out; have := HM.out; omega)
        have s3 : (cap = i) = False := eq_false (by have := HG.out; have := HN.out; have := HI.out; omega)
        clear hM hR hX hD r1 r2
        go_wp2_with fail
        refine (sortBy_any XX g i (m - i) (cap - i) _ rfl A0 c0 l0 w.heap.size w wc HBK.out HG.out.1 HR.out.1 HR.out.2.1 HR.out.2.2 HKK.out HG.out.2.1 M R Q HAK.out HMR.out.1 HMR.out.2.1 (by have := HN.out; have := HL.out; have := HM.out; omega)).mono ?_
        rintro e w3 ⟨rfl, X, hA3, hS3, hO3⟩
        have HA3 := Aside0.mk hA3
        have HW3 := Aside0.mk (HMR.out.2.2 X hS3)
        have HO3 := Aside0.mk (HOK.out.trans hO3)
        clear hA3 hS3 hO3 s0 s1 s2 s1n s2n s3
        go_wp2_with fail
        go_roundw
        case rel => exact ⟨m + 1, _, by rw [HW.out], HW3, HA3, HO3⟩
        case measure => rw [HW.out]; simp only [intOf]; have := HM.out; have := HI.out; omega
     ·
      have r1 := eq_false hlt
      have r2 : (m < n) = False := eq_false (by omega)
      have HML : Aside0 (m = n) := ⟨by have := HM.out; omega⟩
      have HW := Aside0.mk (show wrap64 ((m : Int) + 1) = ((m + 1 : Nat) : Int) by have := HN.out; have := HL.out; have := HML.out; unfold wrap64; omega)
      have HBQ := Aside0.mk (HB1.out.trans (HO.out.to_below HB1.out.size (fun k hk => by rw [hk]; exact HG.out.1)))
      have HKQ := Aside0.mk (HO.out.blk HK1.out HG.out.2.1)
      clear q1 q2 hlt
      go_wp2_with fail
      refine wp_reg 13 rfl rfl (by kernel_rfl) (fun z => .slice A0 l0.length c0 :: .slice A1 n c1 :: .pointer (some ⟨w.heap.size, 0, none⟩) :: undef :: .slice none 0 0 :: .slice (some ⟨g, 0, none⟩) n cap :: .int .i64 (i : Int) :: .int .i64 (m : Int) :: .slice A1 n c1 :: .slice (some ⟨g, 0, none⟩) n cap :: .int .i64 (i : Int) :: .slice (some ⟨g, 0, none⟩) n cap :: .int .i64 (n : Int) :: .bool true :: .int .i64 (i : Int) :: z 15 :: z 16 :: z 17 :: z 18 :: z 19 :: z 20 :: z 21 :: z 22 :: z 23 :: z 24 :: z 25 :: z 26 :: z 27 :: u28 :: u29 :: u30 :: u31 :: u32 :: u33 :: u34 :: u35 :: u36 :: u37 :: undef :: []) (fun (gg : Unit) => [(0, 15, .int .i64 (m : Int)), (1, 16, .slice (some ⟨g, 0, none⟩) n cap), (2, 17, .int .i64 (n : Int)), (3, 18, .bool false), (4, 19, .bool false), (5, 20, undef), (6, 21, undef), (7, 22, undef), (8, 23, undef), (9, 24, undef), (10, 25, undef), (11, 26, undef), (12, 27, .bool false)]) (fun LL gg z wx => Aside0 (Below wr.heap.size wr wx)) () (zz [(15, u15), (16, u16), (17, u17), (18, u18), (19, u19), (20, u20), (21, u21), (22, u22), (23, u23), (24, u24), (25, u25), (26, u26), (27, u27)]) rfl rfl ⟨below_drew (Below.refl _ _)⟩ ?_ ?_
      ·
       refine Steps.cons ?_ (Steps.cons ?_ (Steps.cons ?_ (Steps.cons ?_ (Steps.cons ?_ (Steps.cons ?_ (Steps.cons ?_ (Steps.cons ?_ (Steps.cons ?_ (Steps.cons ?_ (Steps.cons ?_ (Steps.cons ?_ (Steps.cons ?_ (Steps.nil)))))))))))))
       ·
        exact V0 0
       ·
        exact V0 1
       ·
        exact V1 2 1
       ·
        exact V2 3 0 2
       ·
        exact V1 4 3
       ·
        exact U1 5 4
       ·
        exact U1 6 4
       ·
        exact U1 7 4
       ·
        exact U1 8 4
       ·
        exact U1 9 4
       ·
        exact U1 10 4
       ·
        exact U1 11 4
       ·
        exact V1 12 4
      ·
       intro LL gg z wc hall hI hl
       obtain ⟨hb⟩ := hl
       have e12 := hI.at 12 rfl (hall 12 (by decide))
       dsimp only [FA] at ⊢
       rw [e12]
       have HBC := hb
       clear hI hb e12 hall
       have HAK := Aside0.mk (HA.out.below HBC.out)
       have HOK := Aside0.mk (HO.out.trans (Go.Proofs.YtfagobhhhljajaaW.PrintTree.On.of_below HBC.out))
       have HBK := Aside0.mk (below_step HBQ.out HBC.out)
       have HKK := Aside0.mk (blk_below HKQ.out HBC.out)
       clear HA HO HBC HBQ HKQ
       obtain ⟨M, R, Q, hD, hM, hR, hX⟩ := HWY.out.cut (n := m) (by have := HN.out; have := HI.out; omega) HM.out.1 (by have := HN.out; have := HM.out; omega) HM.out.2.2 (by have := HN.out; have := HML.out; omega)
       rw [hD] at HAK
       have HMR := Aside0.mk (And.intro hM (And.intro hR hX))
       have s0 : ((0 : Int) ≤ (i : Int)) = True := eq_true (by omega)
       have s1 : ((i : Int) ≤ (m : Int)) = True := eq_true (by have := HM.out; omega)
       have s2 : ((m : Int) ≤ (cap : Int)) = True := eq_true (by have := HG.out; have := HN.out; have := HM.out; omega)
       have s1n : (i ≤ m) = True := eq_true HM.out.1
       have s2n : (m ≤ cap) = True := eq_true (by have := HG.out; have := HN.out; have := HM.out; omega)
       have s3 : (cap = i) = False := eq_false (by have := HG.out; have := HN.out; have := HI.out; omega)
       clear hM hR hX hD r1 r2
       go_wp2_with fail
       refine (sortBy_any XX g i (m - i) (cap - i) _ rfl A0 c0 l0 w.heap.size w wc HBK.out HG.out.1 HR.out.1 HR.out.2.1 HR.out.2.2 HKK.out HG.out.2.1 M R Q HAK.out HMR.out.1 HMR.out.2.1 (by have := HN.out; have := HL.out; have := HM.out; omega)).mono ?_
       rintro e w3 ⟨rfl, X, hA3, hS3, hO3⟩
       have HA3 := Aside0.mk hA3
       have HW3 := Aside0.mk (HMR.out.2.2 X hS3)
       have HO3 := Aside0.mk (HOK.out.trans hO3)
       clear hA3 hS3 hO3 s0 s1 s2 s1n s2n s3
       go_wp2_with fail
       go_roundw
       case rel => exact ⟨m + 1, _, by rw [HW.out], HW3, HA3, HO3⟩
       case measure => rw [HW.out]; simp only [intOf]; have := HM.out; have := HI.out; omega
   ·
    have q1 := eq_false hlt
    have q2 : (i < n) = False := eq_false (by omega)
    have HE : Aside0 (D = orderL l0 l1) := ⟨HWY.out.done (by rw [← HN.out]; omega)⟩
    clear hlt
    go_wp2_with fail
    go_ret
    rw [HE.out] at HA HDL
    have hB9 := HO.out.to_below HB1.out.size (fun k hk => by rw [hk]; exact HG.out.1)
    refine ⟨_, by rw [show n = (orderL l0 l1).length from HDL.out.1.symm]; rfl, R_of_arr HG.out.1 HA.out (by rw [HDL.out.1, HN.out]; exact HG.out.2.2.1) HG.out.2.2.2.1 (by rw [HDL.out.1, HN.out]; exact HG.out.2.2.2.2.1), HB1.out.trans hB9⟩
-- slices.ContainsFunc at runes, by lore.Normal's function: whether one may not be.

/-! ### lore_Apart: function 42 -/
/-- What a rune is taken apart into. -/
def pieceOf (l : List S42) (r : Int) : List Int := if (rowOf l r).f2.length = 0 then [r] else (rowOf l r).f2
/-- Runes, taken apart. -/
def apartL (l : List S42) (s : List Int) : List Int := s.flatMap (pieceOf l)
def lore_Apart.f (l0 : List S42) (l1 : List Int) : Option (List Int) := if (l0.length : Int) ≤ 9223372036854775806 ∧ (l1.length : Int) ≤ 9223372036854775806 ∧ (apartL l0 l1).length < 35184372088832 then some (apartL l0 l1) else none
theorem apart_snoc (l : List S42) (s : List Int) (k : Nat) (h : k < s.length) : apartL l (s.take (k + 1)) = apartL l (s.take k) ++ pieceOf l (s.getD k 0) ∧ (apartL l (s.take k)).length + (pieceOf l (s.getD k 0)).length ≤ (apartL l s).length := by
 have e : s.take (k + 1) = s.take k ++ [s.getD k 0] := by
  rw [List.take_add_one, List.getElem?_eq_getElem h, List.getD_eq_getElem?_getD, List.getElem?_eq_getElem h]; rfl
 have e2 : apartL l (s.take (k + 1)) = apartL l (s.take k) ++ pieceOf l (s.getD k 0) := by
  unfold apartL
  rw [e, List.flatMap_append]
  simp
 refine ⟨e2, ?_⟩
 have e3 : apartL l s = apartL l (s.take (k + 1)) ++ apartL l (s.drop (k + 1)) := by
  unfold apartL
  rw [← List.flatMap_append, List.take_append_drop]
 rw [e3, e2]
 simp only [List.length_append]
 omega
set_option maxHeartbeats 8000000 in
set_option maxRecDepth 100000 in
theorem lore_Apart.calls (A0 : Option Addr) (c0 : Nat) (l0 : List (S42)) (A1 : Option Addr) (c1 : Nat) (l1 : List Int) (r : List Int) (w : World) (hr0 : Kd.C k42 w A0 l0.length l0) (hc0 : l0.length ≤ c0) (hr1 : Kd.C (Kd.int .i32) w A1 l1.length l1) (hc1 : l1.length ≤ c1) (h : lore_Apart.f l0 l1 = some r) :
  Calls Try.prog 42 #[.slice A0 l0.length c0, .slice A1 l1.length c1] w fun e w' => ∃ v0_ : Value, e = .returned (v0_) ∧ Kd.R (Kd.int .i32) 21 w' w.heap.size (fun _ => True) v0_ r ∧ Below w.heap.size w w' := by
 unfold lore_Apart.f at h
 split at h
 case isFalse => cases h
 case isTrue hl =>
 obtain rfl := Option.some.inj h
 have HR := Aside0.mk hr1
 have FF := Aside0.mk (fun r W (hb : Below w.heap.size w W) => find_any A0 c0 l0 r W (Kd.C_below hr0 hb) hl.1)
 obtain ⟨n, hn⟩ : ∃ n, n = l1.length := ⟨_, rfl⟩
 rw [← hn]
 have HN := Aside0.mk (And.intro hn (And.intro (show (n : Int) ≤ 9223372036854775806 by rw [hn]; exact hl.2.1) hl.2.2))
 clear hr0 hc0 h hl hr1 hc1 hn
 go_enter Try.func42, Try.ntmps42
 go_wp2_with fail
 go_loopw [5, 12] (fun v5 i wr => ∃ k : Nat, i = .int .i64 k ∧ Aside0 (k ≤ n) ∧ Aside0 (Kd.R (Kd.int .i32) 21 wr w.heap.size (fun _ => True) v5 (apartL l0 (l1.take k))) ∧ Aside0 (Below w.heap.size w wr)) (fun _ i _ => n - (intOf i).toNat)
 case atStart => exact ⟨0, rfl, ⟨by omega⟩, ⟨Kd.R_nil _ _ _ _ _⟩, ⟨Below.refl _ _⟩⟩
 case round =>
  obtain ⟨k, rfl, HK, HO, HB⟩ := hrel
  by_cases hlt : (k : Int) < (n : Int)
  ·
   have hb0 : decide ((k : Int) < (n : Int)) = true := decide_eq_true hlt
   have KL := Aside0.mk (show k < n by omega)
   obtain ⟨ad, e, hx0⟩ := Kd.at_int (i := (k : Int)) HR.out (by omega) (by rw [← HN.out.1]; exact hlt)
   cases e
   simp only [Int.toNat_natCast] at hx0
   replace hx0 := cell_keep HB.out hx0
   obtain ⟨r, hr⟩ : ∃ r, r = rd l1 (k : Int) := ⟨_, rfl⟩
   rw [← hr] at hx0
   have HRD : Aside0 (l1.getD k 0 = r) := ⟨by rw [hr]; simp [rd]⟩
   have HW := Aside0.mk (show wrap64 ((k : Int) + 1) = ((k + 1 : Nat) : Int) by have := HN.out.2.1; have := KL.out; unfold wrap64; omega)
   have HS := Aside0.mk (apart_snoc l0 l1 k (by rw [← HN.out.1]; exact KL.out))
   rw [HRD.out] at HS
   have p1 := eq_true (show 0 ≤ (k : Int) by omega)
   have q1 := eq_true hlt
   have q2 := eq_true KL.out
   clear hlt hr
   go_wp2_with fail
   refine (FF.out r _ HB.out).mono ?_
   rintro e w1 ⟨A, c, b, rfl, hc, hC, hb⟩
   obtain ⟨T, hT⟩ : ∃ T, T = (rowOf l0 r).f2 := ⟨_, rfl⟩
   have HPC : Aside0 (pieceOf l0 r = if T.length = 0 then [r] else T) := ⟨by unfold pieceOf; rw [hT]⟩
   rw [← hT] at hC hc
   rw [← hT]
   have HB1 := aside_step hb HB
   have HO1 := Aside0.mk (Kd.R_below HO.out hb)
   have HC := Aside0.mk hC
   obtain ⟨m, hm⟩ : ∃ m, m = T.length := ⟨_, rfl⟩
   rw [← hm] at HC
   rw [← hm]
   have HM := Aside0.mk hm
   clear hb hc hC hT hm HO HB
   by_cases hm0 : 0 < m
   ·
    have v1 : ((0 : Int) < (m : Int)) = True := eq_true (by omega)
    have v2 : (0 < m) = True := eq_true hm0
    rw [if_neg (by have := HM.out; omega)] at HPC
    rw [HPC.out] at HS
    clear hm0
    go_wp2_with ((with_reducible refine gate_builtin (b := .append) (xs := #[.tmp 26, .tmp 28]) rfl ?_); at_builtin; refine Kd.R_append_rows (Kd.int .i32) (w0 := w) w.heap.size rfl (.tmp 26) (.tmp 28) 26 21 (.int .i32 0) 4 rfl Try.underlying26 info21 rfl (by decide) (by omega) u5 (apartL l0 (l1.take k)) T _ _ _ (fun _ => True) (fun _ => False) rfl rfl ?aO ?aR (fun _ _ h => h) (fun _ h => h.elim) (fun _ _ => trivial) ?aB ?aS ?aL ?_; (case aO => exact Kd.R_alloc HO1.out _); (case aR => exact Kd.C_alloc HC.out _); (case aB => exact below_alloc HB1.out _); (case aS => exact below_size (below_alloc HB1.out _)); (case aL => have := HS.out; have := HM.out; have := HN.out; omega); intro v2 w2 ho2 hb2 hg2 hat2; have HO2 := Aside0.mk ho2; have HB2 := Aside0.mk hb2; clear ho2 hb2 hg2 hat2)
    go_roundw
    case rel => exact ⟨k + 1, by rw [HW.out], ⟨by have := KL.out; omega⟩, ⟨by rw [HS.out.1]; exact HO2.out⟩, HB2⟩
    case measure => have := KL.out; rw [HW.out]; simp only [intOf]; omega
   ·
    have v1 : ((0 : Int) < (m : Int)) = False := eq_false (by omega)
    have v2 : (0 < m) = False := eq_false hm0
    rw [if_pos (by have := HM.out; omega)] at HPC
    rw [HPC.out] at HS
    clear hm0
    go_wp2_with ((with_reducible refine gate_builtin (b := .append) (xs := #[.tmp 30, .tmp 32]) rfl ?_); at_builtin; refine Kd.R_append (Kd.int .i32) (w0 := w) w.heap.size rfl (.tmp 30) (.tmp 32) 26 21 (.int .i32 0) 4 rfl Try.underlying26 info21 rfl (by decide) (by omega) u5 (apartL l0 (l1.take k)) r [.int .i32 r] (fun _ => True) (fun _ => False) rfl (by first | (go_simp; done) | (go_simp; rfl)) ?aP (fun _ hk => hk.elim) (fun _ _ => trivial) ?aO ?aB ?aS ?aL ?_; (case aP => exact rfl); (case aO => exact Kd.R_alloc HO1.out _); (case aB => exact below_alloc HB1.out _); (case aS => exact below_size (below_alloc HB1.out _)); (case aL => have := HS.out.2; rw [List.length_singleton] at this; have := HN.out; omega); intro v2 w2 ho2 hb2 hg2 hat2; have HO2 := Aside0.mk ho2; have HB2 := Aside0.mk hb2; clear ho2 hb2 hg2 hat2)
    go_roundw
    case rel => exact ⟨k + 1, by rw [HW.out], ⟨by have := KL.out; omega⟩, ⟨by rw [HS.out.1]; exact HO2.out⟩, HB2⟩
    case measure => have := KL.out; rw [HW.out]; simp only [intOf]; omega
  ·
   have q1 := eq_false hlt
   have q2 : (k < n) = False := eq_false (by omega)
   have hb0 : decide ((k : Int) < (n : Int)) = false := decide_eq_false hlt
   have HE : Aside0 (l1.take k = l1) := ⟨by rw [List.take_of_length_le]; have := HN.out.1; omega⟩
   rw [HE.out] at HO
   clear hlt
   go_wp2_with fail
   go_ret
   exact ⟨_, rfl, HO.out, HB.out⟩
-- slices.Clone at runes: the same runes, in a row of the call's own (nil: nil).

/-! ### lore_Normal: function 22 -/
def lore_Normal.f (l0 : List (S42)) (l1 : List Int) : Option (List Int × Int) := (lore_May.f l0).bind fun t129 => (if t129 = true then ((slices_ContainsFunc_rune_rune.f l1).bind fun t130 => (if t130 = true then (some (([] : List Int), 2)) else ((lore_Apart.f l0 l1).bind fun t131 => ((lore_Order.f l0 t131).bind fun t134 => (some (t134, 0)))))) else (some (([] : List Int), 4)))
set_option maxHeartbeats 8000000 in
set_option maxRecDepth 100000 in
theorem lore_Normal.calls (A0 : Option Addr) (c0 : Nat) (l0 : List (S42)) (A1 : Option Addr) (c1 : Nat) (l1 : List Int) (r1 : List Int) (r2 : Int) (w : World) (hr0 : Kd.C k42 w A0 l0.length l0) (hc0 : l0.length ≤ c0) (hr1 : Kd.C (Kd.int .i32) w A1 l1.length l1) (hc1 : l1.length ≤ c1) (h : lore_Normal.f l0 l1 = some (r1, r2)) :
  Calls Try.prog 22 #[.slice A0 l0.length c0, .slice A1 l1.length c1] w fun e w' => ∃ v0_ : Value, e = .returned (.tuple #[v0_, .int .i64 r2]) ∧ Kd.R (Kd.int .i32) 21 w' w.heap.size (fun _ => True) v0_ r1 ∧ Below w.heap.size w w' := by
 have HR0 := Aside0.mk hr0
 have HC0 := Aside0.mk hc0
 clear hr0 hc0
 have HR1 := Aside0.mk hr1
 have HC1 := Aside0.mk hc1
 clear hr1 hc1
 have HB := Aside0.mk (Below.refl w.heap.size w)
 have H : ((lore_May.f l0).bind fun t129 => (if t129 = true then ((slices_ContainsFunc_rune_rune.f l1).bind fun t130 => (if t130 = true then (some (([] : List Int), 2)) else ((lore_Apart.f l0 l1).bind fun t131 => ((lore_Order.f l0 t131).bind fun t134 => (some (t134, 0)))))) else (some (([] : List Int), 4)))) = some (r1, r2) := h
 clear h
 replace H := Option.bind_eq_some_iff.mp H
 obtain ⟨t129, A30, H⟩ := H
 replace H : (if t129 = true then ((slices_ContainsFunc_rune_rune.f l1).bind fun t130 => (if t130 = true then (some (([] : List Int), 2)) else ((lore_Apart.f l0 l1).bind fun t131 => ((lore_Order.f l0 t131).bind fun t134 => (some (t134, 0)))))) else (some (([] : List Int), 4))) = some (r1, r2) := H
 have A3 := Aside0.mk A30
 clear A30
 by_cases c4 : t129 = true
 ·
  subst c4
  have H1 : ((slices_ContainsFunc_rune_rune.f l1).bind fun t130 => (if t130 = true then (some (([] : List Int), 2)) else ((lore_Apart.f l0 l1).bind fun t131 => ((lore_Order.f l0 t131).bind fun t134 => (some (t134, 0)))))) = some (r1, r2) := by rw [if_pos rfl] at H; exact H
  clear H
  have H := H1
  clear H1
  replace H := Option.bind_eq_some_iff.mp H
  obtain ⟨t130, A50, H⟩ := H
  replace H : (if t130 = true then (some (([] : List Int), 2)) else ((lore_Apart.f l0 l1).bind fun t131 => ((lore_Order.f l0 t131).bind fun t134 => (some (t134, 0))))) = some (r1, r2) := H
  have A5 := Aside0.mk A50
  clear A50
  by_cases c6 : t130 = true
  ·
   subst c6
   have H1 : (some (([] : List Int), 2)) = some (r1, r2) := by rw [if_pos rfl] at H; exact H
   clear H
   have H := H1
   clear H1
   simp only [Option.some.injEq, Prod.mk.injEq] at H
   obtain ⟨rfl, rfl⟩ := H
   go_enter Try.func22, Try.ntmps22
   go_wp2_with (first | ((with_reducible refine gate_callee (f := 28) rfl ?_); refine goesL_ (some 8) rfl rfl Try.func28 (by kernel_rfl) rfl #[.slice A0 l0.length c0] rfl (by (try simp only [List.map_toArray, List.map_cons, List.map_nil]); first | done | rfl | (simp only [List.length_drop, List.length_take]; done) | (simp only [List.length_drop, List.length_take]; rfl)) ?_; (with_reducible refine (lore_May.calls _ _ l0 true _ ?side1 ?side2 A3.out).mono ?_); (case side1 => repeat (first | exact HR0.out | (with_reducible refine Kd.C_alloc ?_ _) | (with_reducible refine Kd.C_drewN ?_ _) | (with_reducible refine Kd.C_drew ?_))); (case side2 => exact HC0.out); rintro e w7 ⟨rfl, hb⟩; refine ⟨_, rfl, ?_⟩; have n0_ := Aside0.mk (below_step (by repeat (first | (with_reducible first | exact HB.out | apply below_alloc | apply pw_below_drewN | apply below_drew1) | exact HB.out)) hb); clear HB; have HB := n0_; clear n0_; (try clear hb); (try clear hb2); (try clear hk); (try clear hi)) | ((with_reducible refine gate_callee (f := 38) rfl ?_); refine goesL_ (some 12) rfl rfl Try.func38 (by kernel_rfl) rfl #[.slice A1 l1.length c1, .func (.func 39) #[] #[]] rfl (by (try simp only [List.map_toArray, List.map_cons, List.map_nil]); first | done | rfl | (simp only [List.length_drop, List.length_take]; done) | (simp only [List.length_drop, List.length_take]; rfl)) ?_; (with_reducible refine (slices_ContainsFunc_rune_rune.calls _ _ l1 true _ ?side1 ?side2 A5.out).mono ?_); (case side1 => repeat (first | exact (Kd.C_below HR1.out HB.out) | (with_reducible refine Kd.C_alloc ?_ _) | (with_reducible refine Kd.C_drewN ?_ _) | (with_reducible refine Kd.C_drew ?_))); (case side2 => exact HC1.out); rintro e w8 ⟨rfl, hb⟩; refine ⟨_, rfl, ?_⟩; have n0_ := Aside0.mk (below_step (by repeat (first | (with_reducible first | exact HB.out | apply below_alloc | apply pw_below_drewN | apply below_drew1) | exact HB.out)) hb); clear HB; have HB := n0_; clear n0_; (try clear hb); (try clear hb2); (try clear hk); (try clear hi)))
   go_ret2
   exact ⟨_, by first | rfl | (simp [errW_none, errW_some] <;> rfl) | (simp [*, errW_none, errW_some] <;> rfl), by first | exact Kd.R_nil _ _ _ _ _ | exact Kd.N_nil _ _ _ _ _ | exact Kd.V_nil _ _ _ _ _ | exact Kd.Q_nil _ _ _ _ _ | exact Kd.S_nil _ _ _ _ _, by repeat (first | (with_reducible first | exact HB.out | apply below_alloc | apply pw_below_drewN | apply below_drew1) | exact HB.out)⟩
  ·
   replace c6 := Bool.eq_false_iff.mpr c6
   subst c6
   have H1 : ((lore_Apart.f l0 l1).bind fun t131 => ((lore_Order.f l0 t131).bind fun t134 => (some (t134, 0)))) = some (r1, r2) := by rw [if_neg (show ¬ (false = true) by decide)] at H; exact H
   clear H
   have H := H1
   clear H1
   replace H := Option.bind_eq_some_iff.mp H
   obtain ⟨t131, A90, H⟩ := H
   replace H : ((lore_Order.f l0 t131).bind fun t134 => (some (t134, 0))) = some (r1, r2) := H
   have A9 := Aside0.mk A90
   clear A90
   replace H := Option.bind_eq_some_iff.mp H
   obtain ⟨t134, A100, H⟩ := H
   replace H : (some (t134, 0)) = some (r1, r2) := H
   have A10 := Aside0.mk A100
   clear A100
   simp only [Option.some.injEq, Prod.mk.injEq] at H
   obtain ⟨rfl, rfl⟩ := H
   go_enter Try.func22, Try.ntmps22
   go_wp2_with (first | ((with_reducible refine gate_callee (f := 28) rfl ?_); refine goesL_ (some 8) rfl rfl Try.func28 (by kernel_rfl) rfl #[.slice A0 l0.length c0] rfl (by (try simp only [List.map_toArray, List.map_cons, List.map_nil]); first | done | rfl | (simp only [List.length_drop, List.length_take]; done) | (simp only [List.length_drop, List.length_take]; rfl)) ?_; (with_reducible refine (lore_May.calls _ _ l0 true _ ?side1 ?side2 A3.out).mono ?_); (case side1 => repeat (first | exact HR0.out | (with_reducible refine Kd.C_alloc ?_ _) | (with_reducible refine Kd.C_drewN ?_ _) | (with_reducible refine Kd.C_drew ?_))); (case side2 => exact HC0.out); rintro e w11 ⟨rfl, hb⟩; refine ⟨_, rfl, ?_⟩; have n0_ := Aside0.mk (below_step (by repeat (first | (with_reducible first | exact HB.out | apply below_alloc | apply pw_below_drewN | apply below_drew1) | exact HB.out)) hb); clear HB; have HB := n0_; clear n0_; (try clear hb); (try clear hb2); (try clear hk); (try clear hi)) | ((with_reducible refine gate_callee (f := 38) rfl ?_); refine goesL_ (some 12) rfl rfl Try.func38 (by kernel_rfl) rfl #[.slice A1 l1.length c1, .func (.func 39) #[] #[]] rfl (by (try simp only [List.map_toArray, List.map_cons, List.map_nil]); first | done | rfl | (simp only [List.length_drop, List.length_take]; done) | (simp only [List.length_drop, List.length_take]; rfl)) ?_; (with_reducible refine (slices_ContainsFunc_rune_rune.calls _ _ l1 false _ ?side1 ?side2 A5.out).mono ?_); (case side1 => repeat (first | exact (Kd.C_below HR1.out HB.out) | (with_reducible refine Kd.C_alloc ?_ _) | (with_reducible refine Kd.C_drewN ?_ _) | (with_reducible refine Kd.C_drew ?_))); (case side2 => exact HC1.out); rintro e w12 ⟨rfl, hb⟩; refine ⟨_, rfl, ?_⟩; have n0_ := Aside0.mk (below_step (by repeat (first | (with_reducible first | exact HB.out | apply below_alloc | apply pw_below_drewN | apply below_drew1) | exact HB.out)) hb); clear HB; have HB := n0_; clear n0_; (try clear hb); (try clear hb2); (try clear hk); (try clear hi)) | ((with_reducible refine gate_callee (f := 42) rfl ?_); refine goesL_ (some 16) rfl rfl Try.func42 (by kernel_rfl) rfl #[.slice A0 l0.length c0, .slice A1 l1.length c1] rfl (by (try simp only [List.map_toArray, List.map_cons, List.map_nil]); first | done | rfl | (simp only [List.length_drop, List.length_take]; done) | (simp only [List.length_drop, List.length_take]; rfl)) ?_; (with_reducible refine (lore_Apart.calls _ _ l0 _ _ l1 t131 _ ?side1 ?side2 ?side3 ?side4 A9.out).mono ?_); (case side1 => repeat (first | exact (Kd.C_below HR0.out HB.out) | (with_reducible refine Kd.C_alloc ?_ _) | (with_reducible refine Kd.C_drewN ?_ _) | (with_reducible refine Kd.C_drew ?_))); (case side2 => exact HC0.out); (case side3 => repeat (first | exact (Kd.C_below HR1.out HB.out) | (with_reducible refine Kd.C_alloc ?_ _) | (with_reducible refine Kd.C_drewN ?_ _) | (with_reducible refine Kd.C_drew ?_))); (case side4 => exact HC1.out); rintro e w13 ⟨v132, rfl, ho0, hb⟩; refine ⟨_, rfl, ?_⟩; have n0_ := Aside0.mk (Kd.R_lower ho0 (below_size (by repeat (first | (with_reducible first | exact HB.out | apply below_alloc | apply pw_below_drewN | apply below_drew1) | exact HB.out)))); have n1_ := Aside0.mk (below_step (by repeat (first | (with_reducible first | exact HB.out | apply below_alloc | apply pw_below_drewN | apply below_drew1) | exact HB.out)) hb); clear HB; have HO133 := n0_; have HB := n1_; clear n0_ n1_; (try clear hb); (try clear hb2); (try clear hk); (try clear hi); (try clear ho0); obtain ⟨Ao14, co14, eo14⟩ := Kd.R_slice HO133.out; subst eo14) | ((with_reducible refine gate_callee (f := 41) rfl ?_); refine goesL_ (some 17) rfl rfl Try.func41 (by kernel_rfl) rfl #[.slice A0 l0.length c0, .slice Ao14 t131.length co14] rfl (by (try simp only [List.map_toArray, List.map_cons, List.map_nil]); first | done | rfl | (simp only [List.length_drop, List.length_take]; done) | (simp only [List.length_drop, List.length_take]; rfl)) ?_; (with_reducible refine (lore_Order.calls _ _ l0 _ _ t131 t134 _ ?side1 ?side2 ?side3 ?side4 A10.out).mono ?_); (case side1 => repeat (first | exact (Kd.C_below HR0.out HB.out) | (with_reducible refine Kd.C_alloc ?_ _) | (with_reducible refine Kd.C_drewN ?_ _) | (with_reducible refine Kd.C_drew ?_))); (case side2 => exact HC0.out); (case side3 => repeat (first | exact (Kd.R_reads' HO133.out).2.2 | (with_reducible refine Kd.C_alloc ?_ _) | (with_reducible refine Kd.C_drewN ?_ _) | (with_reducible refine Kd.C_drew ?_))); (case side4 => exact (Kd.R_reads' HO133.out).2.1); rintro e w15 ⟨v135, rfl, ho0, hb⟩; refine ⟨_, rfl, ?_⟩; have n0_ := Aside0.mk (Kd.R_elder' (by (with_reducible repeat (first | apply Kd.R_alloc | apply Kd.R_drewN | apply Kd.R_drew)); exact HO133.out) (Kd.R_base ho0) hb); have n1_ := Aside0.mk (Kd.R_lower (Kd.R_new' ho0 (Kd.R_lt (by (with_reducible repeat (first | apply Kd.R_alloc | apply Kd.R_drewN | apply Kd.R_drew)); exact HO133.out))) (below_size (by repeat (first | (with_reducible first | exact HB.out | apply below_alloc | apply pw_below_drewN | apply below_drew1) | exact HB.out)))); have n2_ := Aside0.mk (below_step (by repeat (first | (with_reducible first | exact HB.out | apply below_alloc | apply pw_below_drewN | apply below_drew1) | exact HB.out)) hb); clear HO133; clear HB; have HO133 := n0_; have HO136 := n1_; have HB := n2_; clear n0_ n1_ n2_; (try clear hb); (try clear hb2); (try clear hk); (try clear hi); (try clear ho0)))
   go_ret2
   exact ⟨_, by first | rfl | (simp [errW_none, errW_some] <;> rfl) | (simp [*, errW_none, errW_some] <;> rfl), by (with_reducible repeat (first | apply Kd.R_alloc | apply Kd.R_drewN | apply Kd.R_drew)); exact Kd.R_mono HO136.out (fun _ hk => trivial), by repeat (first | (with_reducible first | exact HB.out | apply below_alloc | apply pw_below_drewN | apply below_drew1) | exact HB.out)⟩
 ·
  replace c4 := Bool.eq_false_iff.mpr c4
  subst c4
  have H1 : (some (([] : List Int), 4)) = some (r1, r2) := by rw [if_neg (show ¬ (false = true) by decide)] at H; exact H
  clear H
  have H := H1
  clear H1
  simp only [Option.some.injEq, Prod.mk.injEq] at H
  obtain ⟨rfl, rfl⟩ := H
  go_enter Try.func22, Try.ntmps22
  go_wp2_with (first | ((with_reducible refine gate_callee (f := 28) rfl ?_); refine goesL_ (some 8) rfl rfl Try.func28 (by kernel_rfl) rfl #[.slice A0 l0.length c0] rfl (by (try simp only [List.map_toArray, List.map_cons, List.map_nil]); first | done | rfl | (simp only [List.length_drop, List.length_take]; done) | (simp only [List.length_drop, List.length_take]; rfl)) ?_; (with_reducible refine (lore_May.calls _ _ l0 false _ ?side1 ?side2 A3.out).mono ?_); (case side1 => repeat (first | exact HR0.out | (with_reducible refine Kd.C_alloc ?_ _) | (with_reducible refine Kd.C_drewN ?_ _) | (with_reducible refine Kd.C_drew ?_))); (case side2 => exact HC0.out); rintro e w16 ⟨rfl, hb⟩; refine ⟨_, rfl, ?_⟩; have n0_ := Aside0.mk (below_step (by repeat (first | (with_reducible first | exact HB.out | apply below_alloc | apply pw_below_drewN | apply below_drew1) | exact HB.out)) hb); clear HB; have HB := n0_; clear n0_; (try clear hb); (try clear hb2); (try clear hk); (try clear hi)))
  go_ret2
  exact ⟨_, by first | rfl | (simp [errW_none, errW_some] <;> rfl) | (simp [*, errW_none, errW_some] <;> rfl), by first | exact Kd.R_nil _ _ _ _ _ | exact Kd.N_nil _ _ _ _ _ | exact Kd.V_nil _ _ _ _ _ | exact Kd.Q_nil _ _ _ _ _ | exact Kd.S_nil _ _ _ _ _, by repeat (first | (with_reducible first | exact HB.out | apply below_alloc | apply pw_below_drewN | apply below_drew1) | exact HB.out)⟩

-- NOT PRINTED: function 65 (api_Row_rune_65)

-- NOT PRINTED: function 54 (api_Row_rune_54)

-- NOT PRINTED: function 32 (weigh_find)

-- NOT PRINTED: function 24 (weigh_longer)

end Go.Proofs.Ytfagobhhhljajaa.PWeighParts

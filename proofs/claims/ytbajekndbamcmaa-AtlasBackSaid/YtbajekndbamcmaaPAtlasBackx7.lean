-- printed by a program of this session (wip/tools), a turned form of the kit's print
import Derived.Test.YtbajekndbamcmaaWPeel
import Derived.Test.YtbajekndbamcmaaPAtlasBackx0
import Derived.Test.YtbajekndbamcmaaPAtlasBackx2
namespace Go.Proofs.Ytbajekndbamcmaa.PAtlasBack
open Go.RowKit Go.Proofs.YtbajekndbamcmaaW.PrintWords Go.Proofs.YtbajekndbamcmaaW.PrintLast Go.Proofs.YtbajekndbamcmaaW.PrintMore
attribute [local go_sem] max2_int min2_int max_two min_two max_three min_three max_four min_four max2_str min2_str str_geq str_leq str_gtr   -- for this text's walks alone
set_option linter.unusedVariables false
set_option linter.unusedSimpArgs false

/-! ### atlas_Merge: function 26 -/
def atlas_Merge.f (k : Nat) (a0_0 : Int) (l0_1 : List (S30)) (a1 : Int) : Option (Int × (List (S30)) × List Int × Int) := (atlas_goes.f k a0_0 l0_1 5).bind fun t228 => (if t228 = true then (if a1 < 0 then (some (0, ([] : List (S30)), ([] : List Int), 1)) else (if a1 ≥ (wrap64 ((l0_1.length : Int) - 1)) then (some (0, ([] : List (S30)), ([] : List Int), 1)) else (if 0 ≤ a1 then (if a1 < (l0_1.length : Int) then (if 0 ≤ (wrap64 (a1 + 1)) then (if (wrap64 (a1 + 1)) < (l0_1.length : Int) then ((atlas_changed.f k a0_0 l0_1 a1 (wrap64 (a1 + 2)) (([(⟨(⟨(rd_T30 l0_1 a1).f0.f0, (rd_T30 l0_1 (wrap64 (a1 + 1))).f0.f1⟩ : S28), (rd_T30 l0_1 a1).f1, 0⟩ : S30)] : List (S30)))).bind fun bt235 => (some (bt235.1, bt235.2.1, bt235.2.2.1, bt235.2.2.2))) else (none)) else (none)) else (none)) else (none)))) else (some (0, ([] : List (S30)), ([] : List Int), 1)))
theorem atlas_Merge.mono : ∀ a0 a1 a2 k, LeO (atlas_Merge.f k a0 a1 a2) (atlas_Merge.f (k + 1) a0 a1 a2) := by
  intro a0 a1 a2 k
  unfold atlas_Merge.f
  repeat' first
      | (with_reducible exact atlas_changed.mono _ _ _ _ _ _)
      | (with_reducible exact atlas_goes.mono _ _ _ _)
      | (with_reducible exact LeO.refl _)
      | (with_reducible exact LeO.none _)
      | (with_reducible refine LeO.ite ?_ ?_)
      | (with_reducible refine LeO.bind ?_ (fun _ => ?_))
      | exact atlas_changed.mono _ _ _ _ _ _
      | exact atlas_goes.mono _ _ _ _
      | exact LeO.none _
      | refine LeO.ite ?_ ?_
      | refine LeO.bind ?_ (fun _ => ?_)
def atlas_Merge.T3 : Bool × List (List Nat × List Nat) := (true, [([], []), ([], []), ([], []), ([2], [2]), ([], []), ([4], [4]), ([], []), ([5, 6], [5, 6]), ([7], [7]), ([8], [8]), ([9], [9]), ([], []), ([11], [11]), ([], []), ([13], [13]), ([12, 14], [12, 14]), ([15], [15]), ([16], [16]), ([17], [17]), ([10, 18], [10, 18]), ([], []), ([20], [20]), ([], []), ([21, 22], [21, 22]), ([23], [23]), ([24], [24]), ([19, 25], [19, 25]), ([26], [26]), ([0, 1, 3, 27], [0, 1, 3, 27]), ([28], [28]), ([28], [28]), ([28], [28]), ([29, 28, 0, 1, 2, 3, 4, 5, 6, 7, 8, 9, 10, 11, 12, 13, 14, 15, 16, 17, 18, 19, 20, 21, 22, 23, 24, 25, 26, 27, 28, 29, 30, 31], [29]), ([30, 32, 0, 1, 2, 3, 4, 5, 6, 7, 8, 9, 10, 11, 12, 13, 14, 15, 16, 17, 18, 19, 20, 21, 22, 23, 24, 25, 26, 27, 28, 29, 30, 31, 32], [30]), ([31, 33, 0, 1, 2, 3, 4, 5, 6, 7, 8, 9, 10, 11, 12, 13, 14, 15, 16, 17, 18, 19, 20, 21, 22, 23, 24, 25, 26, 27, 28, 29, 30, 31, 32, 33], [31])])
def atlas_Merge.B3 : List Nat := [0, 0, 0, 4, 0, 16, 0, 112, 240, 496, 1008, 0, 2048, 0, 8192, 30720, 63488, 129024, 260096, 524272, 0, 1048576, 0, 7340032, 15728640, 32505856, 67108848, 134217712, 268435455, 536870911, 536870911, 536870911, 4294967295, 8589934591, 17179869183]
theorem atlas_Merge.tab3 : rtab .any (opsOf Try.f26 3) = atlas_Merge.T3 := by kernel_rfl
theorem atlas_Merge.bits3 : waitsOk atlas_Merge.T3.2 atlas_Merge.B3 = true := by kernel_rfl
set_option maxHeartbeats 8000000 in
set_option maxRecDepth 100000 in
theorem atlas_Merge.calls (k : Nat) (a0_0 : Int) (A0_1 : Option Addr) (c0_1 : Nat) (l0_1 : List (S30)) (a1 : Int) (r1 : Int) (r2 : List (S30)) (r3 : List Int) (r4 : Int) (w : World) (hr0_1 : Kd.C k30 w A0_1 l0_1.length l0_1) (hc0_1 : l0_1.length ≤ c0_1) (h : atlas_Merge.f k a0_0 l0_1 a1 = some (r1, r2, r3, r4)) :
    Calls Try.prog 26 #[.agg #[.int .i64 a0_0, .slice A0_1 l0_1.length c0_1], .int .i64 a1] w fun e w' => ∃ v1_ v2_ : Value, e = .returned (.tuple #[.agg #[.int .i64 r1, v1_], v2_, .int .i64 r4]) ∧ Kd.R k30 30 w' w.heap.size (fun _ => True) v1_ r2 ∧ Kd.R (Kd.int .i64) 3 w' w.heap.size (fun _ => True) v2_ r3 ∧ Below w.heap.size w w' := by
  have hu35 := Try.underlying35
  have hu28 := Try.underlying28
  have hu30 := Try.underlying30
  have HR0_1 := Aside0.mk hr0_1
  have HC0_1 := Aside0.mk hc0_1
  clear hr0_1 hc0_1
  have HB := Aside0.mk (Below.refl w.heap.size w)
  have H : ((atlas_goes.f k a0_0 l0_1 5).bind fun t228 => (if t228 = true then (if a1 < 0 then (some (0, ([] : List (S30)), ([] : List Int), 1)) else (if a1 ≥ (wrap64 ((l0_1.length : Int) - 1)) then (some (0, ([] : List (S30)), ([] : List Int), 1)) else (if 0 ≤ a1 then (if a1 < (l0_1.length : Int) then (if 0 ≤ (wrap64 (a1 + 1)) then (if (wrap64 (a1 + 1)) < (l0_1.length : Int) then ((atlas_changed.f k a0_0 l0_1 a1 (wrap64 (a1 + 2)) (([(⟨(⟨(rd_T30 l0_1 a1).f0.f0, (rd_T30 l0_1 (wrap64 (a1 + 1))).f0.f1⟩ : S28), (rd_T30 l0_1 a1).f1, 0⟩ : S30)] : List (S30)))).bind fun bt235 => (some (bt235.1, bt235.2.1, bt235.2.2.1, bt235.2.2.2))) else (none)) else (none)) else (none)) else (none)))) else (some (0, ([] : List (S30)), ([] : List Int), 1)))) = some (r1, r2, r3, r4) := h
  clear h
  replace H := Option.bind_eq_some_iff.mp H
  obtain ⟨t228, A30, H⟩ := H
  replace H : (if t228 = true then (if a1 < 0 then (some (0, ([] : List (S30)), ([] : List Int), 1)) else (if a1 ≥ (wrap64 ((l0_1.length : Int) - 1)) then (some (0, ([] : List (S30)), ([] : List Int), 1)) else (if 0 ≤ a1 then (if a1 < (l0_1.length : Int) then (if 0 ≤ (wrap64 (a1 + 1)) then (if (wrap64 (a1 + 1)) < (l0_1.length : Int) then ((atlas_changed.f k a0_0 l0_1 a1 (wrap64 (a1 + 2)) (([(⟨(⟨(rd_T30 l0_1 a1).f0.f0, (rd_T30 l0_1 (wrap64 (a1 + 1))).f0.f1⟩ : S28), (rd_T30 l0_1 a1).f1, 0⟩ : S30)] : List (S30)))).bind fun bt235 => (some (bt235.1, bt235.2.1, bt235.2.2.1, bt235.2.2.2))) else (none)) else (none)) else (none)) else (none)))) else (some (0, ([] : List (S30)), ([] : List Int), 1))) = some (r1, r2, r3, r4) := H
  have A3 := Aside0.mk A30
  clear A30
  by_cases c4 : t228 = true
  rotate_left
  ·
   replace c4 := Bool.eq_false_iff.mpr c4
   subst c4
   have H1 : (some (0, ([] : List (S30)), ([] : List Int), 1)) = some (r1, r2, r3, r4) := by rw [if_neg (show ¬ (false = true) by decide)] at H; exact H
   clear H
   have H := H1
   clear H1
   simp only [Option.some.injEq, Prod.mk.injEq] at H
   obtain ⟨rfl, rfl, rfl, rfl⟩ := H
   go_enter Try.func26, Try.ntmps26
   go_wp2_with (first | ((with_reducible refine gate_dst (N := 2) rfl ?_); (try (refine gate_guard (by rfl) ?_; dsimp only)); refine box_event ?hg (N := 2) ?hd (cs := #[.int .i64 a0_0, .slice A0_1 l0_1.length c0_1]) (t := 35) ?hr ?_; (case hd => rfl); (case hg => rfl); (case hr => first | (go_simp; done) | (go_simp; rfl)); intro gb226 hg w40 hbox hb; have BK226 := Aside0.mk (hbox); have GW226 := geL hg HB.out; have GE226 := geL hg HB.out; replace HB := Aside0.mk (below_step (pB HB.out) hb); clear hb hbox hg) | ((with_reducible refine gate_dst (N := 4) rfl ?_); (try (refine gate_guard (by rfl) ?_; dsimp only)); refine box_event ?hg (N := 4) ?hd (cs := #[.int .i64 0, .slice none 0 0]) (t := 35) ?hr ?_; (case hd => rfl); (case hg => rfl); (case hr => first | (go_simp; done) | (go_simp; rfl)); intro gb227 hg w41 hbox hb; have BK227 := Aside0.mk (hbox); have GW227 := geL hg HB.out; have GE227 := geL hg HB.out; have NB226_227 := neL hg BK226.out; have NB227_226 := neG hg BK226.out; replace BK226 := Aside0.mk (blk_below BK226.out hb); replace HB := Aside0.mk (below_step (pB HB.out) hb); clear hb hbox hg; have hnb42 := NB226_227.out; have hnc42 := NB227_226.out; have hcz43_0 : w41.cell? ⟨gb226, 0, none⟩ = some (.int .i64 a0_0) := blk_cell BK226.out 0; have hcz43_1 : w41.cell? ⟨gb226, 1, none⟩ = some (.slice A0_1 l0_1.length c0_1) := blk_cell BK226.out 1; have hfz43_0 := blk_frozen BK226.out 0; have hfz43_1 := blk_frozen BK226.out 1) | ((with_reducible refine gate_callee (f := 65) rfl ?_); refine goesL_ (some 8) rfl rfl Try.func65 (by kernel_rfl) rfl #[.agg #[.int .i64 a0_0, .slice A0_1 l0_1.length c0_1], .int .i64 5] rfl (by (try simp only [List.map_toArray, List.map_cons, List.map_nil]); first | done | rfl | (simp only [List.length_drop, List.length_take]; done) | (simp only [List.length_drop, List.length_take]; rfl)) ?_; (with_reducible refine (atlas_goes.calls k a0_0 _ _ l0_1 5 false _ ?side1 ?side2 A3.out).mono ?_); (case side1 => repeat (first | exact (Kd.C_below HR0_1.out HB.out) | (with_reducible refine Kd.C_alloc ?_ _) | (with_reducible refine Kd.C_drewN ?_ _) | (with_reducible refine Kd.C_drew ?_))); (case side2 => exact HC0_1.out); rintro e w44 ⟨rfl, hb⟩; refine ⟨_, rfl, ?_⟩; replace BK226 := Aside0.mk (blk_below BK226.out hb); replace BK227 := Aside0.mk (blk_below BK227.out hb); replace HB := Aside0.mk (below_step (pB HB.out) hb); (try clear hb); (try clear hb2); (try clear hk); (try clear hi); have hcz45_0 : w44.cell? ⟨gb227, 0, none⟩ = some (.int .i64 0) := blk_cell BK227.out 0; have hcz45_1 : w44.cell? ⟨gb227, 1, none⟩ = some (.slice none 0 0) := blk_cell BK227.out 1; have hfz45_0 := blk_frozen BK227.out 0; have hfz45_1 := blk_frozen BK227.out 1))
   refine bodyPost_ret (results_ctt rfl _ _ gb227 35 #[.int .i64 0, .slice none 0 0] (0, 0) _ rfl (by (with_reducible repeat (first | refine blk_drewN ?_ _ | refine blk_drew ?_ | refine blk_alloc ?_ _)); refine blk_put (cs := #[.int .i64 0, .slice none 0 0]) ?_ 1 _ rfl; (with_reducible repeat (first | refine blk_drewN ?_ _ | refine blk_drew ?_ | refine blk_alloc ?_ _)); refine blk_put (cs := #[.int .i64 0, .slice none 0 0]) ?_ 0 _ rfl; (with_reducible repeat (first | refine blk_drewN ?_ _ | refine blk_drew ?_ | refine blk_alloc ?_ _)); exact BK227.out) Try.underlying35 rfl (by kernel_rfl)) rfl ?_
   exact ⟨_, _, by first | rfl | (simp [errW_none, errW_some] <;> rfl) | (simp [*, errW_none, errW_some] <;> rfl), by first | exact Kd.R_nil _ _ _ _ _ | exact Kd.N_nil _ _ _ _ _ | exact Kd.V_nil _ _ _ _ _ | exact Kd.Q_nil _ _ _ _ _ | exact Kd.S_nil _ _ _ _ _, by first | exact Kd.R_nil _ _ _ _ _ | exact Kd.N_nil _ _ _ _ _ | exact Kd.V_nil _ _ _ _ _ | exact Kd.Q_nil _ _ _ _ _ | exact Kd.S_nil _ _ _ _ _, by repeat (first | (with_reducible first | exact HB.out | apply below_alloc | apply pw_below_drewN | apply below_drew1 | refine below_set ?_ GE226.out | refine below_set ?_ GE227.out) | exact HB.out)⟩
  subst c4
  have H1 : (if a1 < 0 then (some (0, ([] : List (S30)), ([] : List Int), 1)) else (if a1 ≥ (wrap64 ((l0_1.length : Int) - 1)) then (some (0, ([] : List (S30)), ([] : List Int), 1)) else (if 0 ≤ a1 then (if a1 < (l0_1.length : Int) then (if 0 ≤ (wrap64 (a1 + 1)) then (if (wrap64 (a1 + 1)) < (l0_1.length : Int) then ((atlas_changed.f k a0_0 l0_1 a1 (wrap64 (a1 + 2)) (([(⟨(⟨(rd_T30 l0_1 a1).f0.f0, (rd_T30 l0_1 (wrap64 (a1 + 1))).f0.f1⟩ : S28), (rd_T30 l0_1 a1).f1, 0⟩ : S30)] : List (S30)))).bind fun bt235 => (some (bt235.1, bt235.2.1, bt235.2.2.1, bt235.2.2.2))) else (none)) else (none)) else (none)) else (none)))) = some (r1, r2, r3, r4) := by rw [if_pos rfl] at H; exact H
  clear H
  have H := H1
  clear H1
  by_cases c5 : a1 < 0
  ·
   rw [if_pos c5] at H
   have c5b0 : decide (a1 < 0) = true := decide_eq_true c5
   clear c5
   simp only [Option.some.injEq, Prod.mk.injEq] at H
   obtain ⟨rfl, rfl, rfl, rfl⟩ := H
   go_enter Try.func26, Try.ntmps26
   go_wp2_with (first | ((with_reducible refine gate_dst (N := 2) rfl ?_); (try (refine gate_guard (by rfl) ?_; dsimp only)); refine box_event ?hg (N := 2) ?hd (cs := #[.int .i64 a0_0, .slice A0_1 l0_1.length c0_1]) (t := 35) ?hr ?_; (case hd => rfl); (case hg => rfl); (case hr => first | (go_simp; done) | (go_simp; rfl)); intro gb226 hg w6 hbox hb; have BK226 := Aside0.mk (hbox); have GW226 := geL hg HB.out; have GE226 := geL hg HB.out; replace HB := Aside0.mk (below_step (pB HB.out) hb); clear hb hbox hg) | ((with_reducible refine gate_dst (N := 4) rfl ?_); (try (refine gate_guard (by rfl) ?_; dsimp only)); refine box_event ?hg (N := 4) ?hd (cs := #[.int .i64 0, .slice none 0 0]) (t := 35) ?hr ?_; (case hd => rfl); (case hg => rfl); (case hr => first | (go_simp; done) | (go_simp; rfl)); intro gb227 hg w7 hbox hb; have BK227 := Aside0.mk (hbox); have GW227 := geL hg HB.out; have GE227 := geL hg HB.out; have NB226_227 := neL hg BK226.out; have NB227_226 := neG hg BK226.out; replace BK226 := Aside0.mk (blk_below BK226.out hb); replace HB := Aside0.mk (below_step (pB HB.out) hb); clear hb hbox hg; have hnb8 := NB226_227.out; have hnc8 := NB227_226.out; have hcz9_0 : w7.cell? ⟨gb226, 0, none⟩ = some (.int .i64 a0_0) := blk_cell BK226.out 0; have hcz9_1 : w7.cell? ⟨gb226, 1, none⟩ = some (.slice A0_1 l0_1.length c0_1) := blk_cell BK226.out 1; have hfz9_0 := blk_frozen BK226.out 0; have hfz9_1 := blk_frozen BK226.out 1) | ((with_reducible refine gate_callee (f := 65) rfl ?_); refine goesL_ (some 8) rfl rfl Try.func65 (by kernel_rfl) rfl #[.agg #[.int .i64 a0_0, .slice A0_1 l0_1.length c0_1], .int .i64 5] rfl (by (try simp only [List.map_toArray, List.map_cons, List.map_nil]); first | done | rfl | (simp only [List.length_drop, List.length_take]; done) | (simp only [List.length_drop, List.length_take]; rfl)) ?_; (with_reducible refine (atlas_goes.calls k a0_0 _ _ l0_1 5 true _ ?side1 ?side2 A3.out).mono ?_); (case side1 => repeat (first | exact (Kd.C_below HR0_1.out HB.out) | (with_reducible refine Kd.C_alloc ?_ _) | (with_reducible refine Kd.C_drewN ?_ _) | (with_reducible refine Kd.C_drew ?_))); (case side2 => exact HC0_1.out); rintro e w10 ⟨rfl, hb⟩; refine ⟨_, rfl, ?_⟩; replace BK226 := Aside0.mk (blk_below BK226.out hb); replace BK227 := Aside0.mk (blk_below BK227.out hb); replace HB := Aside0.mk (below_step (pB HB.out) hb); (try clear hb); (try clear hb2); (try clear hk); (try clear hi); have hcz11_0 : w10.cell? ⟨gb227, 0, none⟩ = some (.int .i64 0) := blk_cell BK227.out 0; have hcz11_1 : w10.cell? ⟨gb227, 1, none⟩ = some (.slice none 0 0) := blk_cell BK227.out 1; have hfz11_0 := blk_frozen BK227.out 0; have hfz11_1 := blk_frozen BK227.out 1))
   refine bodyPost_ret (results_ctt rfl _ _ gb227 35 #[.int .i64 0, .slice none 0 0] (0, 0) _ rfl (by (with_reducible repeat (first | refine blk_drewN ?_ _ | refine blk_drew ?_ | refine blk_alloc ?_ _)); refine blk_put (cs := #[.int .i64 0, .slice none 0 0]) ?_ 1 _ rfl; (with_reducible repeat (first | refine blk_drewN ?_ _ | refine blk_drew ?_ | refine blk_alloc ?_ _)); refine blk_put (cs := #[.int .i64 0, .slice none 0 0]) ?_ 0 _ rfl; (with_reducible repeat (first | refine blk_drewN ?_ _ | refine blk_drew ?_ | refine blk_alloc ?_ _)); exact BK227.out) Try.underlying35 rfl (by kernel_rfl)) rfl ?_
   exact ⟨_, _, by first | rfl | (simp [errW_none, errW_some] <;> rfl) | (simp [*, errW_none, errW_some] <;> rfl), by first | exact Kd.R_nil _ _ _ _ _ | exact Kd.N_nil _ _ _ _ _ | exact Kd.V_nil _ _ _ _ _ | exact Kd.Q_nil _ _ _ _ _ | exact Kd.S_nil _ _ _ _ _, by first | exact Kd.R_nil _ _ _ _ _ | exact Kd.N_nil _ _ _ _ _ | exact Kd.V_nil _ _ _ _ _ | exact Kd.Q_nil _ _ _ _ _ | exact Kd.S_nil _ _ _ _ _, by repeat (first | (with_reducible first | exact HB.out | apply below_alloc | apply pw_below_drewN | apply below_drew1 | refine below_set ?_ GE226.out | refine below_set ?_ GE227.out) | exact HB.out)⟩
  rw [if_neg c5] at H
  have c5b0 : decide (a1 < 0) = false := decide_eq_false c5
  clear c5
  by_cases c12 : a1 ≥ (wrap64 ((l0_1.length : Int) - 1))
  ·
   rw [if_pos c12] at H
   have c12b0 : decide ((wrap64 ((l0_1.length : Int) - 1)) ≤ a1) = true := decide_eq_true c12
   clear c12
   simp only [Option.some.injEq, Prod.mk.injEq] at H
   obtain ⟨rfl, rfl, rfl, rfl⟩ := H
   go_enter Try.func26, Try.ntmps26
   go_wp2_with (first | ((with_reducible refine gate_dst (N := 2) rfl ?_); (try (refine gate_guard (by rfl) ?_; dsimp only)); refine box_event ?hg (N := 2) ?hd (cs := #[.int .i64 a0_0, .slice A0_1 l0_1.length c0_1]) (t := 35) ?hr ?_; (case hd => rfl); (case hg => rfl); (case hr => first | (go_simp; done) | (go_simp; rfl)); intro gb226 hg w13 hbox hb; have BK226 := Aside0.mk (hbox); have GW226 := geL hg HB.out; have GE226 := geL hg HB.out; replace HB := Aside0.mk (below_step (pB HB.out) hb); clear hb hbox hg) | ((with_reducible refine gate_dst (N := 4) rfl ?_); (try (refine gate_guard (by rfl) ?_; dsimp only)); refine box_event ?hg (N := 4) ?hd (cs := #[.int .i64 0, .slice none 0 0]) (t := 35) ?hr ?_; (case hd => rfl); (case hg => rfl); (case hr => first | (go_simp; done) | (go_simp; rfl)); intro gb227 hg w14 hbox hb; have BK227 := Aside0.mk (hbox); have GW227 := geL hg HB.out; have GE227 := geL hg HB.out; have NB226_227 := neL hg BK226.out; have NB227_226 := neG hg BK226.out; replace BK226 := Aside0.mk (blk_below BK226.out hb); replace HB := Aside0.mk (below_step (pB HB.out) hb); clear hb hbox hg; have hnb15 := NB226_227.out; have hnc15 := NB227_226.out; have hcz16_0 : w14.cell? ⟨gb226, 0, none⟩ = some (.int .i64 a0_0) := blk_cell BK226.out 0; have hcz16_1 : w14.cell? ⟨gb226, 1, none⟩ = some (.slice A0_1 l0_1.length c0_1) := blk_cell BK226.out 1; have hfz16_0 := blk_frozen BK226.out 0; have hfz16_1 := blk_frozen BK226.out 1) | ((with_reducible refine gate_callee (f := 65) rfl ?_); refine goesL_ (some 8) rfl rfl Try.func65 (by kernel_rfl) rfl #[.agg #[.int .i64 a0_0, .slice A0_1 l0_1.length c0_1], .int .i64 5] rfl (by (try simp only [List.map_toArray, List.map_cons, List.map_nil]); first | done | rfl | (simp only [List.length_drop, List.length_take]; done) | (simp only [List.length_drop, List.length_take]; rfl)) ?_; (with_reducible refine (atlas_goes.calls k a0_0 _ _ l0_1 5 true _ ?side1 ?side2 A3.out).mono ?_); (case side1 => repeat (first | exact (Kd.C_below HR0_1.out HB.out) | (with_reducible refine Kd.C_alloc ?_ _) | (with_reducible refine Kd.C_drewN ?_ _) | (with_reducible refine Kd.C_drew ?_))); (case side2 => exact HC0_1.out); rintro e w17 ⟨rfl, hb⟩; refine ⟨_, rfl, ?_⟩; replace BK226 := Aside0.mk (blk_below BK226.out hb); replace BK227 := Aside0.mk (blk_below BK227.out hb); replace HB := Aside0.mk (below_step (pB HB.out) hb); (try clear hb); (try clear hb2); (try clear hk); (try clear hi); have hcz18_0 : w17.cell? ⟨gb226, 0, none⟩ = some (.int .i64 a0_0) := blk_cell BK226.out 0; have hcz18_1 : w17.cell? ⟨gb226, 1, none⟩ = some (.slice A0_1 l0_1.length c0_1) := blk_cell BK226.out 1; have hfz18_0 := blk_frozen BK226.out 0; have hfz18_1 := blk_frozen BK226.out 1; have hcz19_0 : w17.cell? ⟨gb227, 0, none⟩ = some (.int .i64 0) := blk_cell BK227.out 0; have hcz19_1 : w17.cell? ⟨gb227, 1, none⟩ = some (.slice none 0 0) := blk_cell BK227.out 1; have hfz19_0 := blk_frozen BK227.out 0; have hfz19_1 := blk_frozen BK227.out 1))
   refine bodyPost_ret (results_ctt rfl _ _ gb227 35 #[.int .i64 0, .slice none 0 0] (0, 0) _ rfl (by (with_reducible repeat (first | refine blk_drewN ?_ _ | refine blk_drew ?_ | refine blk_alloc ?_ _)); refine blk_put (cs := #[.int .i64 0, .slice none 0 0]) ?_ 1 _ rfl; (with_reducible repeat (first | refine blk_drewN ?_ _ | refine blk_drew ?_ | refine blk_alloc ?_ _)); refine blk_put (cs := #[.int .i64 0, .slice none 0 0]) ?_ 0 _ rfl; (with_reducible repeat (first | refine blk_drewN ?_ _ | refine blk_drew ?_ | refine blk_alloc ?_ _)); exact BK227.out) Try.underlying35 rfl (by kernel_rfl)) rfl ?_
   exact ⟨_, _, by first | rfl | (simp [errW_none, errW_some] <;> rfl) | (simp [*, errW_none, errW_some] <;> rfl), by first | exact Kd.R_nil _ _ _ _ _ | exact Kd.N_nil _ _ _ _ _ | exact Kd.V_nil _ _ _ _ _ | exact Kd.Q_nil _ _ _ _ _ | exact Kd.S_nil _ _ _ _ _, by first | exact Kd.R_nil _ _ _ _ _ | exact Kd.N_nil _ _ _ _ _ | exact Kd.V_nil _ _ _ _ _ | exact Kd.Q_nil _ _ _ _ _ | exact Kd.S_nil _ _ _ _ _, by repeat (first | (with_reducible first | exact HB.out | apply below_alloc | apply pw_below_drewN | apply below_drew1 | refine below_set ?_ GE226.out | refine below_set ?_ GE227.out) | exact HB.out)⟩
  rw [if_neg c12] at H
  have c12b0 : decide ((wrap64 ((l0_1.length : Int) - 1)) ≤ a1) = false := decide_eq_false c12
  clear c12
  by_cases c20 : 0 ≤ a1
  rotate_left
  · rw [if_neg c20] at H
    exact absurd H (by simp)
  rw [if_pos c20] at H
  have c20b0 : decide (0 ≤ a1) = true := decide_eq_true c20
  clear c20
  by_cases c21 : a1 < (l0_1.length : Int)
  rotate_left
  · rw [if_neg c21] at H
    exact absurd H (by simp)
  rw [if_pos c21] at H
  have c21b0 : decide (a1 < (l0_1.length : Int)) = true := decide_eq_true c21
  clear c21
  obtain ⟨ji22, hji22⟩ : ∃ j_ : Int, (wrap64 (a1 + 1)) = j_ := ⟨_, rfl⟩
  replace H : (if 0 ≤ (ji22) then (if (ji22) < (l0_1.length : Int) then ((atlas_changed.f k a0_0 l0_1 a1 (wrap64 (a1 + 2)) (([(⟨(⟨(rd_T30 l0_1 a1).f0.f0, (rd_T30 l0_1 (ji22)).f0.f1⟩ : S28), (rd_T30 l0_1 a1).f1, 0⟩ : S30)] : List (S30)))).bind fun bt235 => (some (bt235.1, bt235.2.1, bt235.2.2.1, bt235.2.2.2))) else (none)) else (none)) = some (r1, r2, r3, r4) := by first | (rw [hji22] at H; exact H) | (simp only [hji22] at H ⊢; exact H)
  (try rw [hji22] at A3)
  have hji22w : (IntKind.i64.wrap (a1 + 1)) = ji22 := (i64_w _).trans hji22
  by_cases c23 : 0 ≤ (ji22)
  rotate_left
  · rw [if_neg c23] at H
    exact absurd H (by simp)
  rw [if_pos c23] at H
  have c23b0 : decide (0 ≤ (ji22)) = true := decide_eq_true c23
  clear c23
  by_cases c24 : (ji22) < (l0_1.length : Int)
  rotate_left
  · rw [if_neg c24] at H
    exact absurd H (by simp)
  rw [if_pos c24] at H
  have c24b0 : decide ((ji22) < (l0_1.length : Int)) = true := decide_eq_true c24
  clear c24
  obtain ⟨y232, hy232⟩ : ∃ y_ : List (S30), y_ = (([(⟨(⟨(rd_T30 l0_1 a1).f0.f0, (rd_T30 l0_1 (ji22)).f0.f1⟩ : S28), (rd_T30 l0_1 a1).f1, 0⟩ : S30)] : List (S30))) := ⟨_, rfl⟩
  replace H : ((atlas_changed.f k a0_0 l0_1 a1 (wrap64 (a1 + 2)) y232).bind fun bt235 => (some (bt235.1, bt235.2.1, bt235.2.2.1, bt235.2.2.2))) = some (r1, r2, r3, r4) := by first | (rw [hy232]; with_reducible exact H) | (have H2_ := (Option.bind_some _ _).symm.trans H; rw [hy232]; with_reducible exact H2_) | (have H2_ := (Option.bind_some _ _).symm.trans H; with_reducible exact H2_) | with_reducible exact H | (rw [hy232]; exact H) | exact H
  have Ny232 := Aside0.mk hy232
  clear hy232
  replace H := Option.bind_eq_some_iff.mp H
  obtain ⟨⟨t235, t236, t239, t242⟩, A250, H⟩ := H
  replace H : (some (t235, t236, t239, t242)) = some (r1, r2, r3, r4) := H
  have A25 := Aside0.mk A250
  clear A250
  simp only [Option.some.injEq, Prod.mk.injEq] at H
  obtain ⟨rfl, rfl, rfl, rfl⟩ := H
  go_enter Try.func26, Try.ntmps26
  try go_wp2_with (first | ((with_reducible refine gate_dst (N := 2) rfl ?_); (try (refine gate_guard (by rfl) ?_; dsimp only)); refine box_event ?hg (N := 2) ?hd (cs := #[.int .i64 a0_0, .slice A0_1 l0_1.length c0_1]) (t := 35) ?hr ?_; (case hd => rfl); (case hg => rfl); (case hr => first | (go_simp; done) | (go_simp; rfl)); intro gb226 hg w26 hbox hb; have BK226 := Aside0.mk (hbox); have GW226 := geL hg HB.out; have GE226 := geL hg HB.out; replace HB := Aside0.mk (below_step (pB HB.out) hb); clear hb hbox hg) | ((with_reducible refine gate_dst (N := 4) rfl ?_); (try (refine gate_guard (by rfl) ?_; dsimp only)); refine box_event ?hg (N := 4) ?hd (cs := #[.int .i64 0, .slice none 0 0]) (t := 35) ?hr ?_; (case hd => rfl); (case hg => rfl); (case hr => first | (go_simp; done) | (go_simp; rfl)); intro gb227 hg w27 hbox hb; have BK227 := Aside0.mk (hbox); have GW227 := geL hg HB.out; have GE227 := geL hg HB.out; have NB226_227 := neL hg BK226.out; have NB227_226 := neG hg BK226.out; replace BK226 := Aside0.mk (blk_below BK226.out hb); replace HB := Aside0.mk (below_step (pB HB.out) hb); clear hb hbox hg; have hnb28 := NB226_227.out; have hnc28 := NB227_226.out; have hcz29_0 : w27.cell? ⟨gb226, 0, none⟩ = some (.int .i64 a0_0) := blk_cell BK226.out 0; have hcz29_1 : w27.cell? ⟨gb226, 1, none⟩ = some (.slice A0_1 l0_1.length c0_1) := blk_cell BK226.out 1; have hfz29_0 := blk_frozen BK226.out 0; have hfz29_1 := blk_frozen BK226.out 1) | ((with_reducible refine gate_callee (f := 65) rfl ?_); refine goesL_ (some 8) rfl rfl Try.func65 (by kernel_rfl) rfl #[.agg #[.int .i64 a0_0, .slice A0_1 l0_1.length c0_1], .int .i64 5] rfl (by (try simp only [List.map_toArray, List.map_cons, List.map_nil]); first | done | rfl | (simp only [List.length_drop, List.length_take]; done) | (simp only [List.length_drop, List.length_take]; rfl)) ?_; (with_reducible refine (atlas_goes.calls k a0_0 _ _ l0_1 5 true _ ?side1 ?side2 A3.out).mono ?_); (case side1 => repeat (first | exact (Kd.C_below HR0_1.out HB.out) | (with_reducible refine Kd.C_alloc ?_ _) | (with_reducible refine Kd.C_drewN ?_ _) | (with_reducible refine Kd.C_drew ?_))); (case side2 => exact HC0_1.out); rintro e w30 ⟨rfl, hb⟩; refine ⟨_, rfl, ?_⟩; replace BK226 := Aside0.mk (blk_below BK226.out hb); replace BK227 := Aside0.mk (blk_below BK227.out hb); replace HB := Aside0.mk (below_step (pB HB.out) hb); (try clear hb); (try clear hb2); (try clear hk); (try clear hi); have hcz31_0 : w30.cell? ⟨gb226, 0, none⟩ = some (.int .i64 a0_0) := blk_cell BK226.out 0; have hcz31_1 : w30.cell? ⟨gb226, 1, none⟩ = some (.slice A0_1 l0_1.length c0_1) := blk_cell BK226.out 1; have hfz31_0 := blk_frozen BK226.out 0; have hfz31_1 := blk_frozen BK226.out 1))
  replace BK226 := Aside0.mk (blk_drew BK226.out)
  replace BK227 := Aside0.mk (blk_drew BK227.out)
  replace HB := Aside0.mk (below_drew1 HB.out)
  have p229 : 0 ≤ (a1 : Int) := of_decide_eq_true (by first | (with_reducible assumption) | assumption)
  have q229 : a1 < (l0_1.length : Int) := of_decide_eq_true (by first | (with_reducible assumption) | assumption)
  obtain ⟨ad229, e229, hx229_0, hx229_1, hx229_2, hx229_3⟩ := at_T30 HR0_1.out a1 p229 q229
  have hw229_3 := hx229_3
  have hw229_2 := hx229_2
  have hw229_1 := hx229_1
  have hw229_0 := hx229_0
  cases e229
  replace hx229_0 := (HB.out.cell (World.block_lt_of_cell? w _ hx229_0)).trans hx229_0
  replace hx229_1 := (HB.out.cell (World.block_lt_of_cell? w _ hx229_1)).trans hx229_1
  replace hx229_2 := (HB.out.cell (World.block_lt_of_cell? w _ hx229_2)).trans hx229_2
  replace hx229_3 := (HB.out.cell (World.block_lt_of_cell? w _ hx229_3)).trans hx229_3
  replace p229 := eq_true p229
  replace q229 := eq_true q229
  have p230 : 0 ≤ ((ji22) : Int) := of_decide_eq_true (by first | (with_reducible assumption) | assumption)
  have q230 : (ji22) < (l0_1.length : Int) := of_decide_eq_true (by first | (with_reducible assumption) | assumption)
  obtain ⟨ad230, e230, hx230_0, hx230_1, hx230_2, hx230_3⟩ := at_T30 HR0_1.out (ji22) p230 q230
  have hw230_3 := hx230_3
  have hw230_2 := hx230_2
  have hw230_1 := hx230_1
  have hw230_0 := hx230_0
  obtain rfl : ad229 = ad230 := (by injection e230)
  replace hx230_0 := (HB.out.cell (World.block_lt_of_cell? w _ hx230_0)).trans hx230_0
  replace hx230_1 := (HB.out.cell (World.block_lt_of_cell? w _ hx230_1)).trans hx230_1
  replace hx230_2 := (HB.out.cell (World.block_lt_of_cell? w _ hx230_2)).trans hx230_2
  replace hx230_3 := (HB.out.cell (World.block_lt_of_cell? w _ hx230_3)).trans hx230_3
  replace p230 := eq_true p230
  replace q230 := eq_true q230
  have p231 : 0 ≤ (a1 : Int) := of_decide_eq_true (by first | (with_reducible assumption) | assumption)
  have q231 : a1 < (l0_1.length : Int) := of_decide_eq_true (by first | (with_reducible assumption) | assumption)
  obtain ⟨ad231, e231, hx231_0, hx231_1, hx231_2, hx231_3⟩ := at_T30 HR0_1.out a1 p231 q231
  have hw231_3 := hx231_3
  have hw231_2 := hx231_2
  have hw231_1 := hx231_1
  have hw231_0 := hx231_0
  obtain rfl : ad229 = ad231 := (by injection e231)
  replace hx231_0 := (HB.out.cell (World.block_lt_of_cell? w _ hx231_0)).trans hx231_0
  replace hx231_1 := (HB.out.cell (World.block_lt_of_cell? w _ hx231_1)).trans hx231_1
  replace hx231_2 := (HB.out.cell (World.block_lt_of_cell? w _ hx231_2)).trans hx231_2
  replace hx231_3 := (HB.out.cell (World.block_lt_of_cell? w _ hx231_3)).trans hx231_3
  replace p231 := eq_true p231
  replace q231 := eq_true q231
  refine start_ (n := 35) (S := fun w' => w'.cell? ⟨gb226, 0, none⟩ = some (.int .i64 a0_0) ∧ w'.cell? ⟨gb226, 1, none⟩ = some (.slice (some ad229) l0_1.length c0_1) ∧ w'.cell? (ad229.add ((a1).toNat * 4)) = some (.string ((rd_T30 l0_1 a1).f0.f0)) ∧ w'.cell? ⟨(ad229.add ((a1).toNat * 4)).block, (ad229.add ((a1).toNat * 4)).off + 1, none⟩ = some (.string ((rd_T30 l0_1 a1).f0.f1)) ∧ w'.cell? ⟨(ad229.add ((a1).toNat * 4)).block, (ad229.add ((a1).toNat * 4)).off + 2, none⟩ = some (.int .i64 ((rd_T30 l0_1 a1).f1)) ∧ w'.cell? ⟨(ad229.add ((a1).toNat * 4)).block, (ad229.add ((a1).toNat * 4)).off + 3, none⟩ = some (.int .i64 ((rd_T30 l0_1 a1).f2)) ∧ w'.cell? (ad229.add (((ji22)).toNat * 4)) = some (.string ((rd_T30 l0_1 (ji22)).f0.f0)) ∧ w'.cell? ⟨(ad229.add (((ji22)).toNat * 4)).block, (ad229.add (((ji22)).toNat * 4)).off + 1, none⟩ = some (.string ((rd_T30 l0_1 (ji22)).f0.f1)) ∧ w'.cell? ⟨(ad229.add (((ji22)).toNat * 4)).block, (ad229.add (((ji22)).toNat * 4)).off + 2, none⟩ = some (.int .i64 ((rd_T30 l0_1 (ji22)).f1)) ∧ w'.cell? ⟨(ad229.add (((ji22)).toNat * 4)).block, (ad229.add (((ji22)).toNat * 4)).off + 3, none⟩ = some (.int .i64 ((rd_T30 l0_1 (ji22)).f2)) ∧ w'.cell? (ad229.add ((a1).toNat * 4)) = some (.string ((rd_T30 l0_1 a1).f0.f0)) ∧ w'.cell? ⟨(ad229.add ((a1).toNat * 4)).block, (ad229.add ((a1).toNat * 4)).off + 1, none⟩ = some (.string ((rd_T30 l0_1 a1).f0.f1)) ∧ w'.cell? ⟨(ad229.add ((a1).toNat * 4)).block, (ad229.add ((a1).toNat * 4)).off + 2, none⟩ = some (.int .i64 ((rd_T30 l0_1 a1).f1)) ∧ w'.cell? ⟨(ad229.add ((a1).toNat * 4)).block, (ad229.add ((a1).toNat * 4)).off + 3, none⟩ = some (.int .i64 ((rd_T30 l0_1 a1).f2))) (ds := []) #[false, false, false, false, false, false, false, false, false, false, false, false, false, false, false, false, false, false, false, false, false, false, false, false, false, false, false, false, false, false, false, false, false, false, false] (by kernel_rfl) rfl rfl ⟨blk_cell BK226.out 0, blk_cell BK226.out 1, ((HB.out.cell (World.block_lt_of_cell? w _ hw229_0)).trans hw229_0), ((HB.out.cell (World.block_lt_of_cell? w _ hw229_1)).trans hw229_1), ((HB.out.cell (World.block_lt_of_cell? w _ hw229_2)).trans hw229_2), ((HB.out.cell (World.block_lt_of_cell? w _ hw229_3)).trans hw229_3), ((HB.out.cell (World.block_lt_of_cell? w _ hw230_0)).trans hw230_0), ((HB.out.cell (World.block_lt_of_cell? w _ hw230_1)).trans hw230_1), ((HB.out.cell (World.block_lt_of_cell? w _ hw230_2)).trans hw230_2), ((HB.out.cell (World.block_lt_of_cell? w _ hw230_3)).trans hw230_3), ((HB.out.cell (World.block_lt_of_cell? w _ hw231_0)).trans hw231_0), ((HB.out.cell (World.block_lt_of_cell? w _ hw231_1)).trans hw231_1), ((HB.out.cell (World.block_lt_of_cell? w _ hw231_2)).trans hw231_2), ((HB.out.cell (World.block_lt_of_cell? w _ hw231_3)).trans hw231_3)⟩ (fun hHeld => ?_); refine with_tabW atlas_Merge.tab3 atlas_Merge.bits3 (fun HT_ HW_ => ?_)
  generalize w30.drew = w32 at BK226 BK227 HB hx229_0 hx229_1 hx229_2 hx229_3 hx230_0 hx230_1 hx230_2 hx230_3 hx231_0 hx231_1 hx231_2 hx231_3 hHeld ⊢
  refine pure_ (i := 1) (N := some 24) (v := ?_) (a' := ?_) #[false, true, false, false, false, false, false, false, false, false, false, false, false, false, false, false, false, false, false, false, false, false, false, false, false, false, false, false, false, false, false, false, false, false, false] rfl rfl (any_of HT_.out (by kernel_rfl)) (fun _ _ _ h => h) (Or.inl ⟨by rfl, ?_⟩) ?_ ?_
  rotate_left
  · intro w'
    go_simp
    with_reducible rfl
  rotate_left
  · simp only [Act.put, List.setIfInBounds_toArray, List.set_cons_zero, List.set_cons_succ, i64_w, i32_w]; rfl
  refine pure_ (i := 2) (N := some 25) (v := ?_) (a' := ?_) #[false, true, true, false, false, false, false, false, false, false, false, false, false, false, false, false, false, false, false, false, false, false, false, false, false, false, false, false, false, false, false, false, false, false, false] rfl rfl (any_of HT_.out (by kernel_rfl)) (fun _ _ _ h => h) (Or.inl ⟨by rfl, ?_⟩) ?_ ?_
  rotate_left
  · intro w'
    go_simp
    with_reducible rfl
  rotate_left
  · simp only [Act.put, List.setIfInBounds_toArray, List.set_cons_zero, List.set_cons_succ, i64_w, i32_w]; rfl
  refine pure_ (i := 3) (N := some 26) (v := ?_) (a' := ?_) #[false, true, true, true, false, false, false, false, false, false, false, false, false, false, false, false, false, false, false, false, false, false, false, false, false, false, false, false, false, false, false, false, false, false, false] rfl rfl (any_of HT_.out (by kernel_rfl)) (fun _ _ _ h => h) (Or.inl ⟨by rfl, ?_⟩) ?_ ?_
  rotate_left
  · intro w'
    go_simp
    with_reducible rfl
  rotate_left
  · simp only [Act.put, List.setIfInBounds_toArray, List.set_cons_zero, List.set_cons_succ, i64_w, i32_w]; rfl
  refine pure_ (i := 4) (N := some 27) (v := ?_) (a' := ?_) #[false, true, true, true, true, false, false, false, false, false, false, false, false, false, false, false, false, false, false, false, false, false, false, false, false, false, false, false, false, false, false, false, false, false, false] rfl rfl (any_of HT_.out (by kernel_rfl)) (fun _ _ _ h => h) (Or.inl ⟨by rfl, ?_⟩) ?_ ?_
  rotate_left
  · intro w'
    go_simp
    with_reducible rfl
  rotate_left
  · simp only [Act.put, List.setIfInBounds_toArray, List.set_cons_zero, List.set_cons_succ, i64_w, i32_w]; rfl
  refine pure_ (i := 6) (N := some 29) (v := ?_) (a' := ?_) #[false, true, true, true, true, false, true, false, false, false, false, false, false, false, false, false, false, false, false, false, false, false, false, false, false, false, false, false, false, false, false, false, false, false, false] rfl rfl (any_of HT_.out (by kernel_rfl)) (fun _ _ _ h => h) (Or.inl ⟨by rfl, ?_⟩) ?_ ?_
  rotate_left
  · intro w'
    go_simp
    with_reducible rfl
  rotate_left
  · simp only [Act.put, List.setIfInBounds_toArray, List.set_cons_zero, List.set_cons_succ, i64_w, i32_w]; rfl
  refine pure_ (i := 11) (N := some 34) (v := ?_) (a' := ?_) #[false, true, true, true, true, false, true, false, false, false, false, true, false, false, false, false, false, false, false, false, false, false, false, false, false, false, false, false, false, false, false, false, false, false, false] rfl rfl (any_of HT_.out (by kernel_rfl)) (fun _ _ _ h => h) (Or.inl ⟨by rfl, ?_⟩) ?_ ?_
  rotate_left
  · intro w'
    go_simp
    with_reducible rfl
  rotate_left
  · simp only [Act.put, List.setIfInBounds_toArray, List.set_cons_zero, List.set_cons_succ, i64_w, i32_w]; rfl
  refine pure_ (i := 13) (N := some 36) (v := ?_) (a' := ?_) #[false, true, true, true, true, false, true, false, false, false, false, true, false, true, false, false, false, false, false, false, false, false, false, false, false, false, false, false, false, false, false, false, false, false, false] rfl rfl (any_of HT_.out (by kernel_rfl)) (fun _ _ _ h => h) (Or.inl ⟨by rfl, ?_⟩) ?_ ?_
  rotate_left
  · intro w'
    go_simp
    with_reducible rfl
  rotate_left
  · simp only [Act.put, List.setIfInBounds_toArray, List.set_cons_zero, List.set_cons_succ, i64_w, i32_w]; rfl
  refine pure_ (i := 14) (N := some 37) (v := ?_) (a' := ?_) #[false, true, true, true, true, false, true, false, false, false, false, true, false, true, true, false, false, false, false, false, false, false, false, false, false, false, false, false, false, false, false, false, false, false, false] rfl rfl (any_of HT_.out (by kernel_rfl)) (fun _ _ _ h => h) (Or.inl ⟨by rfl, ?_⟩) ?_ ?_
  rotate_left
  · intro w'
    go_simp
    with_reducible rfl
  rotate_left
  · simp only [Act.put, List.setIfInBounds_toArray, List.set_cons_zero, List.set_cons_succ, i64_w, i32_w]; rfl
  refine pure_ (i := 20) (N := some 43) (v := ?_) (a' := ?_) #[false, true, true, true, true, false, true, false, false, false, false, true, false, true, true, false, false, false, false, false, true, false, false, false, false, false, false, false, false, false, false, false, false, false, false] rfl rfl (any_of HT_.out (by kernel_rfl)) (fun _ _ _ h => h) (Or.inl ⟨by rfl, ?_⟩) ?_ ?_
  rotate_left
  · intro w'
    go_simp
    with_reducible rfl
  rotate_left
  · simp only [Act.put, List.setIfInBounds_toArray, List.set_cons_zero, List.set_cons_succ, i64_w, i32_w]; rfl
  refine pure_ (i := 22) (N := some 45) (v := ?_) (a' := ?_) #[false, true, true, true, true, false, true, false, false, false, false, true, false, true, true, false, false, false, false, false, true, false, true, false, false, false, false, false, false, false, false, false, false, false, false] rfl rfl (any_of HT_.out (by kernel_rfl)) (fun _ _ _ h => h) (Or.inl ⟨by rfl, ?_⟩) ?_ ?_
  rotate_left
  · intro w'
    go_simp
    with_reducible rfl
  rotate_left
  · simp only [Act.put, List.setIfInBounds_toArray, List.set_cons_zero, List.set_cons_succ, i64_w, i32_w]; rfl
  refine take_ (i := 0) (N := some 23) (v := ?_) (a' := ?_) #[true, true, true, true, true, false, true, false, false, false, false, true, false, true, true, false, false, false, false, false, true, false, true, false, false, false, false, false, false, false, false, false, false, false, false] rfl rfl (take_ofW HT_.out HW_.out (by kernel_rfl)) (fun _ _ _ h => h) (Or.inl ⟨by rfl, ?_⟩) hHeld ?_ ?_
  rotate_left
  · rintro w' ⟨s0, s1, s2, s3, s4, s5, s6, s7, s8, s9, s10, s11, s12, s13⟩; go_simp; with_reducible rfl
  rotate_left
  · simp only [Act.put, List.setIfInBounds_toArray, List.set_cons_zero, List.set_cons_succ, i64_w, i32_w]; rfl
  refine take_ (i := 5) (N := some 28) (v := ?_) (a' := ?_) #[true, true, true, true, true, true, true, false, false, false, false, true, false, true, true, false, false, false, false, false, true, false, true, false, false, false, false, false, false, false, false, false, false, false, false] rfl rfl (take_ofW HT_.out HW_.out (by kernel_rfl)) (fun _ _ _ h => h) (Or.inl ⟨by rfl, ?_⟩) hHeld ?_ ?_
  rotate_left
  · rintro w' ⟨s0, s1, s2, s3, s4, s5, s6, s7, s8, s9, s10, s11, s12, s13⟩; go_simp; with_reducible rfl
  rotate_left
  · simp only [Act.put, List.setIfInBounds_toArray, List.set_cons_zero, List.set_cons_succ, i64_w, i32_w]; rfl
  refine pure_ (i := 7) (N := some 30) (v := ?_) (a' := ?_) #[true, true, true, true, true, true, true, true, false, false, false, true, false, true, true, false, false, false, false, false, true, false, true, false, false, false, false, false, false, false, false, false, false, false, false] rfl rfl (any_of HT_.out (by kernel_rfl)) (fun _ _ _ h => h) (Or.inl ⟨by rfl, ?_⟩) ?_ ?_
  rotate_left
  · intro w'
    go_simp
    with_reducible rfl
  rotate_left
  · simp only [Act.put, List.setIfInBounds_toArray, List.set_cons_zero, List.set_cons_succ, i64_w, i32_w]; rfl
  refine pure_ (i := 8) (N := some 31) (v := ?_) (a' := ?_) #[true, true, true, true, true, true, true, true, true, false, false, true, false, true, true, false, false, false, false, false, true, false, true, false, false, false, false, false, false, false, false, false, false, false, false] rfl rfl (any_of HT_.out (by kernel_rfl)) (fun _ _ _ h => h) (Or.inl ⟨by rfl, ?_⟩) ?_ ?_
  rotate_left
  · intro w'
    go_simp
    with_reducible rfl
  rotate_left
  · simp only [Act.put, List.setIfInBounds_toArray, List.set_cons_zero, List.set_cons_succ, i64_w, i32_w]; rfl
  refine pure_ (i := 9) (N := some 32) (v := ?_) (a' := ?_) #[true, true, true, true, true, true, true, true, true, true, false, true, false, true, true, false, false, false, false, false, true, false, true, false, false, false, false, false, false, false, false, false, false, false, false] rfl rfl (any_of HT_.out (by kernel_rfl)) (fun _ _ _ h => h) (Or.inl ⟨by rfl, ?_⟩) ?_ ?_
  rotate_left
  · intro w'
    go_simp
    with_reducible rfl
  rotate_left
  · simp only [Act.put, List.setIfInBounds_toArray, List.set_cons_zero, List.set_cons_succ, i64_w, i32_w]; rfl
  refine take_ (i := 10) (N := some 33) (v := ?_) (a' := ?_) #[true, true, true, true, true, true, true, true, true, true, true, true, false, true, true, false, false, false, false, false, true, false, true, false, false, false, false, false, false, false, false, false, false, false, false] rfl rfl (take_ofW HT_.out HW_.out (by kernel_rfl)) (fun _ _ _ h => h) (Or.inl ⟨by rfl, ?_⟩) hHeld ?_ ?_
  rotate_left
  · rintro w' ⟨s0, s1, s2, s3, s4, s5, s6, s7, s8, s9, s10, s11, s12, s13⟩; go_simp; with_reducible rfl
  rotate_left
  · simp only [Act.put, List.setIfInBounds_toArray, List.set_cons_zero, List.set_cons_succ, i64_w, i32_w]; rfl
  refine take_ (i := 12) (N := some 35) (v := ?_) (a' := ?_) #[true, true, true, true, true, true, true, true, true, true, true, true, true, true, true, false, false, false, false, false, true, false, true, false, false, false, false, false, false, false, false, false, false, false, false] rfl rfl (take_ofW HT_.out HW_.out (by kernel_rfl)) (fun _ _ _ h => h) (Or.inl ⟨by rfl, ?_⟩) hHeld ?_ ?_
  rotate_left
  · rintro w' ⟨s0, s1, s2, s3, s4, s5, s6, s7, s8, s9, s10, s11, s12, s13⟩; go_simp; with_reducible rfl
  rotate_left
  · simp only [Act.put, List.setIfInBounds_toArray, List.set_cons_zero, List.set_cons_succ, i64_w, i32_w]; rfl
  refine pure_ (i := 15) (N := some 38) (v := ?_) (a' := ?_) #[true, true, true, true, true, true, true, true, true, true, true, true, true, true, true, true, false, false, false, false, true, false, true, false, false, false, false, false, false, false, false, false, false, false, false] rfl rfl (any_of HT_.out (by kernel_rfl)) (fun _ _ _ h => h) (Or.inl ⟨by rfl, ?_⟩) ?_ ?_
  rotate_left
  · intro w'
    go_simp
    with_reducible rfl
  rotate_left
  · simp only [Act.put, List.setIfInBounds_toArray, List.set_cons_zero, List.set_cons_succ, i64_w, i32_w]; rfl
  refine pure_ (i := 16) (N := some 39) (v := ?_) (a' := ?_) #[true, true, true, true, true, true, true, true, true, true, true, true, true, true, true, true, true, false, false, false, true, false, true, false, false, false, false, false, false, false, false, false, false, false, false] rfl rfl (any_of HT_.out (by kernel_rfl)) (fun _ _ _ h => h) (Or.inl ⟨by rfl, ?_⟩) ?_ ?_
  rotate_left
  · intro w'
    go_simp
    with_reducible rfl
  rotate_left
  · simp only [Act.put, List.setIfInBounds_toArray, List.set_cons_zero, List.set_cons_succ, i64_w, i32_w]; rfl
  refine pure_ (i := 17) (N := some 40) (v := ?_) (a' := ?_) #[true, true, true, true, true, true, true, true, true, true, true, true, true, true, true, true, true, true, false, false, true, false, true, false, false, false, false, false, false, false, false, false, false, false, false] rfl rfl (any_of HT_.out (by kernel_rfl)) (fun _ _ _ h => h) (Or.inl ⟨by rfl, ?_⟩) ?_ ?_
  rotate_left
  · intro w'
    go_simp
    with_reducible rfl
  rotate_left
  · simp only [Act.put, List.setIfInBounds_toArray, List.set_cons_zero, List.set_cons_succ, i64_w, i32_w]; rfl
  refine take_ (i := 18) (N := some 41) (v := ?_) (a' := ?_) #[true, true, true, true, true, true, true, true, true, true, true, true, true, true, true, true, true, true, true, false, true, false, true, false, false, false, false, false, false, false, false, false, false, false, false] rfl rfl (take_ofW HT_.out HW_.out (by kernel_rfl)) (fun _ _ _ h => h) (Or.inl ⟨by rfl, ?_⟩) hHeld ?_ ?_
  rotate_left
  · rintro w' ⟨s0, s1, s2, s3, s4, s5, s6, s7, s8, s9, s10, s11, s12, s13⟩; go_simp; with_reducible rfl
  rotate_left
  · simp only [Act.put, List.setIfInBounds_toArray, List.set_cons_zero, List.set_cons_succ, i64_w, i32_w]; rfl
  refine pure_ (i := 19) (N := some 42) (v := ?_) (a' := ?_) #[true, true, true, true, true, true, true, true, true, true, true, true, true, true, true, true, true, true, true, true, true, false, true, false, false, false, false, false, false, false, false, false, false, false, false] rfl rfl (any_of HT_.out (by kernel_rfl)) (fun _ _ _ h => h) (Or.inl ⟨by rfl, ?_⟩) ?_ ?_
  rotate_left
  · intro w'
    go_simp
    with_reducible rfl
  rotate_left
  · simp only [Act.put, List.setIfInBounds_toArray, List.set_cons_zero, List.set_cons_succ, i64_w, i32_w]; rfl
  refine take_ (i := 21) (N := some 44) (v := ?_) (a' := ?_) #[true, true, true, true, true, true, true, true, true, true, true, true, true, true, true, true, true, true, true, true, true, true, true, false, false, false, false, false, false, false, false, false, false, false, false] rfl rfl (take_ofW HT_.out HW_.out (by kernel_rfl)) (fun _ _ _ h => h) (Or.inl ⟨by rfl, ?_⟩) hHeld ?_ ?_
  rotate_left
  · rintro w' ⟨s0, s1, s2, s3, s4, s5, s6, s7, s8, s9, s10, s11, s12, s13⟩; go_simp; with_reducible rfl
  rotate_left
  · simp only [Act.put, List.setIfInBounds_toArray, List.set_cons_zero, List.set_cons_succ, i64_w, i32_w]; rfl
  refine pure_ (i := 23) (N := some 46) (v := ?_) (a' := ?_) #[true, true, true, true, true, true, true, true, true, true, true, true, true, true, true, true, true, true, true, true, true, true, true, true, false, false, false, false, false, false, false, false, false, false, false] rfl rfl (any_of HT_.out (by kernel_rfl)) (fun _ _ _ h => h) (Or.inl ⟨by rfl, ?_⟩) ?_ ?_
  rotate_left
  · intro w'
    go_simp
    with_reducible rfl
  rotate_left
  · simp only [Act.put, List.setIfInBounds_toArray, List.set_cons_zero, List.set_cons_succ, i64_w, i32_w]; rfl
  refine pure_ (i := 24) (N := some 47) (v := ?_) (a' := ?_) #[true, true, true, true, true, true, true, true, true, true, true, true, true, true, true, true, true, true, true, true, true, true, true, true, true, false, false, false, false, false, false, false, false, false, false] rfl rfl (any_of HT_.out (by kernel_rfl)) (fun _ _ _ h => h) (Or.inl ⟨by rfl, ?_⟩) ?_ ?_
  rotate_left
  · intro w'
    go_simp
    with_reducible rfl
  rotate_left
  · simp only [Act.put, List.setIfInBounds_toArray, List.set_cons_zero, List.set_cons_succ, i64_w, i32_w]; rfl
  refine take_ (i := 25) (N := some 48) (v := ?_) (a' := ?_) #[true, true, true, true, true, true, true, true, true, true, true, true, true, true, true, true, true, true, true, true, true, true, true, true, true, true, false, false, false, false, false, false, false, false, false] rfl rfl (take_ofW HT_.out HW_.out (by kernel_rfl)) (fun _ _ _ h => h) (Or.inl ⟨by rfl, ?_⟩) hHeld ?_ ?_
  rotate_left
  · rintro w' ⟨s0, s1, s2, s3, s4, s5, s6, s7, s8, s9, s10, s11, s12, s13⟩; go_simp; with_reducible rfl
  rotate_left
  · simp only [Act.put, List.setIfInBounds_toArray, List.set_cons_zero, List.set_cons_succ, i64_w, i32_w]; rfl
  refine pure_ (i := 26) (N := some 49) (v := ?_) (a' := ?_) #[true, true, true, true, true, true, true, true, true, true, true, true, true, true, true, true, true, true, true, true, true, true, true, true, true, true, true, false, false, false, false, false, false, false, false] rfl rfl (any_of HT_.out (by kernel_rfl)) (fun _ _ _ h => h) (Or.inl ⟨by rfl, ?_⟩) ?_ ?_
  rotate_left
  · intro w'
    go_simp
    with_reducible rfl
  rotate_left
  · simp only [Act.put, List.setIfInBounds_toArray, List.set_cons_zero, List.set_cons_succ, i64_w, i32_w]; rfl
  refine one_ (i := 27) (N := some 50) #[true, true, true, true, true, true, true, true, true, true, true, true, true, true, true, true, true, true, true, true, true, true, true, true, true, true, true, true, false, false, false, false, false, false, false] rfl rfl (one_of HT_.out (by kernel_rfl)) (by decide) (fun K hK => ?_)
  refine Kd.R_lit_step k30 _ 30 ?hg (N := 50) ?hd (xs := ([(⟨(⟨(rd_T30 l0_1 a1).f0.f0, (rd_T30 l0_1 (ji22)).f0.f1⟩ : S28), (rd_T30 l0_1 a1).f1, 0⟩ : S30)] : List (S30))) (inner := [.string ((rd_T30 l0_1 a1).f0.f0), .string ((rd_T30 l0_1 (ji22)).f0.f1), .int .i64 ((rd_T30 l0_1 a1).f1), .int .i64 0]) (ok := fun _ => True) (okp := fun _ => True) ?hr ?hp (fun _ hk => hk) trivial (Below.refl _ _) (Nat.le_refl _) (by simp) ?_; (case hd => rfl); (case hg => rfl); (case hr => first | (go_simp; done) | (go_simp; rfl)); (case hp => exact (Reps.c4 (show Kd.M k30 _ _ _ (⟨(⟨(rd_T30 l0_1 a1).f0.f0, (rd_T30 l0_1 (ji22)).f0.f1⟩ : S28), (rd_T30 l0_1 a1).f1, 0⟩ : S30) [.string ((rd_T30 l0_1 a1).f0.f0), .string ((rd_T30 l0_1 (ji22)).f0.f1), .int .i64 ((rd_T30 l0_1 a1).f1), .int .i64 0] from (k30_mkM _ _ _ (⟨(⟨(rd_T30 l0_1 a1).f0.f0, (rd_T30 l0_1 (ji22)).f0.f1⟩ : S28), (rd_T30 l0_1 a1).f1, 0⟩ : S30) )) (Reps.none _ _)))
  intro v233 w33 ho34 hb hg_ hnew_
  clear hg_ hnew_
  (first | rw [← Ny232.out] at ho34 | (simp only [Int.reduceToNat] at ho34; rw [← Ny232.out] at ho34))
  have HO234 := Aside0.mk (Kd.R_lower ho34 (below_size (pB HB.out)))
  replace BK226 := Aside0.mk (blk_below BK226.out hb)
  replace BK227 := Aside0.mk (blk_below BK227.out hb)
  replace HB := Aside0.mk (below_step (pB HB.out) hb)
  clear hb ho34
  obtain ⟨Ao35, co35, eo35⟩ := Kd.R_slice HO234.out
  (first | subst eo35 | (injection eo35 with f1_ f2_ f3_; have f4_ := f1_.symm; have f5_ := f3_.symm; clear f1_ f2_ f3_; subst f4_; subst f5_))
  refine hK.out _ _ ⟨blk_cell BK226.out 0, blk_cell BK226.out 1, ((HB.out.cell (World.block_lt_of_cell? w _ hw229_0)).trans hw229_0), ((HB.out.cell (World.block_lt_of_cell? w _ hw229_1)).trans hw229_1), ((HB.out.cell (World.block_lt_of_cell? w _ hw229_2)).trans hw229_2), ((HB.out.cell (World.block_lt_of_cell? w _ hw229_3)).trans hw229_3), ((HB.out.cell (World.block_lt_of_cell? w _ hw230_0)).trans hw230_0), ((HB.out.cell (World.block_lt_of_cell? w _ hw230_1)).trans hw230_1), ((HB.out.cell (World.block_lt_of_cell? w _ hw230_2)).trans hw230_2), ((HB.out.cell (World.block_lt_of_cell? w _ hw230_3)).trans hw230_3), ((HB.out.cell (World.block_lt_of_cell? w _ hw231_0)).trans hw231_0), ((HB.out.cell (World.block_lt_of_cell? w _ hw231_1)).trans hw231_1), ((HB.out.cell (World.block_lt_of_cell? w _ hw231_2)).trans hw231_2), ((HB.out.cell (World.block_lt_of_cell? w _ hw231_3)).trans hw231_3)⟩ (fun hHeld => ?_)
  clear hK K
  refine norm_ (a' := ?_) ?_ ?_
  rotate_left
  · show Act.put _ (some 50) _ = _; simp only [Act.put, List.setIfInBounds_toArray, List.set_cons_zero, List.set_cons_succ, i64_w, i32_w]; rfl
  refine one_ (i := 28) (N := some 51) #[true, true, true, true, true, true, true, true, true, true, true, true, true, true, true, true, true, true, true, true, true, true, true, true, true, true, true, true, true, false, false, false, false, false, false] rfl rfl (one_of HT_.out (by kernel_rfl)) (by decide) (fun K hK => ?_)
  refine goes_ Try.func66 (by kernel_rfl) rfl #[.agg #[.int .i64 a0_0, .slice (some ad229) l0_1.length c0_1], .int .i64 a1, .int .i64 (wrap64 (a1 + 2)), .slice Ao35 y232.length co35] (by rfl) rfl rfl (by (try simp only [List.map_toArray, List.map_cons, List.map_nil]); first | done | rfl | (simp only [List.length_drop, List.length_take]; done) | (simp only [List.length_drop, List.length_take]; rfl)) ?_
  with_reducible refine (atlas_changed.calls k a0_0 _ _ l0_1 a1 (wrap64 (a1 + 2)) _ _ y232 t235 t236 t239 t242 _ ?side1 ?side2 ?side3 ?side4 A25.out).mono ?_
  (case side1 => repeat (first | exact (Kd.C_below HR0_1.out HB.out) | (with_reducible refine Kd.C_alloc ?_ _) | (with_reducible refine Kd.C_drewN ?_ _) | (with_reducible refine Kd.C_drew ?_)))
  (case side2 => exact HC0_1.out)
  (case side3 => repeat (first | exact (Kd.R_reads' HO234.out).2.2 | (with_reducible refine Kd.C_alloc ?_ _) | (with_reducible refine Kd.C_drewN ?_ _) | (with_reducible refine Kd.C_drew ?_)))
  (case side4 => exact (Kd.R_reads' HO234.out).2.1)
  rintro e w36 ⟨v237, v240, rfl, ho0, ho1, hb⟩
  refine ⟨_, rfl, ?_⟩
  have HO238 := Aside0.mk (Kd.R_lower (Kd.R_new' ho0 (Kd.R_lt (pR HO234.out))) (below_size (pB HB.out)))
  have HO241 := Aside0.mk (Kd.R_lower ho1 (below_size (pB HB.out)))
  replace HO234 := Aside0.mk (Kd.R_elder' (pR HO234.out) (Kd.R_base ho0) hb)
  replace BK226 := Aside0.mk (blk_below BK226.out hb)
  replace BK227 := Aside0.mk (blk_below BK227.out hb)
  replace HB := Aside0.mk (below_step (pB HB.out) hb)
  (try clear hb)
  (try clear hb2)
  (try clear hk)
  (try clear hi)
  (try clear ho0)
  (try clear ho1)
  obtain ⟨Ao38, co38, eo38⟩ := Kd.R_slice HO238.out
  (first | subst eo38 | (injection eo38 with f1_ f2_ f3_; have f4_ := f1_.symm; have f5_ := f3_.symm; clear f1_ f2_ f3_; subst f4_; subst f5_))
  refine hK.out _ _ ⟨blk_cell BK226.out 0, blk_cell BK226.out 1, ((HB.out.cell (World.block_lt_of_cell? w _ hw229_0)).trans hw229_0), ((HB.out.cell (World.block_lt_of_cell? w _ hw229_1)).trans hw229_1), ((HB.out.cell (World.block_lt_of_cell? w _ hw229_2)).trans hw229_2), ((HB.out.cell (World.block_lt_of_cell? w _ hw229_3)).trans hw229_3), ((HB.out.cell (World.block_lt_of_cell? w _ hw230_0)).trans hw230_0), ((HB.out.cell (World.block_lt_of_cell? w _ hw230_1)).trans hw230_1), ((HB.out.cell (World.block_lt_of_cell? w _ hw230_2)).trans hw230_2), ((HB.out.cell (World.block_lt_of_cell? w _ hw230_3)).trans hw230_3), ((HB.out.cell (World.block_lt_of_cell? w _ hw231_0)).trans hw231_0), ((HB.out.cell (World.block_lt_of_cell? w _ hw231_1)).trans hw231_1), ((HB.out.cell (World.block_lt_of_cell? w _ hw231_2)).trans hw231_2), ((HB.out.cell (World.block_lt_of_cell? w _ hw231_3)).trans hw231_3)⟩ (fun hHeld => ?_)
  clear hK K
  refine norm_ (a' := ?_) ?_ ?_
  rotate_left
  · show Act.put _ (some 51) _ = _; simp only [Act.put, List.setIfInBounds_toArray, List.set_cons_zero, List.set_cons_succ, i64_w, i32_w]; rfl
  refine pure_ (i := 29) (N := some 52) (v := ?_) (a' := ?_) #[true, true, true, true, true, true, true, true, true, true, true, true, true, true, true, true, true, true, true, true, true, true, true, true, true, true, true, true, true, true, false, false, false, false, false] rfl rfl (any_of HT_.out (by kernel_rfl)) (fun _ _ _ h => h) (Or.inl ⟨by rfl, ?_⟩) ?_ ?_
  rotate_left
  · intro w'
    go_simp
    with_reducible rfl
  rotate_left
  · simp only [Act.put, List.setIfInBounds_toArray, List.set_cons_zero, List.set_cons_succ, i64_w, i32_w]; rfl
  refine pure_ (i := 30) (N := some 53) (v := ?_) (a' := ?_) #[true, true, true, true, true, true, true, true, true, true, true, true, true, true, true, true, true, true, true, true, true, true, true, true, true, true, true, true, true, true, true, false, false, false, false] rfl rfl (any_of HT_.out (by kernel_rfl)) (fun _ _ _ h => h) (Or.inl ⟨by rfl, ?_⟩) ?_ ?_
  rotate_left
  · intro w'
    go_simp
    with_reducible rfl
  rotate_left
  · simp only [Act.put, List.setIfInBounds_toArray, List.set_cons_zero, List.set_cons_succ, i64_w, i32_w]; rfl
  refine pure_ (i := 31) (N := some 54) (v := ?_) (a' := ?_) #[true, true, true, true, true, true, true, true, true, true, true, true, true, true, true, true, true, true, true, true, true, true, true, true, true, true, true, true, true, true, true, true, false, false, false] rfl rfl (any_of HT_.out (by kernel_rfl)) (fun _ _ _ h => h) (Or.inl ⟨by rfl, ?_⟩) ?_ ?_
  rotate_left
  · intro w'
    go_simp
    with_reducible rfl
  rotate_left
  · simp only [Act.put, List.setIfInBounds_toArray, List.set_cons_zero, List.set_cons_succ, i64_w, i32_w]; rfl
  refine one_ (i := 32) (N := none) #[true, true, true, true, true, true, true, true, true, true, true, true, true, true, true, true, true, true, true, true, true, true, true, true, true, true, true, true, true, true, true, true, true, false, false] rfl rfl (one_of HT_.out (by kernel_rfl)) (by decide) (fun K hK => ?_)
  have hs37 : w36.cell? ⟨gb227, 0, none⟩ = some (.int .i64 0) := blk_cell BK227.out 0
  have hfs37 := blk_frozen BK227.out 0
  have hns37_0 := NB226_227.out
  have hms37_0 := NB227_226.out
  have hs39 : w36.cell? ⟨gb227, 1, none⟩ = some (.slice none 0 0) := blk_cell BK227.out 1
  have hfs39 := blk_frozen BK227.out 1
  have hns39_0 := NB226_227.out
  have hms39_0 := NB227_226.out
  refine skip_ (w1 := ?_) (by rfl) rfl ?_ ?_
  rotate_left
  · go_simp; rfl
  refine hK.out _ _ ⟨((cell_far (p := ⟨gb227, _, none⟩) NB226_227.out _).trans (((cell_far (p := ⟨gb227, _, none⟩) NB226_227.out _).trans (hHeld.1)))), ((cell_far (p := ⟨gb227, _, none⟩) NB226_227.out _).trans (((cell_far (p := ⟨gb227, _, none⟩) NB226_227.out _).trans (hHeld.2.1)))), ((cell_far (p := ⟨gb227, _, none⟩) (by first | exact Nat.ne_of_lt (Nat.lt_of_lt_of_le (by have := World.block_lt_of_cell? _ _ hw229_0; first | rwa [add_block] at this | exact this) GW227.out) | (rw [add_block]; exact Nat.ne_of_lt (Nat.lt_of_lt_of_le (by have := World.block_lt_of_cell? _ _ hw229_0; first | rwa [add_block] at this | exact this) GW227.out)) | (show (Addr.add _ _).block ≠ _; rw [add_block]; exact Nat.ne_of_lt (Nat.lt_of_lt_of_le (by have := World.block_lt_of_cell? _ _ hw229_0; first | rwa [add_block] at this | exact this) GW227.out)) | (dsimp only; exact Nat.ne_of_lt (Nat.lt_of_lt_of_le (by have := World.block_lt_of_cell? _ _ hw229_0; first | rwa [add_block] at this | exact this) GW227.out))) _).trans (((cell_far (p := ⟨gb227, _, none⟩) (by first | exact Nat.ne_of_lt (Nat.lt_of_lt_of_le (by have := World.block_lt_of_cell? _ _ hw229_0; first | rwa [add_block] at this | exact this) GW227.out) | (rw [add_block]; exact Nat.ne_of_lt (Nat.lt_of_lt_of_le (by have := World.block_lt_of_cell? _ _ hw229_0; first | rwa [add_block] at this | exact this) GW227.out)) | (show (Addr.add _ _).block ≠ _; rw [add_block]; exact Nat.ne_of_lt (Nat.lt_of_lt_of_le (by have := World.block_lt_of_cell? _ _ hw229_0; first | rwa [add_block] at this | exact this) GW227.out)) | (dsimp only; exact Nat.ne_of_lt (Nat.lt_of_lt_of_le (by have := World.block_lt_of_cell? _ _ hw229_0; first | rwa [add_block] at this | exact this) GW227.out))) _).trans (hHeld.2.2.1)))), ((cell_far (p := ⟨gb227, _, none⟩) (by first | exact Nat.ne_of_lt (Nat.lt_of_lt_of_le (by have := World.block_lt_of_cell? _ _ hw229_1; first | rwa [add_block] at this | exact this) GW227.out) | (rw [add_block]; exact Nat.ne_of_lt (Nat.lt_of_lt_of_le (by have := World.block_lt_of_cell? _ _ hw229_1; first | rwa [add_block] at this | exact this) GW227.out)) | (show (Addr.add _ _).block ≠ _; rw [add_block]; exact Nat.ne_of_lt (Nat.lt_of_lt_of_le (by have := World.block_lt_of_cell? _ _ hw229_1; first | rwa [add_block] at this | exact this) GW227.out)) | (dsimp only; exact Nat.ne_of_lt (Nat.lt_of_lt_of_le (by have := World.block_lt_of_cell? _ _ hw229_1; first | rwa [add_block] at this | exact this) GW227.out))) _).trans (((cell_far (p := ⟨gb227, _, none⟩) (by first | exact Nat.ne_of_lt (Nat.lt_of_lt_of_le (by have := World.block_lt_of_cell? _ _ hw229_1; first | rwa [add_block] at this | exact this) GW227.out) | (rw [add_block]; exact Nat.ne_of_lt (Nat.lt_of_lt_of_le (by have := World.block_lt_of_cell? _ _ hw229_1; first | rwa [add_block] at this | exact this) GW227.out)) | (show (Addr.add _ _).block ≠ _; rw [add_block]; exact Nat.ne_of_lt (Nat.lt_of_lt_of_le (by have := World.block_lt_of_cell? _ _ hw229_1; first | rwa [add_block] at this | exact this) GW227.out)) | (dsimp only; exact Nat.ne_of_lt (Nat.lt_of_lt_of_le (by have := World.block_lt_of_cell? _ _ hw229_1; first | rwa [add_block] at this | exact this) GW227.out))) _).trans (hHeld.2.2.2.1)))), ((cell_far (p := ⟨gb227, _, none⟩) (by first | exact Nat.ne_of_lt (Nat.lt_of_lt_of_le (by have := World.block_lt_of_cell? _ _ hw229_2; first | rwa [add_block] at this | exact this) GW227.out) | (rw [add_block]; exact Nat.ne_of_lt (Nat.lt_of_lt_of_le (by have := World.block_lt_of_cell? _ _ hw229_2; first | rwa [add_block] at this | exact this) GW227.out)) | (show (Addr.add _ _).block ≠ _; rw [add_block]; exact Nat.ne_of_lt (Nat.lt_of_lt_of_le (by have := World.block_lt_of_cell? _ _ hw229_2; first | rwa [add_block] at this | exact this) GW227.out)) | (dsimp only; exact Nat.ne_of_lt (Nat.lt_of_lt_of_le (by have := World.block_lt_of_cell? _ _ hw229_2; first | rwa [add_block] at this | exact this) GW227.out))) _).trans (((cell_far (p := ⟨gb227, _, none⟩) (by first | exact Nat.ne_of_lt (Nat.lt_of_lt_of_le (by have := World.block_lt_of_cell? _ _ hw229_2; first | rwa [add_block] at this | exact this) GW227.out) | (rw [add_block]; exact Nat.ne_of_lt (Nat.lt_of_lt_of_le (by have := World.block_lt_of_cell? _ _ hw229_2; first | rwa [add_block] at this | exact this) GW227.out)) | (show (Addr.add _ _).block ≠ _; rw [add_block]; exact Nat.ne_of_lt (Nat.lt_of_lt_of_le (by have := World.block_lt_of_cell? _ _ hw229_2; first | rwa [add_block] at this | exact this) GW227.out)) | (dsimp only; exact Nat.ne_of_lt (Nat.lt_of_lt_of_le (by have := World.block_lt_of_cell? _ _ hw229_2; first | rwa [add_block] at this | exact this) GW227.out))) _).trans (hHeld.2.2.2.2.1)))), ((cell_far (p := ⟨gb227, _, none⟩) (by first | exact Nat.ne_of_lt (Nat.lt_of_lt_of_le (by have := World.block_lt_of_cell? _ _ hw229_3; first | rwa [add_block] at this | exact this) GW227.out) | (rw [add_block]; exact Nat.ne_of_lt (Nat.lt_of_lt_of_le (by have := World.block_lt_of_cell? _ _ hw229_3; first | rwa [add_block] at this | exact this) GW227.out)) | (show (Addr.add _ _).block ≠ _; rw [add_block]; exact Nat.ne_of_lt (Nat.lt_of_lt_of_le (by have := World.block_lt_of_cell? _ _ hw229_3; first | rwa [add_block] at this | exact this) GW227.out)) | (dsimp only; exact Nat.ne_of_lt (Nat.lt_of_lt_of_le (by have := World.block_lt_of_cell? _ _ hw229_3; first | rwa [add_block] at this | exact this) GW227.out))) _).trans (((cell_far (p := ⟨gb227, _, none⟩) (by first | exact Nat.ne_of_lt (Nat.lt_of_lt_of_le (by have := World.block_lt_of_cell? _ _ hw229_3; first | rwa [add_block] at this | exact this) GW227.out) | (rw [add_block]; exact Nat.ne_of_lt (Nat.lt_of_lt_of_le (by have := World.block_lt_of_cell? _ _ hw229_3; first | rwa [add_block] at this | exact this) GW227.out)) | (show (Addr.add _ _).block ≠ _; rw [add_block]; exact Nat.ne_of_lt (Nat.lt_of_lt_of_le (by have := World.block_lt_of_cell? _ _ hw229_3; first | rwa [add_block] at this | exact this) GW227.out)) | (dsimp only; exact Nat.ne_of_lt (Nat.lt_of_lt_of_le (by have := World.block_lt_of_cell? _ _ hw229_3; first | rwa [add_block] at this | exact this) GW227.out))) _).trans (hHeld.2.2.2.2.2.1)))), ((cell_far (p := ⟨gb227, _, none⟩) (by first | exact Nat.ne_of_lt (Nat.lt_of_lt_of_le (by have := World.block_lt_of_cell? _ _ hw230_0; first | rwa [add_block] at this | exact this) GW227.out) | (rw [add_block]; exact Nat.ne_of_lt (Nat.lt_of_lt_of_le (by have := World.block_lt_of_cell? _ _ hw230_0; first | rwa [add_block] at this | exact this) GW227.out)) | (show (Addr.add _ _).block ≠ _; rw [add_block]; exact Nat.ne_of_lt (Nat.lt_of_lt_of_le (by have := World.block_lt_of_cell? _ _ hw230_0; first | rwa [add_block] at this | exact this) GW227.out)) | (dsimp only; exact Nat.ne_of_lt (Nat.lt_of_lt_of_le (by have := World.block_lt_of_cell? _ _ hw230_0; first | rwa [add_block] at this | exact this) GW227.out))) _).trans (((cell_far (p := ⟨gb227, _, none⟩) (by first | exact Nat.ne_of_lt (Nat.lt_of_lt_of_le (by have := World.block_lt_of_cell? _ _ hw230_0; first | rwa [add_block] at this | exact this) GW227.out) | (rw [add_block]; exact Nat.ne_of_lt (Nat.lt_of_lt_of_le (by have := World.block_lt_of_cell? _ _ hw230_0; first | rwa [add_block] at this | exact this) GW227.out)) | (show (Addr.add _ _).block ≠ _; rw [add_block]; exact Nat.ne_of_lt (Nat.lt_of_lt_of_le (by have := World.block_lt_of_cell? _ _ hw230_0; first | rwa [add_block] at this | exact this) GW227.out)) | (dsimp only; exact Nat.ne_of_lt (Nat.lt_of_lt_of_le (by have := World.block_lt_of_cell? _ _ hw230_0; first | rwa [add_block] at this | exact this) GW227.out))) _).trans (hHeld.2.2.2.2.2.2.1)))), ((cell_far (p := ⟨gb227, _, none⟩) (by first | exact Nat.ne_of_lt (Nat.lt_of_lt_of_le (by have := World.block_lt_of_cell? _ _ hw230_1; first | rwa [add_block] at this | exact this) GW227.out) | (rw [add_block]; exact Nat.ne_of_lt (Nat.lt_of_lt_of_le (by have := World.block_lt_of_cell? _ _ hw230_1; first | rwa [add_block] at this | exact this) GW227.out)) | (show (Addr.add _ _).block ≠ _; rw [add_block]; exact Nat.ne_of_lt (Nat.lt_of_lt_of_le (by have := World.block_lt_of_cell? _ _ hw230_1; first | rwa [add_block] at this | exact this) GW227.out)) | (dsimp only; exact Nat.ne_of_lt (Nat.lt_of_lt_of_le (by have := World.block_lt_of_cell? _ _ hw230_1; first | rwa [add_block] at this | exact this) GW227.out))) _).trans (((cell_far (p := ⟨gb227, _, none⟩) (by first | exact Nat.ne_of_lt (Nat.lt_of_lt_of_le (by have := World.block_lt_of_cell? _ _ hw230_1; first | rwa [add_block] at this | exact this) GW227.out) | (rw [add_block]; exact Nat.ne_of_lt (Nat.lt_of_lt_of_le (by have := World.block_lt_of_cell? _ _ hw230_1; first | rwa [add_block] at this | exact this) GW227.out)) | (show (Addr.add _ _).block ≠ _; rw [add_block]; exact Nat.ne_of_lt (Nat.lt_of_lt_of_le (by have := World.block_lt_of_cell? _ _ hw230_1; first | rwa [add_block] at this | exact this) GW227.out)) | (dsimp only; exact Nat.ne_of_lt (Nat.lt_of_lt_of_le (by have := World.block_lt_of_cell? _ _ hw230_1; first | rwa [add_block] at this | exact this) GW227.out))) _).trans (hHeld.2.2.2.2.2.2.2.1)))), ((cell_far (p := ⟨gb227, _, none⟩) (by first | exact Nat.ne_of_lt (Nat.lt_of_lt_of_le (by have := World.block_lt_of_cell? _ _ hw230_2; first | rwa [add_block] at this | exact this) GW227.out) | (rw [add_block]; exact Nat.ne_of_lt (Nat.lt_of_lt_of_le (by have := World.block_lt_of_cell? _ _ hw230_2; first | rwa [add_block] at this | exact this) GW227.out)) | (show (Addr.add _ _).block ≠ _; rw [add_block]; exact Nat.ne_of_lt (Nat.lt_of_lt_of_le (by have := World.block_lt_of_cell? _ _ hw230_2; first | rwa [add_block] at this | exact this) GW227.out)) | (dsimp only; exact Nat.ne_of_lt (Nat.lt_of_lt_of_le (by have := World.block_lt_of_cell? _ _ hw230_2; first | rwa [add_block] at this | exact this) GW227.out))) _).trans (((cell_far (p := ⟨gb227, _, none⟩) (by first | exact Nat.ne_of_lt (Nat.lt_of_lt_of_le (by have := World.block_lt_of_cell? _ _ hw230_2; first | rwa [add_block] at this | exact this) GW227.out) | (rw [add_block]; exact Nat.ne_of_lt (Nat.lt_of_lt_of_le (by have := World.block_lt_of_cell? _ _ hw230_2; first | rwa [add_block] at this | exact this) GW227.out)) | (show (Addr.add _ _).block ≠ _; rw [add_block]; exact Nat.ne_of_lt (Nat.lt_of_lt_of_le (by have := World.block_lt_of_cell? _ _ hw230_2; first | rwa [add_block] at this | exact this) GW227.out)) | (dsimp only; exact Nat.ne_of_lt (Nat.lt_of_lt_of_le (by have := World.block_lt_of_cell? _ _ hw230_2; first | rwa [add_block] at this | exact this) GW227.out))) _).trans (hHeld.2.2.2.2.2.2.2.2.1)))), ((cell_far (p := ⟨gb227, _, none⟩) (by first | exact Nat.ne_of_lt (Nat.lt_of_lt_of_le (by have := World.block_lt_of_cell? _ _ hw230_3; first | rwa [add_block] at this | exact this) GW227.out) | (rw [add_block]; exact Nat.ne_of_lt (Nat.lt_of_lt_of_le (by have := World.block_lt_of_cell? _ _ hw230_3; first | rwa [add_block] at this | exact this) GW227.out)) | (show (Addr.add _ _).block ≠ _; rw [add_block]; exact Nat.ne_of_lt (Nat.lt_of_lt_of_le (by have := World.block_lt_of_cell? _ _ hw230_3; first | rwa [add_block] at this | exact this) GW227.out)) | (dsimp only; exact Nat.ne_of_lt (Nat.lt_of_lt_of_le (by have := World.block_lt_of_cell? _ _ hw230_3; first | rwa [add_block] at this | exact this) GW227.out))) _).trans (((cell_far (p := ⟨gb227, _, none⟩) (by first | exact Nat.ne_of_lt (Nat.lt_of_lt_of_le (by have := World.block_lt_of_cell? _ _ hw230_3; first | rwa [add_block] at this | exact this) GW227.out) | (rw [add_block]; exact Nat.ne_of_lt (Nat.lt_of_lt_of_le (by have := World.block_lt_of_cell? _ _ hw230_3; first | rwa [add_block] at this | exact this) GW227.out)) | (show (Addr.add _ _).block ≠ _; rw [add_block]; exact Nat.ne_of_lt (Nat.lt_of_lt_of_le (by have := World.block_lt_of_cell? _ _ hw230_3; first | rwa [add_block] at this | exact this) GW227.out)) | (dsimp only; exact Nat.ne_of_lt (Nat.lt_of_lt_of_le (by have := World.block_lt_of_cell? _ _ hw230_3; first | rwa [add_block] at this | exact this) GW227.out))) _).trans (hHeld.2.2.2.2.2.2.2.2.2.1)))), ((cell_far (p := ⟨gb227, _, none⟩) (by first | exact Nat.ne_of_lt (Nat.lt_of_lt_of_le (by have := World.block_lt_of_cell? _ _ hw231_0; first | rwa [add_block] at this | exact this) GW227.out) | (rw [add_block]; exact Nat.ne_of_lt (Nat.lt_of_lt_of_le (by have := World.block_lt_of_cell? _ _ hw231_0; first | rwa [add_block] at this | exact this) GW227.out)) | (show (Addr.add _ _).block ≠ _; rw [add_block]; exact Nat.ne_of_lt (Nat.lt_of_lt_of_le (by have := World.block_lt_of_cell? _ _ hw231_0; first | rwa [add_block] at this | exact this) GW227.out)) | (dsimp only; exact Nat.ne_of_lt (Nat.lt_of_lt_of_le (by have := World.block_lt_of_cell? _ _ hw231_0; first | rwa [add_block] at this | exact this) GW227.out))) _).trans (((cell_far (p := ⟨gb227, _, none⟩) (by first | exact Nat.ne_of_lt (Nat.lt_of_lt_of_le (by have := World.block_lt_of_cell? _ _ hw231_0; first | rwa [add_block] at this | exact this) GW227.out) | (rw [add_block]; exact Nat.ne_of_lt (Nat.lt_of_lt_of_le (by have := World.block_lt_of_cell? _ _ hw231_0; first | rwa [add_block] at this | exact this) GW227.out)) | (show (Addr.add _ _).block ≠ _; rw [add_block]; exact Nat.ne_of_lt (Nat.lt_of_lt_of_le (by have := World.block_lt_of_cell? _ _ hw231_0; first | rwa [add_block] at this | exact this) GW227.out)) | (dsimp only; exact Nat.ne_of_lt (Nat.lt_of_lt_of_le (by have := World.block_lt_of_cell? _ _ hw231_0; first | rwa [add_block] at this | exact this) GW227.out))) _).trans (hHeld.2.2.2.2.2.2.2.2.2.2.1)))), ((cell_far (p := ⟨gb227, _, none⟩) (by first | exact Nat.ne_of_lt (Nat.lt_of_lt_of_le (by have := World.block_lt_of_cell? _ _ hw231_1; first | rwa [add_block] at this | exact this) GW227.out) | (rw [add_block]; exact Nat.ne_of_lt (Nat.lt_of_lt_of_le (by have := World.block_lt_of_cell? _ _ hw231_1; first | rwa [add_block] at this | exact this) GW227.out)) | (show (Addr.add _ _).block ≠ _; rw [add_block]; exact Nat.ne_of_lt (Nat.lt_of_lt_of_le (by have := World.block_lt_of_cell? _ _ hw231_1; first | rwa [add_block] at this | exact this) GW227.out)) | (dsimp only; exact Nat.ne_of_lt (Nat.lt_of_lt_of_le (by have := World.block_lt_of_cell? _ _ hw231_1; first | rwa [add_block] at this | exact this) GW227.out))) _).trans (((cell_far (p := ⟨gb227, _, none⟩) (by first | exact Nat.ne_of_lt (Nat.lt_of_lt_of_le (by have := World.block_lt_of_cell? _ _ hw231_1; first | rwa [add_block] at this | exact this) GW227.out) | (rw [add_block]; exact Nat.ne_of_lt (Nat.lt_of_lt_of_le (by have := World.block_lt_of_cell? _ _ hw231_1; first | rwa [add_block] at this | exact this) GW227.out)) | (show (Addr.add _ _).block ≠ _; rw [add_block]; exact Nat.ne_of_lt (Nat.lt_of_lt_of_le (by have := World.block_lt_of_cell? _ _ hw231_1; first | rwa [add_block] at this | exact this) GW227.out)) | (dsimp only; exact Nat.ne_of_lt (Nat.lt_of_lt_of_le (by have := World.block_lt_of_cell? _ _ hw231_1; first | rwa [add_block] at this | exact this) GW227.out))) _).trans (hHeld.2.2.2.2.2.2.2.2.2.2.2.1)))), ((cell_far (p := ⟨gb227, _, none⟩) (by first | exact Nat.ne_of_lt (Nat.lt_of_lt_of_le (by have := World.block_lt_of_cell? _ _ hw231_2; first | rwa [add_block] at this | exact this) GW227.out) | (rw [add_block]; exact Nat.ne_of_lt (Nat.lt_of_lt_of_le (by have := World.block_lt_of_cell? _ _ hw231_2; first | rwa [add_block] at this | exact this) GW227.out)) | (show (Addr.add _ _).block ≠ _; rw [add_block]; exact Nat.ne_of_lt (Nat.lt_of_lt_of_le (by have := World.block_lt_of_cell? _ _ hw231_2; first | rwa [add_block] at this | exact this) GW227.out)) | (dsimp only; exact Nat.ne_of_lt (Nat.lt_of_lt_of_le (by have := World.block_lt_of_cell? _ _ hw231_2; first | rwa [add_block] at this | exact this) GW227.out))) _).trans (((cell_far (p := ⟨gb227, _, none⟩) (by first | exact Nat.ne_of_lt (Nat.lt_of_lt_of_le (by have := World.block_lt_of_cell? _ _ hw231_2; first | rwa [add_block] at this | exact this) GW227.out) | (rw [add_block]; exact Nat.ne_of_lt (Nat.lt_of_lt_of_le (by have := World.block_lt_of_cell? _ _ hw231_2; first | rwa [add_block] at this | exact this) GW227.out)) | (show (Addr.add _ _).block ≠ _; rw [add_block]; exact Nat.ne_of_lt (Nat.lt_of_lt_of_le (by have := World.block_lt_of_cell? _ _ hw231_2; first | rwa [add_block] at this | exact this) GW227.out)) | (dsimp only; exact Nat.ne_of_lt (Nat.lt_of_lt_of_le (by have := World.block_lt_of_cell? _ _ hw231_2; first | rwa [add_block] at this | exact this) GW227.out))) _).trans (hHeld.2.2.2.2.2.2.2.2.2.2.2.2.1)))), ((cell_far (p := ⟨gb227, _, none⟩) (by first | exact Nat.ne_of_lt (Nat.lt_of_lt_of_le (by have := World.block_lt_of_cell? _ _ hw231_3; first | rwa [add_block] at this | exact this) GW227.out) | (rw [add_block]; exact Nat.ne_of_lt (Nat.lt_of_lt_of_le (by have := World.block_lt_of_cell? _ _ hw231_3; first | rwa [add_block] at this | exact this) GW227.out)) | (show (Addr.add _ _).block ≠ _; rw [add_block]; exact Nat.ne_of_lt (Nat.lt_of_lt_of_le (by have := World.block_lt_of_cell? _ _ hw231_3; first | rwa [add_block] at this | exact this) GW227.out)) | (dsimp only; exact Nat.ne_of_lt (Nat.lt_of_lt_of_le (by have := World.block_lt_of_cell? _ _ hw231_3; first | rwa [add_block] at this | exact this) GW227.out))) _).trans (((cell_far (p := ⟨gb227, _, none⟩) (by first | exact Nat.ne_of_lt (Nat.lt_of_lt_of_le (by have := World.block_lt_of_cell? _ _ hw231_3; first | rwa [add_block] at this | exact this) GW227.out) | (rw [add_block]; exact Nat.ne_of_lt (Nat.lt_of_lt_of_le (by have := World.block_lt_of_cell? _ _ hw231_3; first | rwa [add_block] at this | exact this) GW227.out)) | (show (Addr.add _ _).block ≠ _; rw [add_block]; exact Nat.ne_of_lt (Nat.lt_of_lt_of_le (by have := World.block_lt_of_cell? _ _ hw231_3; first | rwa [add_block] at this | exact this) GW227.out)) | (dsimp only; exact Nat.ne_of_lt (Nat.lt_of_lt_of_le (by have := World.block_lt_of_cell? _ _ hw231_3; first | rwa [add_block] at this | exact this) GW227.out))) _).trans (hHeld.2.2.2.2.2.2.2.2.2.2.2.2.2))))⟩ (fun hHeld => ?_)
  clear hK K
  refine pure_ (i := 33) (N := some 5) (v := ?_) (a' := ?_) #[true, true, true, true, true, true, true, true, true, true, true, true, true, true, true, true, true, true, true, true, true, true, true, true, true, true, true, true, true, true, true, true, true, true, false] rfl rfl (any_of HT_.out (by kernel_rfl)) (fun _ _ _ h => h) (Or.inl ⟨by rfl, ?_⟩) ?_ ?_
  rotate_left
  · intro w'
    go_simp
    with_reducible rfl
  rotate_left
  · simp only [Act.put, List.setIfInBounds_toArray, List.set_cons_zero, List.set_cons_succ, i64_w, i32_w]; rfl
  refine pure_ (i := 34) (N := some 6) (v := ?_) (a' := ?_) #[true, true, true, true, true, true, true, true, true, true, true, true, true, true, true, true, true, true, true, true, true, true, true, true, true, true, true, true, true, true, true, true, true, true, true] rfl rfl (any_of HT_.out (by kernel_rfl)) (fun _ _ _ h => h) (Or.inl ⟨by rfl, ?_⟩) ?_ ?_
  rotate_left
  · intro w'
    go_simp
    with_reducible rfl
  rotate_left
  · simp only [Act.put, List.setIfInBounds_toArray, List.set_cons_zero, List.set_cons_succ, i64_w, i32_w]; rfl
  refine done_ (done_of HT_.out (by kernel_rfl)) ?_
  try go_wp2
  refine bodyPost_ret (results_ctt rfl _ _ gb227 35 #[.int .i64 t235, .slice Ao38 t236.length co38] (0, 0) _ rfl (by (with_reducible repeat (first | refine blk_drewN ?_ _ | refine blk_drew ?_ | refine blk_alloc ?_ _)); refine blk_put (cs := #[.int .i64 t235, .slice none 0 0]) ?_ 1 _ rfl; (with_reducible repeat (first | refine blk_drewN ?_ _ | refine blk_drew ?_ | refine blk_alloc ?_ _)); refine blk_put (cs := #[.int .i64 0, .slice none 0 0]) ?_ 0 _ rfl; (with_reducible repeat (first | refine blk_drewN ?_ _ | refine blk_drew ?_ | refine blk_alloc ?_ _)); exact BK227.out) Try.underlying35 rfl (by kernel_rfl)) rfl ?_
  exact ⟨_, _, by first | rfl | (simp [errW_none, errW_some] <;> rfl) | (simp only [← hji22]; first | rfl | (simp [errW_none, errW_some] <;> rfl)) | (simp [*, errW_none, errW_some] <;> rfl), by (with_reducible repeat (first | apply Kd.R_alloc | apply Kd.R_drewN | apply Kd.R_drew)); exact Kd.R_mono (Kd.R_far (p := ⟨gb227, 1, none⟩) (Kd.R_far (p := ⟨gb227, 0, none⟩) (Kd.R_types HO238.out BK227.out (by decide)) (fun _ hk => hk.2) (.int .i64 t235)) (fun _ hk => hk.2) (.slice Ao38 t236.length co38)) (fun _ hk => trivial), by (with_reducible repeat (first | apply Kd.R_alloc | apply Kd.R_drewN | apply Kd.R_drew)); exact Kd.R_mono (Kd.R_far (p := ⟨gb227, 1, none⟩) (Kd.R_far (p := ⟨gb227, 0, none⟩) (Kd.R_types HO241.out BK227.out (by decide)) (fun _ hk => hk.2) (.int .i64 t235)) (fun _ hk => hk.2) (.slice Ao38 t236.length co38)) (fun _ hk => trivial), by repeat (first | (with_reducible first | exact HB.out | apply below_alloc | apply pw_below_drewN | apply below_drew1 | refine below_set ?_ GE226.out | refine below_set ?_ GE227.out) | exact HB.out)⟩
end Go.Proofs.Ytbajekndbamcmaa.PAtlasBack

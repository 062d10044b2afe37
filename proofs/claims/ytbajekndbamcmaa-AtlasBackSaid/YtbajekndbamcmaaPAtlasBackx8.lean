-- printed by a program of this session (wip/tools), a turned form of the kit's print
import Derived.Test.YtbajekndbamcmaaWPeel
import Derived.Test.YtbajekndbamcmaaPAtlasBackx0
import Derived.Test.YtbajekndbamcmaaPAtlasBackx2
namespace Go.Proofs.Ytbajekndbamcmaa.PAtlasBack
open Go.RowKit Go.Proofs.YtbajekndbamcmaaW.PrintWords Go.Proofs.YtbajekndbamcmaaW.PrintLast Go.Proofs.YtbajekndbamcmaaW.PrintMore
attribute [local go_sem] max2_int min2_int max_two min_two max_three min_three max_four min_four max2_str min2_str str_geq str_leq str_gtr   -- for this text's walks alone
set_option linter.unusedVariables false
set_option linter.unusedSimpArgs false

/-! ### atlas_Move: function 27 -/
def atlas_Move.f (k : Nat) (a0_0 : Int) (l0_1 : List (S30)) (a1 : Int) (a2 : Int) (a3 : Int) : Option (Int × (List (S30)) × List Int × Int) := (atlas_goes.f k a0_0 l0_1 a3).bind fun t245 => (if t245 = true then (if a1 < 0 then (some (0, ([] : List (S30)), ([] : List Int), 1)) else (if a1 ≥ (l0_1.length : Int) then (some (0, ([] : List (S30)), ([] : List Int), 1)) else (if a2 < 1 then (some (0, ([] : List (S30)), ([] : List Int), 1)) else (if a2 > a3 then (some (0, ([] : List (S30)), ([] : List Int), 1)) else (if 0 ≤ a1 then (if a1 < (l0_1.length : Int) then (if ((rd_T30 l0_1 a1).f1) = a2 then (some (0, ([] : List (S30)), ([] : List Int), 1)) else ((atlas_changed.f k a0_0 l0_1 a1 (wrap64 (a1 + 1)) (([(⟨(⟨(rd_T30 l0_1 a1).f0.f0, (rd_T30 l0_1 a1).f0.f1⟩ : S28), a2, 0⟩ : S30)] : List (S30)))).bind fun bt251 => (some (bt251.1, bt251.2.1, bt251.2.2.1, bt251.2.2.2)))) else (none)) else (none)))))) else (some (0, ([] : List (S30)), ([] : List Int), 1)))
theorem atlas_Move.mono : ∀ a0 a1 a2 a3 a4 k, LeO (atlas_Move.f k a0 a1 a2 a3 a4) (atlas_Move.f (k + 1) a0 a1 a2 a3 a4) := by
  intro a0 a1 a2 a3 a4 k
  unfold atlas_Move.f
  repeat' first
      | (with_reducible exact atlas_changed.mono _ _ _ _ _ _)
      | (with_reducible exact atlas_goes.mono _ _ _ _)
      | (with_reducible exact LeO.refl _)
      | (with_reducible exact LeO.none _)
      | (with_reducible refine LeO.ite ?_ ?_)
      | (with_reducible refine LeO.bind ?_ (fun _ => ?_))
      | exact atlas_changed.mono _ _ _ _ _ _
      | exact atlas_goes.mono _ _ _ _
      | exact LeO.none _
      | refine LeO.ite ?_ ?_
      | refine LeO.bind ?_ (fun _ => ?_)
def atlas_Move.T3 : Bool × List (List Nat × List Nat) := (true, [([], []), ([], []), ([], []), ([2], [2]), ([], []), ([4], [4]), ([], []), ([5, 6], [5, 6]), ([7], [7]), ([8], [8]), ([], []), ([9, 10], [9, 10]), ([11], [11]), ([0, 1, 3, 12], [0, 1, 3, 12]), ([13], [13]), ([13], [13]), ([13], [13]), ([14, 13, 0, 1, 2, 3, 4, 5, 6, 7, 8, 9, 10, 11, 12, 13, 14, 15, 16], [14]), ([15, 17, 0, 1, 2, 3, 4, 5, 6, 7, 8, 9, 10, 11, 12, 13, 14, 15, 16, 17], [15]), ([16, 18, 0, 1, 2, 3, 4, 5, 6, 7, 8, 9, 10, 11, 12, 13, 14, 15, 16, 17, 18], [16])])
def atlas_Move.B3 : List Nat := [0, 0, 0, 4, 0, 16, 0, 112, 240, 496, 0, 2032, 4080, 8191, 16383, 16383, 16383, 131071, 262143, 524287]
theorem atlas_Move.tab3 : rtab .any (opsOf Try.f27 3) = atlas_Move.T3 := by kernel_rfl
theorem atlas_Move.bits3 : waitsOk atlas_Move.T3.2 atlas_Move.B3 = true := by kernel_rfl
set_option maxHeartbeats 8000000 in
set_option maxRecDepth 100000 in
theorem atlas_Move.calls (k : Nat) (a0_0 : Int) (A0_1 : Option Addr) (c0_1 : Nat) (l0_1 : List (S30)) (a1 : Int) (a2 : Int) (a3 : Int) (r1 : Int) (r2 : List (S30)) (r3 : List Int) (r4 : Int) (w : World) (hr0_1 : Kd.C k30 w A0_1 l0_1.length l0_1) (hc0_1 : l0_1.length ≤ c0_1) (h : atlas_Move.f k a0_0 l0_1 a1 a2 a3 = some (r1, r2, r3, r4)) :
    Calls Try.prog 27 #[.agg #[.int .i64 a0_0, .slice A0_1 l0_1.length c0_1], .int .i64 a1, .int .i64 a2, .int .i64 a3] w fun e w' => ∃ v1_ v2_ : Value, e = .returned (.tuple #[.agg #[.int .i64 r1, v1_], v2_, .int .i64 r4]) ∧ Kd.R k30 30 w' w.heap.size (fun _ => True) v1_ r2 ∧ Kd.R (Kd.int .i64) 3 w' w.heap.size (fun _ => True) v2_ r3 ∧ Below w.heap.size w w' := by
  have hu35 := Try.underlying35
  have hu28 := Try.underlying28
  have hu30 := Try.underlying30
  have HR0_1 := Aside0.mk hr0_1
  have HC0_1 := Aside0.mk hc0_1
  clear hr0_1 hc0_1
  have HB := Aside0.mk (Below.refl w.heap.size w)
  have H : ((atlas_goes.f k a0_0 l0_1 a3).bind fun t245 => (if t245 = true then (if a1 < 0 then (some (0, ([] : List (S30)), ([] : List Int), 1)) else (if a1 ≥ (l0_1.length : Int) then (some (0, ([] : List (S30)), ([] : List Int), 1)) else (if a2 < 1 then (some (0, ([] : List (S30)), ([] : List Int), 1)) else (if a2 > a3 then (some (0, ([] : List (S30)), ([] : List Int), 1)) else (if 0 ≤ a1 then (if a1 < (l0_1.length : Int) then (if ((rd_T30 l0_1 a1).f1) = a2 then (some (0, ([] : List (S30)), ([] : List Int), 1)) else ((atlas_changed.f k a0_0 l0_1 a1 (wrap64 (a1 + 1)) (([(⟨(⟨(rd_T30 l0_1 a1).f0.f0, (rd_T30 l0_1 a1).f0.f1⟩ : S28), a2, 0⟩ : S30)] : List (S30)))).bind fun bt251 => (some (bt251.1, bt251.2.1, bt251.2.2.1, bt251.2.2.2)))) else (none)) else (none)))))) else (some (0, ([] : List (S30)), ([] : List Int), 1)))) = some (r1, r2, r3, r4) := h
  clear h
  replace H := Option.bind_eq_some_iff.mp H
  obtain ⟨t245, A50, H⟩ := H
  replace H : (if t245 = true then (if a1 < 0 then (some (0, ([] : List (S30)), ([] : List Int), 1)) else (if a1 ≥ (l0_1.length : Int) then (some (0, ([] : List (S30)), ([] : List Int), 1)) else (if a2 < 1 then (some (0, ([] : List (S30)), ([] : List Int), 1)) else (if a2 > a3 then (some (0, ([] : List (S30)), ([] : List Int), 1)) else (if 0 ≤ a1 then (if a1 < (l0_1.length : Int) then (if ((rd_T30 l0_1 a1).f1) = a2 then (some (0, ([] : List (S30)), ([] : List Int), 1)) else ((atlas_changed.f k a0_0 l0_1 a1 (wrap64 (a1 + 1)) (([(⟨(⟨(rd_T30 l0_1 a1).f0.f0, (rd_T30 l0_1 a1).f0.f1⟩ : S28), a2, 0⟩ : S30)] : List (S30)))).bind fun bt251 => (some (bt251.1, bt251.2.1, bt251.2.2.1, bt251.2.2.2)))) else (none)) else (none)))))) else (some (0, ([] : List (S30)), ([] : List Int), 1))) = some (r1, r2, r3, r4) := H
  have A5 := Aside0.mk A50
  clear A50
  by_cases c6 : t245 = true
  rotate_left
  ·
   replace c6 := Bool.eq_false_iff.mpr c6
   subst c6
   have H1 : (some (0, ([] : List (S30)), ([] : List Int), 1)) = some (r1, r2, r3, r4) := by rw [if_neg (show ¬ (false = true) by decide)] at H; exact H
   clear H
   have H := H1
   clear H1
   simp only [Option.some.injEq, Prod.mk.injEq] at H
   obtain ⟨rfl, rfl, rfl, rfl⟩ := H
   go_enter Try.func27, Try.ntmps27
   go_wp2_with (first | ((with_reducible refine gate_dst (N := 4) rfl ?_); (try (refine gate_guard (by rfl) ?_; dsimp only)); refine box_event ?hg (N := 4) ?hd (cs := #[.int .i64 a0_0, .slice A0_1 l0_1.length c0_1]) (t := 35) ?hr ?_; (case hd => rfl); (case hg => rfl); (case hr => first | (go_simp; done) | (go_simp; rfl)); intro gb243 hg w63 hbox hb; have BK243 := Aside0.mk (hbox); have GW243 := geL hg HB.out; have GE243 := geL hg HB.out; replace HB := Aside0.mk (below_step (pB HB.out) hb); clear hb hbox hg) | ((with_reducible refine gate_dst (N := 8) rfl ?_); (try (refine gate_guard (by rfl) ?_; dsimp only)); refine box_event ?hg (N := 8) ?hd (cs := #[.int .i64 0, .slice none 0 0]) (t := 35) ?hr ?_; (case hd => rfl); (case hg => rfl); (case hr => first | (go_simp; done) | (go_simp; rfl)); intro gb244 hg w64 hbox hb; have BK244 := Aside0.mk (hbox); have GW244 := geL hg HB.out; have GE244 := geL hg HB.out; have NB243_244 := neL hg BK243.out; have NB244_243 := neG hg BK243.out; replace BK243 := Aside0.mk (blk_below BK243.out hb); replace HB := Aside0.mk (below_step (pB HB.out) hb); clear hb hbox hg; have hnb65 := NB243_244.out; have hnc65 := NB244_243.out; have hcz66_0 : w64.cell? ⟨gb243, 0, none⟩ = some (.int .i64 a0_0) := blk_cell BK243.out 0; have hcz66_1 : w64.cell? ⟨gb243, 1, none⟩ = some (.slice A0_1 l0_1.length c0_1) := blk_cell BK243.out 1; have hfz66_0 := blk_frozen BK243.out 0; have hfz66_1 := blk_frozen BK243.out 1) | ((with_reducible refine gate_callee (f := 65) rfl ?_); refine goesL_ (some 13) rfl rfl Try.func65 (by kernel_rfl) rfl #[.agg #[.int .i64 a0_0, .slice A0_1 l0_1.length c0_1], .int .i64 a3] rfl (by (try simp only [List.map_toArray, List.map_cons, List.map_nil]); first | done | rfl | (simp only [List.length_drop, List.length_take]; done) | (simp only [List.length_drop, List.length_take]; rfl)) ?_; (with_reducible refine (atlas_goes.calls k a0_0 _ _ l0_1 a3 false _ ?side1 ?side2 A5.out).mono ?_); (case side1 => repeat (first | exact (Kd.C_below HR0_1.out HB.out) | (with_reducible refine Kd.C_alloc ?_ _) | (with_reducible refine Kd.C_drewN ?_ _) | (with_reducible refine Kd.C_drew ?_))); (case side2 => exact HC0_1.out); rintro e w67 ⟨rfl, hb⟩; refine ⟨_, rfl, ?_⟩; replace BK243 := Aside0.mk (blk_below BK243.out hb); replace BK244 := Aside0.mk (blk_below BK244.out hb); replace HB := Aside0.mk (below_step (pB HB.out) hb); (try clear hb); (try clear hb2); (try clear hk); (try clear hi); have hcz68_0 : w67.cell? ⟨gb244, 0, none⟩ = some (.int .i64 0) := blk_cell BK244.out 0; have hcz68_1 : w67.cell? ⟨gb244, 1, none⟩ = some (.slice none 0 0) := blk_cell BK244.out 1; have hfz68_0 := blk_frozen BK244.out 0; have hfz68_1 := blk_frozen BK244.out 1))
   refine bodyPost_ret (results_ctt rfl _ _ gb244 35 #[.int .i64 0, .slice none 0 0] (0, 0) _ rfl (by (with_reducible repeat (first | refine blk_drewN ?_ _ | refine blk_drew ?_ | refine blk_alloc ?_ _)); refine blk_put (cs := #[.int .i64 0, .slice none 0 0]) ?_ 1 _ rfl; (with_reducible repeat (first | refine blk_drewN ?_ _ | refine blk_drew ?_ | refine blk_alloc ?_ _)); refine blk_put (cs := #[.int .i64 0, .slice none 0 0]) ?_ 0 _ rfl; (with_reducible repeat (first | refine blk_drewN ?_ _ | refine blk_drew ?_ | refine blk_alloc ?_ _)); exact BK244.out) Try.underlying35 rfl (by kernel_rfl)) rfl ?_
   exact ⟨_, _, by first | rfl | (simp [errW_none, errW_some] <;> rfl) | (simp [*, errW_none, errW_some] <;> rfl), by first | exact Kd.R_nil _ _ _ _ _ | exact Kd.N_nil _ _ _ _ _ | exact Kd.V_nil _ _ _ _ _ | exact Kd.Q_nil _ _ _ _ _ | exact Kd.S_nil _ _ _ _ _, by first | exact Kd.R_nil _ _ _ _ _ | exact Kd.N_nil _ _ _ _ _ | exact Kd.V_nil _ _ _ _ _ | exact Kd.Q_nil _ _ _ _ _ | exact Kd.S_nil _ _ _ _ _, by repeat (first | (with_reducible first | exact HB.out | apply below_alloc | apply pw_below_drewN | apply below_drew1 | refine below_set ?_ GE243.out | refine below_set ?_ GE244.out) | exact HB.out)⟩
  subst c6
  have H1 : (if a1 < 0 then (some (0, ([] : List (S30)), ([] : List Int), 1)) else (if a1 ≥ (l0_1.length : Int) then (some (0, ([] : List (S30)), ([] : List Int), 1)) else (if a2 < 1 then (some (0, ([] : List (S30)), ([] : List Int), 1)) else (if a2 > a3 then (some (0, ([] : List (S30)), ([] : List Int), 1)) else (if 0 ≤ a1 then (if a1 < (l0_1.length : Int) then (if ((rd_T30 l0_1 a1).f1) = a2 then (some (0, ([] : List (S30)), ([] : List Int), 1)) else ((atlas_changed.f k a0_0 l0_1 a1 (wrap64 (a1 + 1)) (([(⟨(⟨(rd_T30 l0_1 a1).f0.f0, (rd_T30 l0_1 a1).f0.f1⟩ : S28), a2, 0⟩ : S30)] : List (S30)))).bind fun bt251 => (some (bt251.1, bt251.2.1, bt251.2.2.1, bt251.2.2.2)))) else (none)) else (none)))))) = some (r1, r2, r3, r4) := by rw [if_pos rfl] at H; exact H
  clear H
  have H := H1
  clear H1
  by_cases c7 : a1 < 0
  ·
   rw [if_pos c7] at H
   have c7b0 : decide (a1 < 0) = true := decide_eq_true c7
   clear c7
   simp only [Option.some.injEq, Prod.mk.injEq] at H
   obtain ⟨rfl, rfl, rfl, rfl⟩ := H
   go_enter Try.func27, Try.ntmps27
   go_wp2_with (first | ((with_reducible refine gate_dst (N := 4) rfl ?_); (try (refine gate_guard (by rfl) ?_; dsimp only)); refine box_event ?hg (N := 4) ?hd (cs := #[.int .i64 a0_0, .slice A0_1 l0_1.length c0_1]) (t := 35) ?hr ?_; (case hd => rfl); (case hg => rfl); (case hr => first | (go_simp; done) | (go_simp; rfl)); intro gb243 hg w8 hbox hb; have BK243 := Aside0.mk (hbox); have GW243 := geL hg HB.out; have GE243 := geL hg HB.out; replace HB := Aside0.mk (below_step (pB HB.out) hb); clear hb hbox hg) | ((with_reducible refine gate_dst (N := 8) rfl ?_); (try (refine gate_guard (by rfl) ?_; dsimp only)); refine box_event ?hg (N := 8) ?hd (cs := #[.int .i64 0, .slice none 0 0]) (t := 35) ?hr ?_; (case hd => rfl); (case hg => rfl); (case hr => first | (go_simp; done) | (go_simp; rfl)); intro gb244 hg w9 hbox hb; have BK244 := Aside0.mk (hbox); have GW244 := geL hg HB.out; have GE244 := geL hg HB.out; have NB243_244 := neL hg BK243.out; have NB244_243 := neG hg BK243.out; replace BK243 := Aside0.mk (blk_below BK243.out hb); replace HB := Aside0.mk (below_step (pB HB.out) hb); clear hb hbox hg; have hnb10 := NB243_244.out; have hnc10 := NB244_243.out; have hcz11_0 : w9.cell? ⟨gb243, 0, none⟩ = some (.int .i64 a0_0) := blk_cell BK243.out 0; have hcz11_1 : w9.cell? ⟨gb243, 1, none⟩ = some (.slice A0_1 l0_1.length c0_1) := blk_cell BK243.out 1; have hfz11_0 := blk_frozen BK243.out 0; have hfz11_1 := blk_frozen BK243.out 1) | ((with_reducible refine gate_callee (f := 65) rfl ?_); refine goesL_ (some 13) rfl rfl Try.func65 (by kernel_rfl) rfl #[.agg #[.int .i64 a0_0, .slice A0_1 l0_1.length c0_1], .int .i64 a3] rfl (by (try simp only [List.map_toArray, List.map_cons, List.map_nil]); first | done | rfl | (simp only [List.length_drop, List.length_take]; done) | (simp only [List.length_drop, List.length_take]; rfl)) ?_; (with_reducible refine (atlas_goes.calls k a0_0 _ _ l0_1 a3 true _ ?side1 ?side2 A5.out).mono ?_); (case side1 => repeat (first | exact (Kd.C_below HR0_1.out HB.out) | (with_reducible refine Kd.C_alloc ?_ _) | (with_reducible refine Kd.C_drewN ?_ _) | (with_reducible refine Kd.C_drew ?_))); (case side2 => exact HC0_1.out); rintro e w12 ⟨rfl, hb⟩; refine ⟨_, rfl, ?_⟩; replace BK243 := Aside0.mk (blk_below BK243.out hb); replace BK244 := Aside0.mk (blk_below BK244.out hb); replace HB := Aside0.mk (below_step (pB HB.out) hb); (try clear hb); (try clear hb2); (try clear hk); (try clear hi); have hcz13_0 : w12.cell? ⟨gb244, 0, none⟩ = some (.int .i64 0) := blk_cell BK244.out 0; have hcz13_1 : w12.cell? ⟨gb244, 1, none⟩ = some (.slice none 0 0) := blk_cell BK244.out 1; have hfz13_0 := blk_frozen BK244.out 0; have hfz13_1 := blk_frozen BK244.out 1))
   refine bodyPost_ret (results_ctt rfl _ _ gb244 35 #[.int .i64 0, .slice none 0 0] (0, 0) _ rfl (by (with_reducible repeat (first | refine blk_drewN ?_ _ | refine blk_drew ?_ | refine blk_alloc ?_ _)); refine blk_put (cs := #[.int .i64 0, .slice none 0 0]) ?_ 1 _ rfl; (with_reducible repeat (first | refine blk_drewN ?_ _ | refine blk_drew ?_ | refine blk_alloc ?_ _)); refine blk_put (cs := #[.int .i64 0, .slice none 0 0]) ?_ 0 _ rfl; (with_reducible repeat (first | refine blk_drewN ?_ _ | refine blk_drew ?_ | refine blk_alloc ?_ _)); exact BK244.out) Try.underlying35 rfl (by kernel_rfl)) rfl ?_
   exact ⟨_, _, by first | rfl | (simp [errW_none, errW_some] <;> rfl) | (simp [*, errW_none, errW_some] <;> rfl), by first | exact Kd.R_nil _ _ _ _ _ | exact Kd.N_nil _ _ _ _ _ | exact Kd.V_nil _ _ _ _ _ | exact Kd.Q_nil _ _ _ _ _ | exact Kd.S_nil _ _ _ _ _, by first | exact Kd.R_nil _ _ _ _ _ | exact Kd.N_nil _ _ _ _ _ | exact Kd.V_nil _ _ _ _ _ | exact Kd.Q_nil _ _ _ _ _ | exact Kd.S_nil _ _ _ _ _, by repeat (first | (with_reducible first | exact HB.out | apply below_alloc | apply pw_below_drewN | apply below_drew1 | refine below_set ?_ GE243.out | refine below_set ?_ GE244.out) | exact HB.out)⟩
  rw [if_neg c7] at H
  have c7b0 : decide (a1 < 0) = false := decide_eq_false c7
  clear c7
  by_cases c14 : a1 ≥ (l0_1.length : Int)
  ·
   rw [if_pos c14] at H
   have c14b0 : decide ((l0_1.length : Int) ≤ a1) = true := decide_eq_true c14
   clear c14
   simp only [Option.some.injEq, Prod.mk.injEq] at H
   obtain ⟨rfl, rfl, rfl, rfl⟩ := H
   go_enter Try.func27, Try.ntmps27
   go_wp2_with (first | ((with_reducible refine gate_dst (N := 4) rfl ?_); (try (refine gate_guard (by rfl) ?_; dsimp only)); refine box_event ?hg (N := 4) ?hd (cs := #[.int .i64 a0_0, .slice A0_1 l0_1.length c0_1]) (t := 35) ?hr ?_; (case hd => rfl); (case hg => rfl); (case hr => first | (go_simp; done) | (go_simp; rfl)); intro gb243 hg w15 hbox hb; have BK243 := Aside0.mk (hbox); have GW243 := geL hg HB.out; have GE243 := geL hg HB.out; replace HB := Aside0.mk (below_step (pB HB.out) hb); clear hb hbox hg) | ((with_reducible refine gate_dst (N := 8) rfl ?_); (try (refine gate_guard (by rfl) ?_; dsimp only)); refine box_event ?hg (N := 8) ?hd (cs := #[.int .i64 0, .slice none 0 0]) (t := 35) ?hr ?_; (case hd => rfl); (case hg => rfl); (case hr => first | (go_simp; done) | (go_simp; rfl)); intro gb244 hg w16 hbox hb; have BK244 := Aside0.mk (hbox); have GW244 := geL hg HB.out; have GE244 := geL hg HB.out; have NB243_244 := neL hg BK243.out; have NB244_243 := neG hg BK243.out; replace BK243 := Aside0.mk (blk_below BK243.out hb); replace HB := Aside0.mk (below_step (pB HB.out) hb); clear hb hbox hg; have hnb17 := NB243_244.out; have hnc17 := NB244_243.out; have hcz18_0 : w16.cell? ⟨gb243, 0, none⟩ = some (.int .i64 a0_0) := blk_cell BK243.out 0; have hcz18_1 : w16.cell? ⟨gb243, 1, none⟩ = some (.slice A0_1 l0_1.length c0_1) := blk_cell BK243.out 1; have hfz18_0 := blk_frozen BK243.out 0; have hfz18_1 := blk_frozen BK243.out 1) | ((with_reducible refine gate_callee (f := 65) rfl ?_); refine goesL_ (some 13) rfl rfl Try.func65 (by kernel_rfl) rfl #[.agg #[.int .i64 a0_0, .slice A0_1 l0_1.length c0_1], .int .i64 a3] rfl (by (try simp only [List.map_toArray, List.map_cons, List.map_nil]); first | done | rfl | (simp only [List.length_drop, List.length_take]; done) | (simp only [List.length_drop, List.length_take]; rfl)) ?_; (with_reducible refine (atlas_goes.calls k a0_0 _ _ l0_1 a3 true _ ?side1 ?side2 A5.out).mono ?_); (case side1 => repeat (first | exact (Kd.C_below HR0_1.out HB.out) | (with_reducible refine Kd.C_alloc ?_ _) | (with_reducible refine Kd.C_drewN ?_ _) | (with_reducible refine Kd.C_drew ?_))); (case side2 => exact HC0_1.out); rintro e w19 ⟨rfl, hb⟩; refine ⟨_, rfl, ?_⟩; replace BK243 := Aside0.mk (blk_below BK243.out hb); replace BK244 := Aside0.mk (blk_below BK244.out hb); replace HB := Aside0.mk (below_step (pB HB.out) hb); (try clear hb); (try clear hb2); (try clear hk); (try clear hi); have hcz20_0 : w19.cell? ⟨gb243, 0, none⟩ = some (.int .i64 a0_0) := blk_cell BK243.out 0; have hcz20_1 : w19.cell? ⟨gb243, 1, none⟩ = some (.slice A0_1 l0_1.length c0_1) := blk_cell BK243.out 1; have hfz20_0 := blk_frozen BK243.out 0; have hfz20_1 := blk_frozen BK243.out 1; have hcz21_0 : w19.cell? ⟨gb244, 0, none⟩ = some (.int .i64 0) := blk_cell BK244.out 0; have hcz21_1 : w19.cell? ⟨gb244, 1, none⟩ = some (.slice none 0 0) := blk_cell BK244.out 1; have hfz21_0 := blk_frozen BK244.out 0; have hfz21_1 := blk_frozen BK244.out 1))
   refine bodyPost_ret (results_ctt rfl _ _ gb244 35 #[.int .i64 0, .slice none 0 0] (0, 0) _ rfl (by (with_reducible repeat (first | refine blk_drewN ?_ _ | refine blk_drew ?_ | refine blk_alloc ?_ _)); refine blk_put (cs := #[.int .i64 0, .slice none 0 0]) ?_ 1 _ rfl; (with_reducible repeat (first | refine blk_drewN ?_ _ | refine blk_drew ?_ | refine blk_alloc ?_ _)); refine blk_put (cs := #[.int .i64 0, .slice none 0 0]) ?_ 0 _ rfl; (with_reducible repeat (first | refine blk_drewN ?_ _ | refine blk_drew ?_ | refine blk_alloc ?_ _)); exact BK244.out) Try.underlying35 rfl (by kernel_rfl)) rfl ?_
   exact ⟨_, _, by first | rfl | (simp [errW_none, errW_some] <;> rfl) | (simp [*, errW_none, errW_some] <;> rfl), by first | exact Kd.R_nil _ _ _ _ _ | exact Kd.N_nil _ _ _ _ _ | exact Kd.V_nil _ _ _ _ _ | exact Kd.Q_nil _ _ _ _ _ | exact Kd.S_nil _ _ _ _ _, by first | exact Kd.R_nil _ _ _ _ _ | exact Kd.N_nil _ _ _ _ _ | exact Kd.V_nil _ _ _ _ _ | exact Kd.Q_nil _ _ _ _ _ | exact Kd.S_nil _ _ _ _ _, by repeat (first | (with_reducible first | exact HB.out | apply below_alloc | apply pw_below_drewN | apply below_drew1 | refine below_set ?_ GE243.out | refine below_set ?_ GE244.out) | exact HB.out)⟩
  rw [if_neg c14] at H
  have c14b0 : decide ((l0_1.length : Int) ≤ a1) = false := decide_eq_false c14
  clear c14
  by_cases c22 : a2 < 1
  ·
   rw [if_pos c22] at H
   have c22b0 : decide (a2 < 1) = true := decide_eq_true c22
   clear c22
   simp only [Option.some.injEq, Prod.mk.injEq] at H
   obtain ⟨rfl, rfl, rfl, rfl⟩ := H
   go_enter Try.func27, Try.ntmps27
   go_wp2_with (first | ((with_reducible refine gate_dst (N := 4) rfl ?_); (try (refine gate_guard (by rfl) ?_; dsimp only)); refine box_event ?hg (N := 4) ?hd (cs := #[.int .i64 a0_0, .slice A0_1 l0_1.length c0_1]) (t := 35) ?hr ?_; (case hd => rfl); (case hg => rfl); (case hr => first | (go_simp; done) | (go_simp; rfl)); intro gb243 hg w23 hbox hb; have BK243 := Aside0.mk (hbox); have GW243 := geL hg HB.out; have GE243 := geL hg HB.out; replace HB := Aside0.mk (below_step (pB HB.out) hb); clear hb hbox hg) | ((with_reducible refine gate_dst (N := 8) rfl ?_); (try (refine gate_guard (by rfl) ?_; dsimp only)); refine box_event ?hg (N := 8) ?hd (cs := #[.int .i64 0, .slice none 0 0]) (t := 35) ?hr ?_; (case hd => rfl); (case hg => rfl); (case hr => first | (go_simp; done) | (go_simp; rfl)); intro gb244 hg w24 hbox hb; have BK244 := Aside0.mk (hbox); have GW244 := geL hg HB.out; have GE244 := geL hg HB.out; have NB243_244 := neL hg BK243.out; have NB244_243 := neG hg BK243.out; replace BK243 := Aside0.mk (blk_below BK243.out hb); replace HB := Aside0.mk (below_step (pB HB.out) hb); clear hb hbox hg; have hnb25 := NB243_244.out; have hnc25 := NB244_243.out; have hcz26_0 : w24.cell? ⟨gb243, 0, none⟩ = some (.int .i64 a0_0) := blk_cell BK243.out 0; have hcz26_1 : w24.cell? ⟨gb243, 1, none⟩ = some (.slice A0_1 l0_1.length c0_1) := blk_cell BK243.out 1; have hfz26_0 := blk_frozen BK243.out 0; have hfz26_1 := blk_frozen BK243.out 1) | ((with_reducible refine gate_callee (f := 65) rfl ?_); refine goesL_ (some 13) rfl rfl Try.func65 (by kernel_rfl) rfl #[.agg #[.int .i64 a0_0, .slice A0_1 l0_1.length c0_1], .int .i64 a3] rfl (by (try simp only [List.map_toArray, List.map_cons, List.map_nil]); first | done | rfl | (simp only [List.length_drop, List.length_take]; done) | (simp only [List.length_drop, List.length_take]; rfl)) ?_; (with_reducible refine (atlas_goes.calls k a0_0 _ _ l0_1 a3 true _ ?side1 ?side2 A5.out).mono ?_); (case side1 => repeat (first | exact (Kd.C_below HR0_1.out HB.out) | (with_reducible refine Kd.C_alloc ?_ _) | (with_reducible refine Kd.C_drewN ?_ _) | (with_reducible refine Kd.C_drew ?_))); (case side2 => exact HC0_1.out); rintro e w27 ⟨rfl, hb⟩; refine ⟨_, rfl, ?_⟩; replace BK243 := Aside0.mk (blk_below BK243.out hb); replace BK244 := Aside0.mk (blk_below BK244.out hb); replace HB := Aside0.mk (below_step (pB HB.out) hb); (try clear hb); (try clear hb2); (try clear hk); (try clear hi); have hcz28_0 : w27.cell? ⟨gb243, 0, none⟩ = some (.int .i64 a0_0) := blk_cell BK243.out 0; have hcz28_1 : w27.cell? ⟨gb243, 1, none⟩ = some (.slice A0_1 l0_1.length c0_1) := blk_cell BK243.out 1; have hfz28_0 := blk_frozen BK243.out 0; have hfz28_1 := blk_frozen BK243.out 1; have hcz29_0 : w27.cell? ⟨gb244, 0, none⟩ = some (.int .i64 0) := blk_cell BK244.out 0; have hcz29_1 : w27.cell? ⟨gb244, 1, none⟩ = some (.slice none 0 0) := blk_cell BK244.out 1; have hfz29_0 := blk_frozen BK244.out 0; have hfz29_1 := blk_frozen BK244.out 1))
   refine bodyPost_ret (results_ctt rfl _ _ gb244 35 #[.int .i64 0, .slice none 0 0] (0, 0) _ rfl (by (with_reducible repeat (first | refine blk_drewN ?_ _ | refine blk_drew ?_ | refine blk_alloc ?_ _)); refine blk_put (cs := #[.int .i64 0, .slice none 0 0]) ?_ 1 _ rfl; (with_reducible repeat (first | refine blk_drewN ?_ _ | refine blk_drew ?_ | refine blk_alloc ?_ _)); refine blk_put (cs := #[.int .i64 0, .slice none 0 0]) ?_ 0 _ rfl; (with_reducible repeat (first | refine blk_drewN ?_ _ | refine blk_drew ?_ | refine blk_alloc ?_ _)); exact BK244.out) Try.underlying35 rfl (by kernel_rfl)) rfl ?_
   exact ⟨_, _, by first | rfl | (simp [errW_none, errW_some] <;> rfl) | (simp [*, errW_none, errW_some] <;> rfl), by first | exact Kd.R_nil _ _ _ _ _ | exact Kd.N_nil _ _ _ _ _ | exact Kd.V_nil _ _ _ _ _ | exact Kd.Q_nil _ _ _ _ _ | exact Kd.S_nil _ _ _ _ _, by first | exact Kd.R_nil _ _ _ _ _ | exact Kd.N_nil _ _ _ _ _ | exact Kd.V_nil _ _ _ _ _ | exact Kd.Q_nil _ _ _ _ _ | exact Kd.S_nil _ _ _ _ _, by repeat (first | (with_reducible first | exact HB.out | apply below_alloc | apply pw_below_drewN | apply below_drew1 | refine below_set ?_ GE243.out | refine below_set ?_ GE244.out) | exact HB.out)⟩
  rw [if_neg c22] at H
  have c22b0 : decide (a2 < 1) = false := decide_eq_false c22
  clear c22
  by_cases c30 : a2 > a3
  ·
   rw [if_pos c30] at H
   have c30b0 : decide (a3 < a2) = true := decide_eq_true c30
   clear c30
   simp only [Option.some.injEq, Prod.mk.injEq] at H
   obtain ⟨rfl, rfl, rfl, rfl⟩ := H
   go_enter Try.func27, Try.ntmps27
   go_wp2_with (first | ((with_reducible refine gate_dst (N := 4) rfl ?_); (try (refine gate_guard (by rfl) ?_; dsimp only)); refine box_event ?hg (N := 4) ?hd (cs := #[.int .i64 a0_0, .slice A0_1 l0_1.length c0_1]) (t := 35) ?hr ?_; (case hd => rfl); (case hg => rfl); (case hr => first | (go_simp; done) | (go_simp; rfl)); intro gb243 hg w31 hbox hb; have BK243 := Aside0.mk (hbox); have GW243 := geL hg HB.out; have GE243 := geL hg HB.out; replace HB := Aside0.mk (below_step (pB HB.out) hb); clear hb hbox hg) | ((with_reducible refine gate_dst (N := 8) rfl ?_); (try (refine gate_guard (by rfl) ?_; dsimp only)); refine box_event ?hg (N := 8) ?hd (cs := #[.int .i64 0, .slice none 0 0]) (t := 35) ?hr ?_; (case hd => rfl); (case hg => rfl); (case hr => first | (go_simp; done) | (go_simp; rfl)); intro gb244 hg w32 hbox hb; have BK244 := Aside0.mk (hbox); have GW244 := geL hg HB.out; have GE244 := geL hg HB.out; have NB243_244 := neL hg BK243.out; have NB244_243 := neG hg BK243.out; replace BK243 := Aside0.mk (blk_below BK243.out hb); replace HB := Aside0.mk (below_step (pB HB.out) hb); clear hb hbox hg; have hnb33 := NB243_244.out; have hnc33 := NB244_243.out; have hcz34_0 : w32.cell? ⟨gb243, 0, none⟩ = some (.int .i64 a0_0) := blk_cell BK243.out 0; have hcz34_1 : w32.cell? ⟨gb243, 1, none⟩ = some (.slice A0_1 l0_1.length c0_1) := blk_cell BK243.out 1; have hfz34_0 := blk_frozen BK243.out 0; have hfz34_1 := blk_frozen BK243.out 1) | ((with_reducible refine gate_callee (f := 65) rfl ?_); refine goesL_ (some 13) rfl rfl Try.func65 (by kernel_rfl) rfl #[.agg #[.int .i64 a0_0, .slice A0_1 l0_1.length c0_1], .int .i64 a3] rfl (by (try simp only [List.map_toArray, List.map_cons, List.map_nil]); first | done | rfl | (simp only [List.length_drop, List.length_take]; done) | (simp only [List.length_drop, List.length_take]; rfl)) ?_; (with_reducible refine (atlas_goes.calls k a0_0 _ _ l0_1 a3 true _ ?side1 ?side2 A5.out).mono ?_); (case side1 => repeat (first | exact (Kd.C_below HR0_1.out HB.out) | (with_reducible refine Kd.C_alloc ?_ _) | (with_reducible refine Kd.C_drewN ?_ _) | (with_reducible refine Kd.C_drew ?_))); (case side2 => exact HC0_1.out); rintro e w35 ⟨rfl, hb⟩; refine ⟨_, rfl, ?_⟩; replace BK243 := Aside0.mk (blk_below BK243.out hb); replace BK244 := Aside0.mk (blk_below BK244.out hb); replace HB := Aside0.mk (below_step (pB HB.out) hb); (try clear hb); (try clear hb2); (try clear hk); (try clear hi); have hcz36_0 : w35.cell? ⟨gb243, 0, none⟩ = some (.int .i64 a0_0) := blk_cell BK243.out 0; have hcz36_1 : w35.cell? ⟨gb243, 1, none⟩ = some (.slice A0_1 l0_1.length c0_1) := blk_cell BK243.out 1; have hfz36_0 := blk_frozen BK243.out 0; have hfz36_1 := blk_frozen BK243.out 1; have hcz37_0 : w35.cell? ⟨gb244, 0, none⟩ = some (.int .i64 0) := blk_cell BK244.out 0; have hcz37_1 : w35.cell? ⟨gb244, 1, none⟩ = some (.slice none 0 0) := blk_cell BK244.out 1; have hfz37_0 := blk_frozen BK244.out 0; have hfz37_1 := blk_frozen BK244.out 1))
   refine bodyPost_ret (results_ctt rfl _ _ gb244 35 #[.int .i64 0, .slice none 0 0] (0, 0) _ rfl (by (with_reducible repeat (first | refine blk_drewN ?_ _ | refine blk_drew ?_ | refine blk_alloc ?_ _)); refine blk_put (cs := #[.int .i64 0, .slice none 0 0]) ?_ 1 _ rfl; (with_reducible repeat (first | refine blk_drewN ?_ _ | refine blk_drew ?_ | refine blk_alloc ?_ _)); refine blk_put (cs := #[.int .i64 0, .slice none 0 0]) ?_ 0 _ rfl; (with_reducible repeat (first | refine blk_drewN ?_ _ | refine blk_drew ?_ | refine blk_alloc ?_ _)); exact BK244.out) Try.underlying35 rfl (by kernel_rfl)) rfl ?_
   exact ⟨_, _, by first | rfl | (simp [errW_none, errW_some] <;> rfl) | (simp [*, errW_none, errW_some] <;> rfl), by first | exact Kd.R_nil _ _ _ _ _ | exact Kd.N_nil _ _ _ _ _ | exact Kd.V_nil _ _ _ _ _ | exact Kd.Q_nil _ _ _ _ _ | exact Kd.S_nil _ _ _ _ _, by first | exact Kd.R_nil _ _ _ _ _ | exact Kd.N_nil _ _ _ _ _ | exact Kd.V_nil _ _ _ _ _ | exact Kd.Q_nil _ _ _ _ _ | exact Kd.S_nil _ _ _ _ _, by repeat (first | (with_reducible first | exact HB.out | apply below_alloc | apply pw_below_drewN | apply below_drew1 | refine below_set ?_ GE243.out | refine below_set ?_ GE244.out) | exact HB.out)⟩
  rw [if_neg c30] at H
  have c30b0 : decide (a3 < a2) = false := decide_eq_false c30
  clear c30
  by_cases c38 : 0 ≤ a1
  rotate_left
  · rw [if_neg c38] at H
    exact absurd H (by simp)
  rw [if_pos c38] at H
  have c38b0 : decide (0 ≤ a1) = true := decide_eq_true c38
  clear c38
  by_cases c39 : a1 < (l0_1.length : Int)
  rotate_left
  · rw [if_neg c39] at H
    exact absurd H (by simp)
  rw [if_pos c39] at H
  have c39b0 : decide (a1 < (l0_1.length : Int)) = true := decide_eq_true c39
  clear c39
  by_cases c40 : ((rd_T30 l0_1 a1).f1) = a2
  ·
   rw [if_pos c40] at H
   have c40b0 : (((rd_T30 l0_1 a1).f1) == a2) = true := beq_iff_eq.mpr c40
   have c40b1 : (((rd_T30 l0_1 a1).f1) != a2) = false := bne_eq_false_iff_eq.mpr c40
   clear c40
   simp only [Option.some.injEq, Prod.mk.injEq] at H
   obtain ⟨rfl, rfl, rfl, rfl⟩ := H
   go_enter Try.func27, Try.ntmps27
   go_wp2_with (first | ((with_reducible refine gate_dst (N := 4) rfl ?_); (try (refine gate_guard (by rfl) ?_; dsimp only)); refine box_event ?hg (N := 4) ?hd (cs := #[.int .i64 a0_0, .slice A0_1 l0_1.length c0_1]) (t := 35) ?hr ?_; (case hd => rfl); (case hg => rfl); (case hr => first | (go_simp; done) | (go_simp; rfl)); intro gb243 hg w41 hbox hb; have BK243 := Aside0.mk (hbox); have GW243 := geL hg HB.out; have GE243 := geL hg HB.out; replace HB := Aside0.mk (below_step (pB HB.out) hb); clear hb hbox hg) | ((with_reducible refine gate_dst (N := 8) rfl ?_); (try (refine gate_guard (by rfl) ?_; dsimp only)); refine box_event ?hg (N := 8) ?hd (cs := #[.int .i64 0, .slice none 0 0]) (t := 35) ?hr ?_; (case hd => rfl); (case hg => rfl); (case hr => first | (go_simp; done) | (go_simp; rfl)); intro gb244 hg w42 hbox hb; have BK244 := Aside0.mk (hbox); have GW244 := geL hg HB.out; have GE244 := geL hg HB.out; have NB243_244 := neL hg BK243.out; have NB244_243 := neG hg BK243.out; replace BK243 := Aside0.mk (blk_below BK243.out hb); replace HB := Aside0.mk (below_step (pB HB.out) hb); clear hb hbox hg; have hnb43 := NB243_244.out; have hnc43 := NB244_243.out; have hcz44_0 : w42.cell? ⟨gb243, 0, none⟩ = some (.int .i64 a0_0) := blk_cell BK243.out 0; have hcz44_1 : w42.cell? ⟨gb243, 1, none⟩ = some (.slice A0_1 l0_1.length c0_1) := blk_cell BK243.out 1; have hfz44_0 := blk_frozen BK243.out 0; have hfz44_1 := blk_frozen BK243.out 1) | ((with_reducible refine gate_callee (f := 65) rfl ?_); refine goesL_ (some 13) rfl rfl Try.func65 (by kernel_rfl) rfl #[.agg #[.int .i64 a0_0, .slice A0_1 l0_1.length c0_1], .int .i64 a3] rfl (by (try simp only [List.map_toArray, List.map_cons, List.map_nil]); first | done | rfl | (simp only [List.length_drop, List.length_take]; done) | (simp only [List.length_drop, List.length_take]; rfl)) ?_; (with_reducible refine (atlas_goes.calls k a0_0 _ _ l0_1 a3 true _ ?side1 ?side2 A5.out).mono ?_); (case side1 => repeat (first | exact (Kd.C_below HR0_1.out HB.out) | (with_reducible refine Kd.C_alloc ?_ _) | (with_reducible refine Kd.C_drewN ?_ _) | (with_reducible refine Kd.C_drew ?_))); (case side2 => exact HC0_1.out); rintro e w45 ⟨rfl, hb⟩; refine ⟨_, rfl, ?_⟩; replace BK243 := Aside0.mk (blk_below BK243.out hb); replace BK244 := Aside0.mk (blk_below BK244.out hb); replace HB := Aside0.mk (below_step (pB HB.out) hb); (try clear hb); (try clear hb2); (try clear hk); (try clear hi); have hcz46_0 : w45.cell? ⟨gb243, 0, none⟩ = some (.int .i64 a0_0) := blk_cell BK243.out 0; have hcz46_1 : w45.cell? ⟨gb243, 1, none⟩ = some (.slice A0_1 l0_1.length c0_1) := blk_cell BK243.out 1; have hfz46_0 := blk_frozen BK243.out 0; have hfz46_1 := blk_frozen BK243.out 1; have p246 : 0 ≤ (a1 : Int) := of_decide_eq_true (by first | (with_reducible assumption) | assumption); have q246 : a1 < (l0_1.length : Int) := of_decide_eq_true (by first | (with_reducible assumption) | assumption); obtain ⟨ad246, e246, hx246_0, hx246_1, hx246_2, hx246_3⟩ := at_T30 HR0_1.out a1 p246 q246; cases e246; replace hx246_0 := (HB.out.cell (World.block_lt_of_cell? w _ hx246_0)).trans hx246_0; replace hx246_1 := (HB.out.cell (World.block_lt_of_cell? w _ hx246_1)).trans hx246_1; replace hx246_2 := (HB.out.cell (World.block_lt_of_cell? w _ hx246_2)).trans hx246_2; replace hx246_3 := (HB.out.cell (World.block_lt_of_cell? w _ hx246_3)).trans hx246_3; replace p246 := eq_true p246; replace q246 := eq_true q246; have hcz47_0 : w45.cell? ⟨gb244, 0, none⟩ = some (.int .i64 0) := blk_cell BK244.out 0; have hcz47_1 : w45.cell? ⟨gb244, 1, none⟩ = some (.slice none 0 0) := blk_cell BK244.out 1; have hfz47_0 := blk_frozen BK244.out 0; have hfz47_1 := blk_frozen BK244.out 1))
   refine bodyPost_ret (results_ctt rfl _ _ gb244 35 #[.int .i64 0, .slice none 0 0] (0, 0) _ rfl (by (with_reducible repeat (first | refine blk_drewN ?_ _ | refine blk_drew ?_ | refine blk_alloc ?_ _)); refine blk_put (cs := #[.int .i64 0, .slice none 0 0]) ?_ 1 _ rfl; (with_reducible repeat (first | refine blk_drewN ?_ _ | refine blk_drew ?_ | refine blk_alloc ?_ _)); refine blk_put (cs := #[.int .i64 0, .slice none 0 0]) ?_ 0 _ rfl; (with_reducible repeat (first | refine blk_drewN ?_ _ | refine blk_drew ?_ | refine blk_alloc ?_ _)); exact BK244.out) Try.underlying35 rfl (by kernel_rfl)) rfl ?_
   exact ⟨_, _, by first | rfl | (simp [errW_none, errW_some] <;> rfl) | (simp [*, errW_none, errW_some] <;> rfl), by first | exact Kd.R_nil _ _ _ _ _ | exact Kd.N_nil _ _ _ _ _ | exact Kd.V_nil _ _ _ _ _ | exact Kd.Q_nil _ _ _ _ _ | exact Kd.S_nil _ _ _ _ _, by first | exact Kd.R_nil _ _ _ _ _ | exact Kd.N_nil _ _ _ _ _ | exact Kd.V_nil _ _ _ _ _ | exact Kd.Q_nil _ _ _ _ _ | exact Kd.S_nil _ _ _ _ _, by repeat (first | (with_reducible first | exact HB.out | apply below_alloc | apply pw_below_drewN | apply below_drew1 | refine below_set ?_ GE243.out | refine below_set ?_ GE244.out) | exact HB.out)⟩
  rw [if_neg c40] at H
  have c40b0 : (((rd_T30 l0_1 a1).f1) == a2) = false := beq_eq_false_iff_ne.mpr c40
  have c40b1 : (((rd_T30 l0_1 a1).f1) != a2) = true := bne_iff_ne.mpr c40
  obtain ⟨y248, hy248⟩ : ∃ y_ : List (S30), y_ = (([(⟨(⟨(rd_T30 l0_1 a1).f0.f0, (rd_T30 l0_1 a1).f0.f1⟩ : S28), a2, 0⟩ : S30)] : List (S30))) := ⟨_, rfl⟩
  replace H : ((atlas_changed.f k a0_0 l0_1 a1 (wrap64 (a1 + 1)) y248).bind fun bt251 => (some (bt251.1, bt251.2.1, bt251.2.2.1, bt251.2.2.2))) = some (r1, r2, r3, r4) := by first | (rw [hy248]; with_reducible exact H) | (have H2_ := (Option.bind_some _ _).symm.trans H; rw [hy248]; with_reducible exact H2_) | (have H2_ := (Option.bind_some _ _).symm.trans H; with_reducible exact H2_) | with_reducible exact H | (rw [hy248]; exact H) | exact H
  have Ny248 := Aside0.mk hy248
  clear hy248
  replace H := Option.bind_eq_some_iff.mp H
  obtain ⟨⟨t251, t252, t255, t258⟩, A480, H⟩ := H
  replace H : (some (t251, t252, t255, t258)) = some (r1, r2, r3, r4) := H
  have A48 := Aside0.mk A480
  clear A480
  simp only [Option.some.injEq, Prod.mk.injEq] at H
  obtain ⟨rfl, rfl, rfl, rfl⟩ := H
  go_enter Try.func27, Try.ntmps27
  try go_wp2_with (first | ((with_reducible refine gate_dst (N := 4) rfl ?_); (try (refine gate_guard (by rfl) ?_; dsimp only)); refine box_event ?hg (N := 4) ?hd (cs := #[.int .i64 a0_0, .slice A0_1 l0_1.length c0_1]) (t := 35) ?hr ?_; (case hd => rfl); (case hg => rfl); (case hr => first | (go_simp; done) | (go_simp; rfl)); intro gb243 hg w49 hbox hb; have BK243 := Aside0.mk (hbox); have GW243 := geL hg HB.out; have GE243 := geL hg HB.out; replace HB := Aside0.mk (below_step (pB HB.out) hb); clear hb hbox hg) | ((with_reducible refine gate_dst (N := 8) rfl ?_); (try (refine gate_guard (by rfl) ?_; dsimp only)); refine box_event ?hg (N := 8) ?hd (cs := #[.int .i64 0, .slice none 0 0]) (t := 35) ?hr ?_; (case hd => rfl); (case hg => rfl); (case hr => first | (go_simp; done) | (go_simp; rfl)); intro gb244 hg w50 hbox hb; have BK244 := Aside0.mk (hbox); have GW244 := geL hg HB.out; have GE244 := geL hg HB.out; have NB243_244 := neL hg BK243.out; have NB244_243 := neG hg BK243.out; replace BK243 := Aside0.mk (blk_below BK243.out hb); replace HB := Aside0.mk (below_step (pB HB.out) hb); clear hb hbox hg; have hnb51 := NB243_244.out; have hnc51 := NB244_243.out; have hcz52_0 : w50.cell? ⟨gb243, 0, none⟩ = some (.int .i64 a0_0) := blk_cell BK243.out 0; have hcz52_1 : w50.cell? ⟨gb243, 1, none⟩ = some (.slice A0_1 l0_1.length c0_1) := blk_cell BK243.out 1; have hfz52_0 := blk_frozen BK243.out 0; have hfz52_1 := blk_frozen BK243.out 1) | ((with_reducible refine gate_callee (f := 65) rfl ?_); refine goesL_ (some 13) rfl rfl Try.func65 (by kernel_rfl) rfl #[.agg #[.int .i64 a0_0, .slice A0_1 l0_1.length c0_1], .int .i64 a3] rfl (by (try simp only [List.map_toArray, List.map_cons, List.map_nil]); first | done | rfl | (simp only [List.length_drop, List.length_take]; done) | (simp only [List.length_drop, List.length_take]; rfl)) ?_; (with_reducible refine (atlas_goes.calls k a0_0 _ _ l0_1 a3 true _ ?side1 ?side2 A5.out).mono ?_); (case side1 => repeat (first | exact (Kd.C_below HR0_1.out HB.out) | (with_reducible refine Kd.C_alloc ?_ _) | (with_reducible refine Kd.C_drewN ?_ _) | (with_reducible refine Kd.C_drew ?_))); (case side2 => exact HC0_1.out); rintro e w53 ⟨rfl, hb⟩; refine ⟨_, rfl, ?_⟩; replace BK243 := Aside0.mk (blk_below BK243.out hb); replace BK244 := Aside0.mk (blk_below BK244.out hb); replace HB := Aside0.mk (below_step (pB HB.out) hb); (try clear hb); (try clear hb2); (try clear hk); (try clear hi); have hcz54_0 : w53.cell? ⟨gb243, 0, none⟩ = some (.int .i64 a0_0) := blk_cell BK243.out 0; have hcz54_1 : w53.cell? ⟨gb243, 1, none⟩ = some (.slice A0_1 l0_1.length c0_1) := blk_cell BK243.out 1; have hfz54_0 := blk_frozen BK243.out 0; have hfz54_1 := blk_frozen BK243.out 1; have p246 : 0 ≤ (a1 : Int) := of_decide_eq_true (by first | (with_reducible assumption) | assumption); have q246 : a1 < (l0_1.length : Int) := of_decide_eq_true (by first | (with_reducible assumption) | assumption); obtain ⟨ad246, e246, hx246_0, hx246_1, hx246_2, hx246_3⟩ := at_T30 HR0_1.out a1 p246 q246; cases e246; replace hx246_0 := (HB.out.cell (World.block_lt_of_cell? w _ hx246_0)).trans hx246_0; replace hx246_1 := (HB.out.cell (World.block_lt_of_cell? w _ hx246_1)).trans hx246_1; replace hx246_2 := (HB.out.cell (World.block_lt_of_cell? w _ hx246_2)).trans hx246_2; replace hx246_3 := (HB.out.cell (World.block_lt_of_cell? w _ hx246_3)).trans hx246_3; replace p246 := eq_true p246; replace q246 := eq_true q246))
  replace BK243 := Aside0.mk (blk_drew BK243.out)
  replace BK244 := Aside0.mk (blk_drew BK244.out)
  replace HB := Aside0.mk (below_drew1 HB.out)
  have p247 : 0 ≤ (a1 : Int) := of_decide_eq_true (by first | (with_reducible assumption) | assumption)
  have q247 : a1 < (l0_1.length : Int) := of_decide_eq_true (by first | (with_reducible assumption) | assumption)
  obtain ⟨ad247, e247, hx247_0, hx247_1, hx247_2, hx247_3⟩ := at_T30 HR0_1.out a1 p247 q247
  have hw247_3 := hx247_3
  have hw247_2 := hx247_2
  have hw247_1 := hx247_1
  have hw247_0 := hx247_0
  obtain rfl : ad246 = ad247 := (by injection e247)
  replace hx247_0 := (HB.out.cell (World.block_lt_of_cell? w _ hx247_0)).trans hx247_0
  replace hx247_1 := (HB.out.cell (World.block_lt_of_cell? w _ hx247_1)).trans hx247_1
  replace hx247_2 := (HB.out.cell (World.block_lt_of_cell? w _ hx247_2)).trans hx247_2
  replace hx247_3 := (HB.out.cell (World.block_lt_of_cell? w _ hx247_3)).trans hx247_3
  replace p247 := eq_true p247
  replace q247 := eq_true q247
  refine start_ (n := 20) (S := fun w' => w'.cell? ⟨gb243, 0, none⟩ = some (.int .i64 a0_0) ∧ w'.cell? ⟨gb243, 1, none⟩ = some (.slice (some ad246) l0_1.length c0_1) ∧ w'.cell? (ad246.add ((a1).toNat * 4)) = some (.string ((rd_T30 l0_1 a1).f0.f0)) ∧ w'.cell? ⟨(ad246.add ((a1).toNat * 4)).block, (ad246.add ((a1).toNat * 4)).off + 1, none⟩ = some (.string ((rd_T30 l0_1 a1).f0.f1)) ∧ w'.cell? ⟨(ad246.add ((a1).toNat * 4)).block, (ad246.add ((a1).toNat * 4)).off + 2, none⟩ = some (.int .i64 ((rd_T30 l0_1 a1).f1)) ∧ w'.cell? ⟨(ad246.add ((a1).toNat * 4)).block, (ad246.add ((a1).toNat * 4)).off + 3, none⟩ = some (.int .i64 ((rd_T30 l0_1 a1).f2))) (ds := []) #[false, false, false, false, false, false, false, false, false, false, false, false, false, false, false, false, false, false, false, false] (by kernel_rfl) rfl rfl ⟨blk_cell BK243.out 0, blk_cell BK243.out 1, ((HB.out.cell (World.block_lt_of_cell? w _ hw247_0)).trans hw247_0), ((HB.out.cell (World.block_lt_of_cell? w _ hw247_1)).trans hw247_1), ((HB.out.cell (World.block_lt_of_cell? w _ hw247_2)).trans hw247_2), ((HB.out.cell (World.block_lt_of_cell? w _ hw247_3)).trans hw247_3)⟩ (fun hHeld => ?_); refine with_tabW atlas_Move.tab3 atlas_Move.bits3 (fun HT_ HW_ => ?_)
  generalize w53.drew = w55 at BK243 BK244 HB hx247_0 hx247_1 hx247_2 hx247_3 hHeld ⊢
  refine pure_ (i := 1) (N := some 47) (v := ?_) (a' := ?_) #[false, true, false, false, false, false, false, false, false, false, false, false, false, false, false, false, false, false, false, false] rfl rfl (any_of HT_.out (by kernel_rfl)) (fun _ _ _ h => h) (Or.inl ⟨by rfl, ?_⟩) ?_ ?_
  rotate_left
  · intro w'
    go_simp
    with_reducible rfl
  rotate_left
  · simp only [Act.put, List.setIfInBounds_toArray, List.set_cons_zero, List.set_cons_succ, i64_w, i32_w]; rfl
  refine pure_ (i := 2) (N := some 48) (v := ?_) (a' := ?_) #[false, true, true, false, false, false, false, false, false, false, false, false, false, false, false, false, false, false, false, false] rfl rfl (any_of HT_.out (by kernel_rfl)) (fun _ _ _ h => h) (Or.inl ⟨by rfl, ?_⟩) ?_ ?_
  rotate_left
  · intro w'
    go_simp
    with_reducible rfl
  rotate_left
  · simp only [Act.put, List.setIfInBounds_toArray, List.set_cons_zero, List.set_cons_succ, i64_w, i32_w]; rfl
  refine pure_ (i := 3) (N := some 49) (v := ?_) (a' := ?_) #[false, true, true, true, false, false, false, false, false, false, false, false, false, false, false, false, false, false, false, false] rfl rfl (any_of HT_.out (by kernel_rfl)) (fun _ _ _ h => h) (Or.inl ⟨by rfl, ?_⟩) ?_ ?_
  rotate_left
  · intro w'
    go_simp
    with_reducible rfl
  rotate_left
  · simp only [Act.put, List.setIfInBounds_toArray, List.set_cons_zero, List.set_cons_succ, i64_w, i32_w]; rfl
  refine pure_ (i := 4) (N := some 50) (v := ?_) (a' := ?_) #[false, true, true, true, true, false, false, false, false, false, false, false, false, false, false, false, false, false, false, false] rfl rfl (any_of HT_.out (by kernel_rfl)) (fun _ _ _ h => h) (Or.inl ⟨by rfl, ?_⟩) ?_ ?_
  rotate_left
  · intro w'
    go_simp
    with_reducible rfl
  rotate_left
  · simp only [Act.put, List.setIfInBounds_toArray, List.set_cons_zero, List.set_cons_succ, i64_w, i32_w]; rfl
  refine pure_ (i := 6) (N := some 52) (v := ?_) (a' := ?_) #[false, true, true, true, true, false, true, false, false, false, false, false, false, false, false, false, false, false, false, false] rfl rfl (any_of HT_.out (by kernel_rfl)) (fun _ _ _ h => h) (Or.inl ⟨by rfl, ?_⟩) ?_ ?_
  rotate_left
  · intro w'
    go_simp
    with_reducible rfl
  rotate_left
  · simp only [Act.put, List.setIfInBounds_toArray, List.set_cons_zero, List.set_cons_succ, i64_w, i32_w]; rfl
  refine pure_ (i := 10) (N := some 56) (v := ?_) (a' := ?_) #[false, true, true, true, true, false, true, false, false, false, true, false, false, false, false, false, false, false, false, false] rfl rfl (any_of HT_.out (by kernel_rfl)) (fun _ _ _ h => h) (Or.inl ⟨by rfl, ?_⟩) ?_ ?_
  rotate_left
  · intro w'
    go_simp
    with_reducible rfl
  rotate_left
  · simp only [Act.put, List.setIfInBounds_toArray, List.set_cons_zero, List.set_cons_succ, i64_w, i32_w]; rfl
  refine take_ (i := 0) (N := some 46) (v := ?_) (a' := ?_) #[true, true, true, true, true, false, true, false, false, false, true, false, false, false, false, false, false, false, false, false] rfl rfl (take_ofW HT_.out HW_.out (by kernel_rfl)) (fun _ _ _ h => h) (Or.inl ⟨by rfl, ?_⟩) hHeld ?_ ?_
  rotate_left
  · rintro w' ⟨s0, s1, s2, s3, s4, s5⟩; go_simp; with_reducible rfl
  rotate_left
  · simp only [Act.put, List.setIfInBounds_toArray, List.set_cons_zero, List.set_cons_succ, i64_w, i32_w]; rfl
  refine take_ (i := 5) (N := some 51) (v := ?_) (a' := ?_) #[true, true, true, true, true, true, true, false, false, false, true, false, false, false, false, false, false, false, false, false] rfl rfl (take_ofW HT_.out HW_.out (by kernel_rfl)) (fun _ _ _ h => h) (Or.inl ⟨by rfl, ?_⟩) hHeld ?_ ?_
  rotate_left
  · rintro w' ⟨s0, s1, s2, s3, s4, s5⟩; go_simp; with_reducible rfl
  rotate_left
  · simp only [Act.put, List.setIfInBounds_toArray, List.set_cons_zero, List.set_cons_succ, i64_w, i32_w]; rfl
  refine pure_ (i := 7) (N := some 53) (v := ?_) (a' := ?_) #[true, true, true, true, true, true, true, true, false, false, true, false, false, false, false, false, false, false, false, false] rfl rfl (any_of HT_.out (by kernel_rfl)) (fun _ _ _ h => h) (Or.inl ⟨by rfl, ?_⟩) ?_ ?_
  rotate_left
  · intro w'
    go_simp
    with_reducible rfl
  rotate_left
  · simp only [Act.put, List.setIfInBounds_toArray, List.set_cons_zero, List.set_cons_succ, i64_w, i32_w]; rfl
  refine pure_ (i := 8) (N := some 54) (v := ?_) (a' := ?_) #[true, true, true, true, true, true, true, true, true, false, true, false, false, false, false, false, false, false, false, false] rfl rfl (any_of HT_.out (by kernel_rfl)) (fun _ _ _ h => h) (Or.inl ⟨by rfl, ?_⟩) ?_ ?_
  rotate_left
  · intro w'
    go_simp
    with_reducible rfl
  rotate_left
  · simp only [Act.put, List.setIfInBounds_toArray, List.set_cons_zero, List.set_cons_succ, i64_w, i32_w]; rfl
  refine take_ (i := 9) (N := some 55) (v := ?_) (a' := ?_) #[true, true, true, true, true, true, true, true, true, true, true, false, false, false, false, false, false, false, false, false] rfl rfl (take_ofW HT_.out HW_.out (by kernel_rfl)) (fun _ _ _ h => h) (Or.inl ⟨by rfl, ?_⟩) hHeld ?_ ?_
  rotate_left
  · rintro w' ⟨s0, s1, s2, s3, s4, s5⟩; go_simp; with_reducible rfl
  rotate_left
  · simp only [Act.put, List.setIfInBounds_toArray, List.set_cons_zero, List.set_cons_succ, i64_w, i32_w]; rfl
  refine pure_ (i := 11) (N := some 57) (v := ?_) (a' := ?_) #[true, true, true, true, true, true, true, true, true, true, true, true, false, false, false, false, false, false, false, false] rfl rfl (any_of HT_.out (by kernel_rfl)) (fun _ _ _ h => h) (Or.inl ⟨by rfl, ?_⟩) ?_ ?_
  rotate_left
  · intro w'
    go_simp
    with_reducible rfl
  rotate_left
  · simp only [Act.put, List.setIfInBounds_toArray, List.set_cons_zero, List.set_cons_succ, i64_w, i32_w]; rfl
  refine one_ (i := 12) (N := some 58) #[true, true, true, true, true, true, true, true, true, true, true, true, true, false, false, false, false, false, false, false] rfl rfl (one_of HT_.out (by kernel_rfl)) (by decide) (fun K hK => ?_)
  refine Kd.R_lit_step k30 _ 30 ?hg (N := 58) ?hd (xs := ([(⟨(⟨(rd_T30 l0_1 a1).f0.f0, (rd_T30 l0_1 a1).f0.f1⟩ : S28), a2, 0⟩ : S30)] : List (S30))) (inner := [.string ((rd_T30 l0_1 a1).f0.f0), .string ((rd_T30 l0_1 a1).f0.f1), .int .i64 a2, .int .i64 0]) (ok := fun _ => True) (okp := fun _ => True) ?hr ?hp (fun _ hk => hk) trivial (Below.refl _ _) (Nat.le_refl _) (by simp) ?_; (case hd => rfl); (case hg => rfl); (case hr => first | (go_simp; done) | (go_simp; rfl)); (case hp => exact (Reps.c4 (show Kd.M k30 _ _ _ (⟨(⟨(rd_T30 l0_1 a1).f0.f0, (rd_T30 l0_1 a1).f0.f1⟩ : S28), a2, 0⟩ : S30) [.string ((rd_T30 l0_1 a1).f0.f0), .string ((rd_T30 l0_1 a1).f0.f1), .int .i64 a2, .int .i64 0] from (k30_mkM _ _ _ (⟨(⟨(rd_T30 l0_1 a1).f0.f0, (rd_T30 l0_1 a1).f0.f1⟩ : S28), a2, 0⟩ : S30) )) (Reps.none _ _)))
  intro v249 w56 ho57 hb hg_ hnew_
  clear hg_ hnew_
  (first | rw [← Ny248.out] at ho57 | (simp only [Int.reduceToNat] at ho57; rw [← Ny248.out] at ho57))
  have HO250 := Aside0.mk (Kd.R_lower ho57 (below_size (pB HB.out)))
  replace BK243 := Aside0.mk (blk_below BK243.out hb)
  replace BK244 := Aside0.mk (blk_below BK244.out hb)
  replace HB := Aside0.mk (below_step (pB HB.out) hb)
  clear hb ho57
  obtain ⟨Ao58, co58, eo58⟩ := Kd.R_slice HO250.out
  (first | subst eo58 | (injection eo58 with f1_ f2_ f3_; have f4_ := f1_.symm; have f5_ := f3_.symm; clear f1_ f2_ f3_; subst f4_; subst f5_))
  refine hK.out _ _ ⟨blk_cell BK243.out 0, blk_cell BK243.out 1, ((HB.out.cell (World.block_lt_of_cell? w _ hw247_0)).trans hw247_0), ((HB.out.cell (World.block_lt_of_cell? w _ hw247_1)).trans hw247_1), ((HB.out.cell (World.block_lt_of_cell? w _ hw247_2)).trans hw247_2), ((HB.out.cell (World.block_lt_of_cell? w _ hw247_3)).trans hw247_3)⟩ (fun hHeld => ?_)
  clear hK K
  refine norm_ (a' := ?_) ?_ ?_
  rotate_left
  · show Act.put _ (some 58) _ = _; simp only [Act.put, List.setIfInBounds_toArray, List.set_cons_zero, List.set_cons_succ, i64_w, i32_w]; rfl
  refine one_ (i := 13) (N := some 59) #[true, true, true, true, true, true, true, true, true, true, true, true, true, true, false, false, false, false, false, false] rfl rfl (one_of HT_.out (by kernel_rfl)) (by decide) (fun K hK => ?_)
  refine goes_ Try.func66 (by kernel_rfl) rfl #[.agg #[.int .i64 a0_0, .slice (some ad246) l0_1.length c0_1], .int .i64 a1, .int .i64 (wrap64 (a1 + 1)), .slice Ao58 y248.length co58] (by rfl) rfl rfl (by (try simp only [List.map_toArray, List.map_cons, List.map_nil]); first | done | rfl | (simp only [List.length_drop, List.length_take]; done) | (simp only [List.length_drop, List.length_take]; rfl)) ?_
  with_reducible refine (atlas_changed.calls k a0_0 _ _ l0_1 a1 (wrap64 (a1 + 1)) _ _ y248 t251 t252 t255 t258 _ ?side1 ?side2 ?side3 ?side4 A48.out).mono ?_
  (case side1 => repeat (first | exact (Kd.C_below HR0_1.out HB.out) | (with_reducible refine Kd.C_alloc ?_ _) | (with_reducible refine Kd.C_drewN ?_ _) | (with_reducible refine Kd.C_drew ?_)))
  (case side2 => exact HC0_1.out)
  (case side3 => repeat (first | exact (Kd.R_reads' HO250.out).2.2 | (with_reducible refine Kd.C_alloc ?_ _) | (with_reducible refine Kd.C_drewN ?_ _) | (with_reducible refine Kd.C_drew ?_)))
  (case side4 => exact (Kd.R_reads' HO250.out).2.1)
  rintro e w59 ⟨v253, v256, rfl, ho0, ho1, hb⟩
  refine ⟨_, rfl, ?_⟩
  have HO254 := Aside0.mk (Kd.R_lower (Kd.R_new' ho0 (Kd.R_lt (pR HO250.out))) (below_size (pB HB.out)))
  have HO257 := Aside0.mk (Kd.R_lower ho1 (below_size (pB HB.out)))
  replace HO250 := Aside0.mk (Kd.R_elder' (pR HO250.out) (Kd.R_base ho0) hb)
  replace BK243 := Aside0.mk (blk_below BK243.out hb)
  replace BK244 := Aside0.mk (blk_below BK244.out hb)
  replace HB := Aside0.mk (below_step (pB HB.out) hb)
  (try clear hb)
  (try clear hb2)
  (try clear hk)
  (try clear hi)
  (try clear ho0)
  (try clear ho1)
  obtain ⟨Ao61, co61, eo61⟩ := Kd.R_slice HO254.out
  (first | subst eo61 | (injection eo61 with f1_ f2_ f3_; have f4_ := f1_.symm; have f5_ := f3_.symm; clear f1_ f2_ f3_; subst f4_; subst f5_))
  refine hK.out _ _ ⟨blk_cell BK243.out 0, blk_cell BK243.out 1, ((HB.out.cell (World.block_lt_of_cell? w _ hw247_0)).trans hw247_0), ((HB.out.cell (World.block_lt_of_cell? w _ hw247_1)).trans hw247_1), ((HB.out.cell (World.block_lt_of_cell? w _ hw247_2)).trans hw247_2), ((HB.out.cell (World.block_lt_of_cell? w _ hw247_3)).trans hw247_3)⟩ (fun hHeld => ?_)
  clear hK K
  refine norm_ (a' := ?_) ?_ ?_
  rotate_left
  · show Act.put _ (some 59) _ = _; simp only [Act.put, List.setIfInBounds_toArray, List.set_cons_zero, List.set_cons_succ, i64_w, i32_w]; rfl
  refine pure_ (i := 14) (N := some 60) (v := ?_) (a' := ?_) #[true, true, true, true, true, true, true, true, true, true, true, true, true, true, true, false, false, false, false, false] rfl rfl (any_of HT_.out (by kernel_rfl)) (fun _ _ _ h => h) (Or.inl ⟨by rfl, ?_⟩) ?_ ?_
  rotate_left
  · intro w'
    go_simp
    with_reducible rfl
  rotate_left
  · simp only [Act.put, List.setIfInBounds_toArray, List.set_cons_zero, List.set_cons_succ, i64_w, i32_w]; rfl
  refine pure_ (i := 15) (N := some 61) (v := ?_) (a' := ?_) #[true, true, true, true, true, true, true, true, true, true, true, true, true, true, true, true, false, false, false, false] rfl rfl (any_of HT_.out (by kernel_rfl)) (fun _ _ _ h => h) (Or.inl ⟨by rfl, ?_⟩) ?_ ?_
  rotate_left
  · intro w'
    go_simp
    with_reducible rfl
  rotate_left
  · simp only [Act.put, List.setIfInBounds_toArray, List.set_cons_zero, List.set_cons_succ, i64_w, i32_w]; rfl
  refine pure_ (i := 16) (N := some 62) (v := ?_) (a' := ?_) #[true, true, true, true, true, true, true, true, true, true, true, true, true, true, true, true, true, false, false, false] rfl rfl (any_of HT_.out (by kernel_rfl)) (fun _ _ _ h => h) (Or.inl ⟨by rfl, ?_⟩) ?_ ?_
  rotate_left
  · intro w'
    go_simp
    with_reducible rfl
  rotate_left
  · simp only [Act.put, List.setIfInBounds_toArray, List.set_cons_zero, List.set_cons_succ, i64_w, i32_w]; rfl
  refine one_ (i := 17) (N := none) #[true, true, true, true, true, true, true, true, true, true, true, true, true, true, true, true, true, true, false, false] rfl rfl (one_of HT_.out (by kernel_rfl)) (by decide) (fun K hK => ?_)
  have hs60 : w59.cell? ⟨gb244, 0, none⟩ = some (.int .i64 0) := blk_cell BK244.out 0
  have hfs60 := blk_frozen BK244.out 0
  have hns60_0 := NB243_244.out
  have hms60_0 := NB244_243.out
  have hs62 : w59.cell? ⟨gb244, 1, none⟩ = some (.slice none 0 0) := blk_cell BK244.out 1
  have hfs62 := blk_frozen BK244.out 1
  have hns62_0 := NB243_244.out
  have hms62_0 := NB244_243.out
  refine skip_ (w1 := ?_) (by rfl) rfl ?_ ?_
  rotate_left
  · go_simp; rfl
  refine hK.out _ _ ⟨((cell_far (p := ⟨gb244, _, none⟩) NB243_244.out _).trans (((cell_far (p := ⟨gb244, _, none⟩) NB243_244.out _).trans (hHeld.1)))), ((cell_far (p := ⟨gb244, _, none⟩) NB243_244.out _).trans (((cell_far (p := ⟨gb244, _, none⟩) NB243_244.out _).trans (hHeld.2.1)))), ((cell_far (p := ⟨gb244, _, none⟩) (by first | exact Nat.ne_of_lt (Nat.lt_of_lt_of_le (by have := World.block_lt_of_cell? _ _ hw247_0; first | rwa [add_block] at this | exact this) GW244.out) | (rw [add_block]; exact Nat.ne_of_lt (Nat.lt_of_lt_of_le (by have := World.block_lt_of_cell? _ _ hw247_0; first | rwa [add_block] at this | exact this) GW244.out)) | (show (Addr.add _ _).block ≠ _; rw [add_block]; exact Nat.ne_of_lt (Nat.lt_of_lt_of_le (by have := World.block_lt_of_cell? _ _ hw247_0; first | rwa [add_block] at this | exact this) GW244.out)) | (dsimp only; exact Nat.ne_of_lt (Nat.lt_of_lt_of_le (by have := World.block_lt_of_cell? _ _ hw247_0; first | rwa [add_block] at this | exact this) GW244.out))) _).trans (((cell_far (p := ⟨gb244, _, none⟩) (by first | exact Nat.ne_of_lt (Nat.lt_of_lt_of_le (by have := World.block_lt_of_cell? _ _ hw247_0; first | rwa [add_block] at this | exact this) GW244.out) | (rw [add_block]; exact Nat.ne_of_lt (Nat.lt_of_lt_of_le (by have := World.block_lt_of_cell? _ _ hw247_0; first | rwa [add_block] at this | exact this) GW244.out)) | (show (Addr.add _ _).block ≠ _; rw [add_block]; exact Nat.ne_of_lt (Nat.lt_of_lt_of_le (by have := World.block_lt_of_cell? _ _ hw247_0; first | rwa [add_block] at this | exact this) GW244.out)) | (dsimp only; exact Nat.ne_of_lt (Nat.lt_of_lt_of_le (by have := World.block_lt_of_cell? _ _ hw247_0; first | rwa [add_block] at this | exact this) GW244.out))) _).trans (hHeld.2.2.1)))), ((cell_far (p := ⟨gb244, _, none⟩) (by first | exact Nat.ne_of_lt (Nat.lt_of_lt_of_le (by have := World.block_lt_of_cell? _ _ hw247_1; first | rwa [add_block] at this | exact this) GW244.out) | (rw [add_block]; exact Nat.ne_of_lt (Nat.lt_of_lt_of_le (by have := World.block_lt_of_cell? _ _ hw247_1; first | rwa [add_block] at this | exact this) GW244.out)) | (show (Addr.add _ _).block ≠ _; rw [add_block]; exact Nat.ne_of_lt (Nat.lt_of_lt_of_le (by have := World.block_lt_of_cell? _ _ hw247_1; first | rwa [add_block] at this | exact this) GW244.out)) | (dsimp only; exact Nat.ne_of_lt (Nat.lt_of_lt_of_le (by have := World.block_lt_of_cell? _ _ hw247_1; first | rwa [add_block] at this | exact this) GW244.out))) _).trans (((cell_far (p := ⟨gb244, _, none⟩) (by first | exact Nat.ne_of_lt (Nat.lt_of_lt_of_le (by have := World.block_lt_of_cell? _ _ hw247_1; first | rwa [add_block] at this | exact this) GW244.out) | (rw [add_block]; exact Nat.ne_of_lt (Nat.lt_of_lt_of_le (by have := World.block_lt_of_cell? _ _ hw247_1; first | rwa [add_block] at this | exact this) GW244.out)) | (show (Addr.add _ _).block ≠ _; rw [add_block]; exact Nat.ne_of_lt (Nat.lt_of_lt_of_le (by have := World.block_lt_of_cell? _ _ hw247_1; first | rwa [add_block] at this | exact this) GW244.out)) | (dsimp only; exact Nat.ne_of_lt (Nat.lt_of_lt_of_le (by have := World.block_lt_of_cell? _ _ hw247_1; first | rwa [add_block] at this | exact this) GW244.out))) _).trans (hHeld.2.2.2.1)))), ((cell_far (p := ⟨gb244, _, none⟩) (by first | exact Nat.ne_of_lt (Nat.lt_of_lt_of_le (by have := World.block_lt_of_cell? _ _ hw247_2; first | rwa [add_block] at this | exact this) GW244.out) | (rw [add_block]; exact Nat.ne_of_lt (Nat.lt_of_lt_of_le (by have := World.block_lt_of_cell? _ _ hw247_2; first | rwa [add_block] at this | exact this) GW244.out)) | (show (Addr.add _ _).block ≠ _; rw [add_block]; exact Nat.ne_of_lt (Nat.lt_of_lt_of_le (by have := World.block_lt_of_cell? _ _ hw247_2; first | rwa [add_block] at this | exact this) GW244.out)) | (dsimp only; exact Nat.ne_of_lt (Nat.lt_of_lt_of_le (by have := World.block_lt_of_cell? _ _ hw247_2; first | rwa [add_block] at this | exact this) GW244.out))) _).trans (((cell_far (p := ⟨gb244, _, none⟩) (by first | exact Nat.ne_of_lt (Nat.lt_of_lt_of_le (by have := World.block_lt_of_cell? _ _ hw247_2; first | rwa [add_block] at this | exact this) GW244.out) | (rw [add_block]; exact Nat.ne_of_lt (Nat.lt_of_lt_of_le (by have := World.block_lt_of_cell? _ _ hw247_2; first | rwa [add_block] at this | exact this) GW244.out)) | (show (Addr.add _ _).block ≠ _; rw [add_block]; exact Nat.ne_of_lt (Nat.lt_of_lt_of_le (by have := World.block_lt_of_cell? _ _ hw247_2; first | rwa [add_block] at this | exact this) GW244.out)) | (dsimp only; exact Nat.ne_of_lt (Nat.lt_of_lt_of_le (by have := World.block_lt_of_cell? _ _ hw247_2; first | rwa [add_block] at this | exact this) GW244.out))) _).trans (hHeld.2.2.2.2.1)))), ((cell_far (p := ⟨gb244, _, none⟩) (by first | exact Nat.ne_of_lt (Nat.lt_of_lt_of_le (by have := World.block_lt_of_cell? _ _ hw247_3; first | rwa [add_block] at this | exact this) GW244.out) | (rw [add_block]; exact Nat.ne_of_lt (Nat.lt_of_lt_of_le (by have := World.block_lt_of_cell? _ _ hw247_3; first | rwa [add_block] at this | exact this) GW244.out)) | (show (Addr.add _ _).block ≠ _; rw [add_block]; exact Nat.ne_of_lt (Nat.lt_of_lt_of_le (by have := World.block_lt_of_cell? _ _ hw247_3; first | rwa [add_block] at this | exact this) GW244.out)) | (dsimp only; exact Nat.ne_of_lt (Nat.lt_of_lt_of_le (by have := World.block_lt_of_cell? _ _ hw247_3; first | rwa [add_block] at this | exact this) GW244.out))) _).trans (((cell_far (p := ⟨gb244, _, none⟩) (by first | exact Nat.ne_of_lt (Nat.lt_of_lt_of_le (by have := World.block_lt_of_cell? _ _ hw247_3; first | rwa [add_block] at this | exact this) GW244.out) | (rw [add_block]; exact Nat.ne_of_lt (Nat.lt_of_lt_of_le (by have := World.block_lt_of_cell? _ _ hw247_3; first | rwa [add_block] at this | exact this) GW244.out)) | (show (Addr.add _ _).block ≠ _; rw [add_block]; exact Nat.ne_of_lt (Nat.lt_of_lt_of_le (by have := World.block_lt_of_cell? _ _ hw247_3; first | rwa [add_block] at this | exact this) GW244.out)) | (dsimp only; exact Nat.ne_of_lt (Nat.lt_of_lt_of_le (by have := World.block_lt_of_cell? _ _ hw247_3; first | rwa [add_block] at this | exact this) GW244.out))) _).trans (hHeld.2.2.2.2.2))))⟩ (fun hHeld => ?_)
  clear hK K
  refine pure_ (i := 18) (N := some 9) (v := ?_) (a' := ?_) #[true, true, true, true, true, true, true, true, true, true, true, true, true, true, true, true, true, true, true, false] rfl rfl (any_of HT_.out (by kernel_rfl)) (fun _ _ _ h => h) (Or.inl ⟨by rfl, ?_⟩) ?_ ?_
  rotate_left
  · intro w'
    go_simp
    with_reducible rfl
  rotate_left
  · simp only [Act.put, List.setIfInBounds_toArray, List.set_cons_zero, List.set_cons_succ, i64_w, i32_w]; rfl
  refine pure_ (i := 19) (N := some 10) (v := ?_) (a' := ?_) #[true, true, true, true, true, true, true, true, true, true, true, true, true, true, true, true, true, true, true, true] rfl rfl (any_of HT_.out (by kernel_rfl)) (fun _ _ _ h => h) (Or.inl ⟨by rfl, ?_⟩) ?_ ?_
  rotate_left
  · intro w'
    go_simp
    with_reducible rfl
  rotate_left
  · simp only [Act.put, List.setIfInBounds_toArray, List.set_cons_zero, List.set_cons_succ, i64_w, i32_w]; rfl
  refine done_ (done_of HT_.out (by kernel_rfl)) ?_
  try go_wp2
  refine bodyPost_ret (results_ctt rfl _ _ gb244 35 #[.int .i64 t251, .slice Ao61 t252.length co61] (0, 0) _ rfl (by (with_reducible repeat (first | refine blk_drewN ?_ _ | refine blk_drew ?_ | refine blk_alloc ?_ _)); refine blk_put (cs := #[.int .i64 t251, .slice none 0 0]) ?_ 1 _ rfl; (with_reducible repeat (first | refine blk_drewN ?_ _ | refine blk_drew ?_ | refine blk_alloc ?_ _)); refine blk_put (cs := #[.int .i64 0, .slice none 0 0]) ?_ 0 _ rfl; (with_reducible repeat (first | refine blk_drewN ?_ _ | refine blk_drew ?_ | refine blk_alloc ?_ _)); exact BK244.out) Try.underlying35 rfl (by kernel_rfl)) rfl ?_
  exact ⟨_, _, by first | rfl | (simp [errW_none, errW_some] <;> rfl) | (simp [*, errW_none, errW_some] <;> rfl), by (with_reducible repeat (first | apply Kd.R_alloc | apply Kd.R_drewN | apply Kd.R_drew)); exact Kd.R_mono (Kd.R_far (p := ⟨gb244, 1, none⟩) (Kd.R_far (p := ⟨gb244, 0, none⟩) (Kd.R_types HO254.out BK244.out (by decide)) (fun _ hk => hk.2) (.int .i64 t251)) (fun _ hk => hk.2) (.slice Ao61 t252.length co61)) (fun _ hk => trivial), by (with_reducible repeat (first | apply Kd.R_alloc | apply Kd.R_drewN | apply Kd.R_drew)); exact Kd.R_mono (Kd.R_far (p := ⟨gb244, 1, none⟩) (Kd.R_far (p := ⟨gb244, 0, none⟩) (Kd.R_types HO257.out BK244.out (by decide)) (fun _ hk => hk.2) (.int .i64 t251)) (fun _ hk => hk.2) (.slice Ao61 t252.length co61)) (fun _ hk => trivial), by repeat (first | (with_reducible first | exact HB.out | apply below_alloc | apply pw_below_drewN | apply below_drew1 | refine below_set ?_ GE243.out | refine below_set ?_ GE244.out) | exact HB.out)⟩

end Go.Proofs.Ytbajekndbamcmaa.PAtlasBack

-- printed by a program of this session (wip/tools), a turned form of the kit's print
import Derived.Test.YtbajekndbamcmaaWPeel
import Derived.Test.YtbajekndbamcmaaPAtlasBackx0
namespace Go.Proofs.Ytbajekndbamcmaa.PAtlasBack
open Go.RowKit Go.Proofs.YtbajekndbamcmaaW.PrintWords Go.Proofs.YtbajekndbamcmaaW.PrintLast Go.Proofs.YtbajekndbamcmaaW.PrintMore
attribute [local go_sem] max2_int min2_int max_two min_two max_three min_three max_four min_four max2_str min2_str str_geq str_leq str_gtr   -- for this text's walks alone
set_option linter.unusedVariables false
set_option linter.unusedSimpArgs false

/-! ### gazetteerlaw14_Made: function 14 -/
def gazetteerlaw14_Made.l0 : Nat → Int → Int → List (S38) → Int → List (S30) → Option (Int × (List (S30)))
  | 0, _, _, _, _, _ => none
  | k + 1, x4, x203000, x203001, x205000, x205001 => if x4 < (x203001.length : Int) then (if 0 ≤ x4 then (if x205001.length < 2932031007402 then (gazetteerlaw14_Made.l0 k (wrap64 (x4 + 1)) x203000 x203001 x205000 (x205001 ++ [(⟨(⟨(rd_T38 x203001 x4).f0.f0, (rd_T38 x203001 x4).f0.f1⟩ : S28), (rd_T38 x203001 x4).f1, (rd_T38 x203001 x4).f2⟩ : S30)])) else (none)) else (none)) else (some (x205000, x205001))
def gazetteerlaw14_Made.f (k : Nat) (a0_0 : Int) (l0_1 : List (S38)) : Option (Int × (List (S30))) := gazetteerlaw14_Made.l0 k 0 a0_0 l0_1 a0_0 ([] : List (S30))
theorem gazetteerlaw14_Made.mono_l : ∀ k, (∀ y0 y1 y2 y3 y4, LeO (gazetteerlaw14_Made.l0 k y0 y1 y2 y3 y4) (gazetteerlaw14_Made.l0 (k + 1) y0 y1 y2 y3 y4))
  | 0 => fun _ _ _ _ _ r h => by simp [gazetteerlaw14_Made.l0] at h
  | k + 1 => by
    have ih0 := gazetteerlaw14_Made.mono_l k
    · intro y0 y1 y2 y3 y4
      unfold gazetteerlaw14_Made.l0
      repeat' first
      | (with_reducible exact ih0 _ _ _ _ _)
      | (with_reducible exact LeO.refl _)
      | (with_reducible exact LeO.none _)
      | (with_reducible refine LeO.ite ?_ ?_)
      | (with_reducible refine LeO.bind ?_ (fun _ => ?_))
      | exact ih0 _ _ _ _ _
      | exact LeO.none _
      | refine LeO.ite ?_ ?_
      | refine LeO.bind ?_ (fun _ => ?_)
theorem gazetteerlaw14_Made.mono : ∀ a0 a1 k, LeO (gazetteerlaw14_Made.f k a0 a1) (gazetteerlaw14_Made.f (k + 1) a0 a1) := by
  intro a0 a1 k
  have ih0 := gazetteerlaw14_Made.mono_l k
  unfold gazetteerlaw14_Made.f
  repeat' first
      | (with_reducible exact ih0 _ _ _ _ _)
      | (with_reducible exact LeO.refl _)
      | (with_reducible exact LeO.none _)
      | (with_reducible refine LeO.ite ?_ ?_)
      | (with_reducible refine LeO.bind ?_ (fun _ => ?_))
      | exact ih0 _ _ _ _ _
      | exact LeO.none _
      | refine LeO.ite ?_ ?_
      | refine LeO.bind ?_ (fun _ => ?_)
def gazetteerlaw14_Made.T5 : Bool × List (List Nat × List Nat) := (true, [([], []), ([0], [0]), ([], []), ([2], [2]), ([], []), ([3, 4], [3, 4]), ([5], [5]), ([6], [6]), ([], []), ([8], [8]), ([], []), ([9, 10], [9, 10]), ([11], [11]), ([12], [12]), ([], []), ([14], [14]), ([], []), ([15, 16], [15, 16]), ([17], [17]), ([18], [18]), ([7, 13, 19], [7, 13, 19]), ([20], [20]), ([1, 21], [1, 21]), ([0, 1, 2, 3, 4, 5, 6, 7, 8, 9, 10, 11, 12, 13, 14, 15, 16, 17, 18, 19, 20, 21, 22], []), ([23, 22, 22, 0, 1, 2, 3, 4, 5, 6, 7, 8, 9, 10, 11, 12, 13, 14, 15, 16, 17, 18, 19, 20, 21, 22], [22, 23])])
def gazetteerlaw14_Made.B5 : List Nat := [0, 1, 0, 4, 0, 28, 60, 124, 0, 256, 0, 1792, 3840, 7936, 0, 16384, 0, 114688, 245760, 507904, 1048572, 2097148, 4194303, 8388607, 16777215]
theorem gazetteerlaw14_Made.tab5 : rtab .any (opsOf Try.f14 5) = gazetteerlaw14_Made.T5 := by kernel_rfl
theorem gazetteerlaw14_Made.bits5 : waitsOk gazetteerlaw14_Made.T5.2 gazetteerlaw14_Made.B5 = true := by kernel_rfl
set_option maxHeartbeats 8000000 in
set_option maxRecDepth 100000 in
theorem gazetteerlaw14_Made.calls (k : Nat) (a0_0 : Int) (A0_1 : Option Addr) (c0_1 : Nat) (l0_1 : List (S38)) (r1 : Int) (r2 : List (S30)) (w : World) (hr0_1 : Kd.C k38 w A0_1 l0_1.length l0_1) (hc0_1 : l0_1.length ≤ c0_1) (h : gazetteerlaw14_Made.f k a0_0 l0_1 = some (r1, r2)) :
    Calls Try.prog 14 #[.agg #[.int .i64 a0_0, .slice A0_1 l0_1.length c0_1]] w fun e w' => ∃ v1_ : Value, e = .returned (.agg #[.int .i64 r1, v1_]) ∧ Kd.R k30 30 w' w.heap.size (fun _ => True) v1_ r2 ∧ Below w.heap.size w w' := by
  have hu24 := Try.underlying24
  have hu35 := Try.underlying35
  have hu28 := Try.underlying28
  have hu30 := Try.underlying30
  have HR0_1 := Aside0.mk hr0_1
  have HC0_1 := Aside0.mk hc0_1
  clear hr0_1 hc0_1
  have HB := Aside0.mk (Below.refl w.heap.size w)
  have H : (gazetteerlaw14_Made.l0 k 0 a0_0 l0_1 a0_0 ([] : List (S30))) = some (r1, r2) := h
  clear h
  have H' := Aside0.mk H
  clear H
  go_enter Try.func14, Try.ntmps14
  go_wp2_with (first | ((with_reducible refine gate_dst (N := 1) rfl ?_); refine box_event ?hg (N := 1) ?hd (cs := #[.int .i64 a0_0, .slice A0_1 l0_1.length c0_1]) (t := 24) ?hr ?_; (case hd => rfl); (case hg => rfl); (case hr => first | (go_simp; done) | (go_simp; rfl)); intro gb202 hg w2 hbox hb; have BK202 := Aside0.mk (hbox); have GW202 := geL hg HB.out; have GE202 := geL hg HB.out; replace HB := Aside0.mk (below_step (pB HB.out) hb); clear hb hbox hg) | ((with_reducible refine gate_dst (N := 2) rfl ?_); refine box_event ?hg (N := 2) ?hd (cs := #[.int .i64 0, .slice none 0 0]) (t := 35) ?hr ?_; (case hd => rfl); (case hg => rfl); (case hr => first | (go_simp; done) | (go_simp; rfl)); intro gb203 hg w3 hbox hb; have BK203 := Aside0.mk (hbox); have GW203 := geL hg HB.out; have GE203 := geL hg HB.out; have NB202_203 := neL hg BK202.out; have NB203_202 := neG hg BK202.out; replace BK202 := Aside0.mk (blk_below BK202.out hb); replace HB := Aside0.mk (below_step (pB HB.out) hb); clear hb hbox hg; have hnb4 := NB202_203.out; have hnc4 := NB203_202.out; have hcz5_0 : w3.cell? ⟨gb202, 0, none⟩ = some (.int .i64 a0_0) := blk_cell BK202.out 0; have hcz5_1 : w3.cell? ⟨gb202, 1, none⟩ = some (.slice A0_1 l0_1.length c0_1) := blk_cell BK202.out 1; have hfz5_0 := blk_frozen BK202.out 0; have hfz5_1 := blk_frozen BK202.out 1) | ((with_reducible refine gate_dst (N := 3) rfl ?_); refine box_event ?hg (N := 3) ?hd (cs := #[.int .i64 0, .slice none 0 0]) (t := 35) ?hr ?_; (case hd => rfl); (case hg => rfl); (case hr => first | (go_simp; done) | (go_simp; rfl)); intro gb204 hg w6 hbox hb; have BK204 := Aside0.mk (hbox); have GW204 := geL hg HB.out; have GE204 := geL hg HB.out; have NB202_204 := neL hg BK202.out; have NB204_202 := neG hg BK202.out; have NB203_204 := neL hg BK203.out; have NB204_203 := neG hg BK203.out; replace BK202 := Aside0.mk (blk_below BK202.out hb); replace BK203 := Aside0.mk (blk_below BK203.out hb); replace HB := Aside0.mk (below_step (pB HB.out) hb); clear hb hbox hg; have hnb7 := NB204_202.out; have hnc7 := NB202_204.out; have hnb8 := NB204_203.out; have hnc8 := NB203_204.out; have hcz9_0 : w6.cell? ⟨gb204, 0, none⟩ = some (.int .i64 0) := blk_cell BK204.out 0; have hcz9_1 : w6.cell? ⟨gb204, 1, none⟩ = some (.slice none 0 0) := blk_cell BK204.out 1; have hfz9_0 := blk_frozen BK204.out 0; have hfz9_1 := blk_frozen BK204.out 1))
  go_loopg [4] k (fun kq v4 w' => ∃ (x4_1 : Int) (x205001_1 : List (S30)) (u205001 : Value), v4 = .int .i64 x4_1 ∧ Aside0 (gazetteerlaw14_Made.l0 kq x4_1 a0_0 l0_1 a0_0 x205001_1 = some (r1, r2)) ∧ Aside0 (kq ≤ k) ∧ Aside0 (Kd.R k30 30 w' w.heap.size (fun _ => True) u205001 x205001_1) ∧ Aside0 (w'.heap[gb202]? = some (.cells #[.int .i64 a0_0, (.slice A0_1 l0_1.length c0_1)] 24 (0, 0))) ∧ Aside0 (w'.heap[gb203]? = some (.cells #[.int .i64 0, (.slice none 0 0)] 35 (0, 0))) ∧ Aside0 (w'.heap[gb204]? = some (.cells #[.int .i64 a0_0, u205001] 35 (0, 0))) ∧ Aside0 (Below w.heap.size w w'))
  case atStart => exact ⟨(0), (([] : List (S30))), (.slice none 0 0), (by first | rfl | (simp; done) | (simp [*]; done)), H', ⟨Nat.le_refl _⟩, ⟨by first | exact Kd.R_nil _ _ _ _ _ | exact Kd.N_nil _ _ _ _ _ | exact Kd.V_nil _ _ _ _ _ | exact Kd.Q_nil _ _ _ _ _ | exact Kd.S_nil _ _ _ _ _⟩, ⟨by (with_reducible repeat (first | refine blk_drewN ?_ _ | refine blk_drew ?_ | refine blk_alloc ?_ _)); refine blk_far ?_ NB202_204.out _; (with_reducible repeat (first | refine blk_drewN ?_ _ | refine blk_drew ?_ | refine blk_alloc ?_ _)); refine blk_far ?_ NB202_204.out _; (with_reducible repeat (first | refine blk_drewN ?_ _ | refine blk_drew ?_ | refine blk_alloc ?_ _)); exact BK202.out⟩, ⟨by (with_reducible repeat (first | refine blk_drewN ?_ _ | refine blk_drew ?_ | refine blk_alloc ?_ _)); refine blk_far ?_ NB203_204.out _; (with_reducible repeat (first | refine blk_drewN ?_ _ | refine blk_drew ?_ | refine blk_alloc ?_ _)); refine blk_far ?_ NB203_204.out _; (with_reducible repeat (first | refine blk_drewN ?_ _ | refine blk_drew ?_ | refine blk_alloc ?_ _)); exact BK203.out⟩, ⟨by (with_reducible repeat (first | refine blk_drewN ?_ _ | refine blk_drew ?_ | refine blk_alloc ?_ _)); refine blk_put (cs := #[.int .i64 a0_0, .slice none 0 0]) ?_ 1 _ rfl; (with_reducible repeat (first | refine blk_drewN ?_ _ | refine blk_drew ?_ | refine blk_alloc ?_ _)); refine blk_put (cs := #[.int .i64 0, .slice none 0 0]) ?_ 0 _ rfl; (with_reducible repeat (first | refine blk_drewN ?_ _ | refine blk_drew ?_ | refine blk_alloc ?_ _)); exact BK204.out⟩, ⟨by repeat (first | (with_reducible first | exact HB.out | apply below_alloc | apply pw_below_drewN | apply below_drew1 | refine below_set ?_ GE202.out | refine below_set ?_ GE203.out | refine below_set ?_ GE204.out) | exact HB.out)⟩⟩
  case round =>
   clear H'
   try clear c1
   try clear p2
   try clear c4
   try clear c7
   try clear c8
   try clear hcz5_0
   try clear hcz5_1
   try clear hcz9_0
   try clear hcz9_1
   try clear hfz5_0
   try clear hfz5_1
   try clear hfz9_0
   try clear hfz9_1
   obtain ⟨x4_1, x205001_1, u205001, rfl, HA, HK1, HO_205001, BK202, BK203, BK204, HB⟩ := hrel
   cases gk with
   | zero => exact absurd HA.out (by simp [gazetteerlaw14_Made.l0])
   | succ k1 =>
    have H := HA.out
    clear HA
    simp only [gazetteerlaw14_Made.l0] at H
    by_cases c10 : x4_1 < (l0_1.length : Int)
    rotate_left
    ·
     rw [if_neg c10] at H
     have c10b0 : decide (x4_1 < (l0_1.length : Int)) = false := decide_eq_false c10
     clear c10
     simp only [Option.some.injEq, Prod.mk.injEq] at H
     obtain ⟨rfl, rfl⟩ := H
     have hnb20 := NB202_203.out
     have hnc20 := NB203_202.out
     have hnb21 := NB202_204.out
     have hnc21 := NB204_202.out
     have hcz22_0 : wr.cell? ⟨gb202, 0, none⟩ = some (.int .i64 a0_0) := blk_cell BK202.out 0
     have hcz22_1 : wr.cell? ⟨gb202, 1, none⟩ = some (.slice A0_1 l0_1.length c0_1) := blk_cell BK202.out 1
     have hfz22_0 := blk_frozen BK202.out 0
     have hfz22_1 := blk_frozen BK202.out 1
     have hnb23 := NB204_203.out
     have hnc23 := NB203_204.out
     have hcz24_0 : wr.cell? ⟨gb204, 0, none⟩ = some (.int .i64 a0_0) := blk_cell BK204.out 0
     have hcz24_1 : wr.cell? ⟨gb204, 1, none⟩ = some (u205001) := blk_cell BK204.out 1
     have hfz24_0 := blk_frozen BK204.out 0
     have hfz24_1 := blk_frozen BK204.out 1
     have hcz25_0 : wr.cell? ⟨gb203, 0, none⟩ = some (.int .i64 0) := blk_cell BK203.out 0
     have hcz25_1 : wr.cell? ⟨gb203, 1, none⟩ = some (.slice none 0 0) := blk_cell BK203.out 1
     have hfz25_0 := blk_frozen BK203.out 0
     have hfz25_1 := blk_frozen BK203.out 1
     obtain ⟨Ao26, co26, eo26⟩ := Kd.R_slice HO_205001.out
     subst eo26
     go_wp2
     refine bodyPost_ret (results_cell_row rfl _ _ gb203 35 #[.int .i64 a0_0, .slice Ao26 x205001_1.length co26] (0, 0) _ rfl (by (with_reducible repeat (first | refine blk_drewN ?_ _ | refine blk_drew ?_ | refine blk_alloc ?_ _)); refine blk_put (cs := #[.int .i64 a0_0, .slice none 0 0]) ?_ 1 _ rfl; (with_reducible repeat (first | refine blk_drewN ?_ _ | refine blk_drew ?_ | refine blk_alloc ?_ _)); refine blk_put (cs := #[.int .i64 0, .slice none 0 0]) ?_ 0 _ rfl; (with_reducible repeat (first | refine blk_drewN ?_ _ | refine blk_drew ?_ | refine blk_alloc ?_ _)); exact BK203.out) Try.underlying35 rfl (by kernel_rfl)) rfl ?_
     exact ⟨_, by first | rfl | (simp [errW_none, errW_some] <;> rfl) | (simp [*, errW_none, errW_some] <;> rfl), by (with_reducible repeat (first | apply Kd.R_alloc | apply Kd.R_drewN | apply Kd.R_drew)); exact Kd.R_mono (Kd.R_far (p := ⟨gb203, 1, none⟩) (Kd.R_far (p := ⟨gb203, 0, none⟩) (Kd.R_types HO_205001.out BK203.out (by decide)) (fun _ hk => hk.2) (.int .i64 a0_0)) (fun _ hk => hk.2) (.slice Ao26 x205001_1.length co26)) (fun _ hk => trivial), by repeat (first | (with_reducible first | exact HB.out | apply below_alloc | apply pw_below_drewN | apply below_drew1 | refine below_set ?_ GE202.out | refine below_set ?_ GE203.out | refine below_set ?_ GE204.out) | exact HB.out)⟩
    rw [if_pos c10] at H
    have c10b0 : decide (x4_1 < (l0_1.length : Int)) = true := decide_eq_true c10
    clear c10
    by_cases c11 : 0 ≤ x4_1
    rotate_left
    · rw [if_neg c11] at H
      exact absurd H (by simp)
    rw [if_pos c11] at H
    have c11b0 : decide (0 ≤ x4_1) = true := decide_eq_true c11
    clear c11
    by_cases c12 : x205001_1.length < 2932031007402
    rotate_left
    · rw [if_neg c12] at H
      exact absurd H (by simp)
    rw [if_pos c12] at H
    have LMc12 := Aside0.mk c12
    clear c12
    obtain ⟨y208, hy208⟩ : ∃ y_ : List (S30), y_ = (x205001_1 ++ [(⟨(⟨(rd_T38 l0_1 x4_1).f0.f0, (rd_T38 l0_1 x4_1).f0.f1⟩ : S28), (rd_T38 l0_1 x4_1).f1, (rd_T38 l0_1 x4_1).f2⟩ : S30)]) := ⟨_, rfl⟩
    replace H : (gazetteerlaw14_Made.l0 k1 (wrap64 (x4_1 + 1)) a0_0 l0_1 a0_0 y208) = some (r1, r2) := by first | (rw [hy208]; with_reducible exact H) | (have H2_ := (Option.bind_some _ _).symm.trans H; rw [hy208]; with_reducible exact H2_) | (have H2_ := (Option.bind_some _ _).symm.trans H; with_reducible exact H2_) | with_reducible exact H | (rw [hy208]; exact H) | exact H
    have Ny208 := Aside0.mk hy208
    clear hy208
    have H' := Aside0.mk H
    clear H
    have hnb13 := NB202_203.out
    have hnc13 := NB203_202.out
    have hnb14 := NB202_204.out
    have hnc14 := NB204_202.out
    have hcz15_0 : wr.cell? ⟨gb202, 0, none⟩ = some (.int .i64 a0_0) := blk_cell BK202.out 0
    have hcz15_1 : wr.cell? ⟨gb202, 1, none⟩ = some (.slice A0_1 l0_1.length c0_1) := blk_cell BK202.out 1
    have hfz15_0 := blk_frozen BK202.out 0
    have hfz15_1 := blk_frozen BK202.out 1
    try go_wp2
    replace HO_205001 := Aside0.mk (Kd.R_drew HO_205001.out)
    replace BK202 := Aside0.mk (blk_drew BK202.out)
    replace BK203 := Aside0.mk (blk_drew BK203.out)
    replace BK204 := Aside0.mk (blk_drew BK204.out)
    replace HB := Aside0.mk (below_drew1 HB.out)
    have p205 : 0 ≤ (x4_1 : Int) := of_decide_eq_true (by first | (with_reducible assumption) | assumption)
    have q205 : x4_1 < (l0_1.length : Int) := of_decide_eq_true (by first | (with_reducible assumption) | assumption)
    obtain ⟨ad205, e205, hx205_0, hx205_1, hx205_2, hx205_3⟩ := at_T38 HR0_1.out x4_1 p205 q205
    have hw205_3 := hx205_3
    have hw205_2 := hx205_2
    have hw205_1 := hx205_1
    have hw205_0 := hx205_0
    cases e205
    replace hx205_0 := (HB.out.cell (World.block_lt_of_cell? w _ hx205_0)).trans hx205_0
    replace hx205_1 := (HB.out.cell (World.block_lt_of_cell? w _ hx205_1)).trans hx205_1
    replace hx205_2 := (HB.out.cell (World.block_lt_of_cell? w _ hx205_2)).trans hx205_2
    replace hx205_3 := (HB.out.cell (World.block_lt_of_cell? w _ hx205_3)).trans hx205_3
    replace p205 := eq_true p205
    replace q205 := eq_true q205
    have p206 : 0 ≤ (x4_1 : Int) := of_decide_eq_true (by first | (with_reducible assumption) | assumption)
    have q206 : x4_1 < (l0_1.length : Int) := of_decide_eq_true (by first | (with_reducible assumption) | assumption)
    obtain ⟨ad206, e206, hx206_0, hx206_1, hx206_2, hx206_3⟩ := at_T38 HR0_1.out x4_1 p206 q206
    have hw206_3 := hx206_3
    have hw206_2 := hx206_2
    have hw206_1 := hx206_1
    have hw206_0 := hx206_0
    obtain rfl : ad205 = ad206 := (by injection e206)
    replace hx206_0 := (HB.out.cell (World.block_lt_of_cell? w _ hx206_0)).trans hx206_0
    replace hx206_1 := (HB.out.cell (World.block_lt_of_cell? w _ hx206_1)).trans hx206_1
    replace hx206_2 := (HB.out.cell (World.block_lt_of_cell? w _ hx206_2)).trans hx206_2
    replace hx206_3 := (HB.out.cell (World.block_lt_of_cell? w _ hx206_3)).trans hx206_3
    replace p206 := eq_true p206
    replace q206 := eq_true q206
    have p207 : 0 ≤ (x4_1 : Int) := of_decide_eq_true (by first | (with_reducible assumption) | assumption)
    have q207 : x4_1 < (l0_1.length : Int) := of_decide_eq_true (by first | (with_reducible assumption) | assumption)
    obtain ⟨ad207, e207, hx207_0, hx207_1, hx207_2, hx207_3⟩ := at_T38 HR0_1.out x4_1 p207 q207
    have hw207_3 := hx207_3
    have hw207_2 := hx207_2
    have hw207_1 := hx207_1
    have hw207_0 := hx207_0
    obtain rfl : ad205 = ad207 := (by injection e207)
    replace hx207_0 := (HB.out.cell (World.block_lt_of_cell? w _ hx207_0)).trans hx207_0
    replace hx207_1 := (HB.out.cell (World.block_lt_of_cell? w _ hx207_1)).trans hx207_1
    replace hx207_2 := (HB.out.cell (World.block_lt_of_cell? w _ hx207_2)).trans hx207_2
    replace hx207_3 := (HB.out.cell (World.block_lt_of_cell? w _ hx207_3)).trans hx207_3
    replace p207 := eq_true p207
    replace q207 := eq_true q207
    refine start_ (n := 25) (S := fun w' => w'.cell? ⟨gb204, 0, none⟩ = some (.int .i64 a0_0) ∧ w'.cell? ⟨gb204, 1, none⟩ = some (u205001) ∧ w'.cell? ⟨gb202, 0, none⟩ = some (.int .i64 a0_0) ∧ w'.cell? ⟨gb202, 1, none⟩ = some (.slice (some ad205) l0_1.length c0_1) ∧ w'.cell? (ad205.add ((x4_1).toNat * 4)) = some (.string ((rd_T38 l0_1 x4_1).f0.f0)) ∧ w'.cell? ⟨(ad205.add ((x4_1).toNat * 4)).block, (ad205.add ((x4_1).toNat * 4)).off + 1, none⟩ = some (.string ((rd_T38 l0_1 x4_1).f0.f1)) ∧ w'.cell? ⟨(ad205.add ((x4_1).toNat * 4)).block, (ad205.add ((x4_1).toNat * 4)).off + 2, none⟩ = some (.int .i64 ((rd_T38 l0_1 x4_1).f1)) ∧ w'.cell? ⟨(ad205.add ((x4_1).toNat * 4)).block, (ad205.add ((x4_1).toNat * 4)).off + 3, none⟩ = some (.int .i64 ((rd_T38 l0_1 x4_1).f2)) ∧ w'.cell? (ad205.add ((x4_1).toNat * 4)) = some (.string ((rd_T38 l0_1 x4_1).f0.f0)) ∧ w'.cell? ⟨(ad205.add ((x4_1).toNat * 4)).block, (ad205.add ((x4_1).toNat * 4)).off + 1, none⟩ = some (.string ((rd_T38 l0_1 x4_1).f0.f1)) ∧ w'.cell? ⟨(ad205.add ((x4_1).toNat * 4)).block, (ad205.add ((x4_1).toNat * 4)).off + 2, none⟩ = some (.int .i64 ((rd_T38 l0_1 x4_1).f1)) ∧ w'.cell? ⟨(ad205.add ((x4_1).toNat * 4)).block, (ad205.add ((x4_1).toNat * 4)).off + 3, none⟩ = some (.int .i64 ((rd_T38 l0_1 x4_1).f2)) ∧ w'.cell? (ad205.add ((x4_1).toNat * 4)) = some (.string ((rd_T38 l0_1 x4_1).f0.f0)) ∧ w'.cell? ⟨(ad205.add ((x4_1).toNat * 4)).block, (ad205.add ((x4_1).toNat * 4)).off + 1, none⟩ = some (.string ((rd_T38 l0_1 x4_1).f0.f1)) ∧ w'.cell? ⟨(ad205.add ((x4_1).toNat * 4)).block, (ad205.add ((x4_1).toNat * 4)).off + 2, none⟩ = some (.int .i64 ((rd_T38 l0_1 x4_1).f1)) ∧ w'.cell? ⟨(ad205.add ((x4_1).toNat * 4)).block, (ad205.add ((x4_1).toNat * 4)).off + 3, none⟩ = some (.int .i64 ((rd_T38 l0_1 x4_1).f2))) (ds := [24]) #[false, false, false, false, false, false, false, false, false, false, false, false, false, false, false, false, false, false, false, false, false, false, false, false, false] (by kernel_rfl) rfl rfl ⟨blk_cell BK204.out 0, blk_cell BK204.out 1, blk_cell BK202.out 0, blk_cell BK202.out 1, ((HB.out.cell (World.block_lt_of_cell? w _ hw205_0)).trans hw205_0), ((HB.out.cell (World.block_lt_of_cell? w _ hw205_1)).trans hw205_1), ((HB.out.cell (World.block_lt_of_cell? w _ hw205_2)).trans hw205_2), ((HB.out.cell (World.block_lt_of_cell? w _ hw205_3)).trans hw205_3), ((HB.out.cell (World.block_lt_of_cell? w _ hw206_0)).trans hw206_0), ((HB.out.cell (World.block_lt_of_cell? w _ hw206_1)).trans hw206_1), ((HB.out.cell (World.block_lt_of_cell? w _ hw206_2)).trans hw206_2), ((HB.out.cell (World.block_lt_of_cell? w _ hw206_3)).trans hw206_3), ((HB.out.cell (World.block_lt_of_cell? w _ hw207_0)).trans hw207_0), ((HB.out.cell (World.block_lt_of_cell? w _ hw207_1)).trans hw207_1), ((HB.out.cell (World.block_lt_of_cell? w _ hw207_2)).trans hw207_2), ((HB.out.cell (World.block_lt_of_cell? w _ hw207_3)).trans hw207_3)⟩ (fun hHeld => ?_); refine with_tabW gazetteerlaw14_Made.tab5 gazetteerlaw14_Made.bits5 (fun HT_ HW_ => ?_)
    generalize wr.drew = w16 at HO_205001 BK202 BK203 BK204 HB hx205_0 hx205_1 hx205_2 hx205_3 hx206_0 hx206_1 hx206_2 hx206_3 hx207_0 hx207_1 hx207_2 hx207_3 hHeld ⊢
    refine pure_ (i := 0) (N := some 15) (v := ?_) (a' := ?_) #[true, false, false, false, false, false, false, false, false, false, false, false, false, false, false, false, false, false, false, false, false, false, false, false, false] rfl rfl (any_of HT_.out (by kernel_rfl)) (fun _ _ _ h => h) (Or.inl ⟨by rfl, ?_⟩) ?_ ?_
    rotate_left
    · intro w'
      go_simp
      with_reducible rfl
    rotate_left
    · simp only [Act.put, List.setIfInBounds_toArray, List.set_cons_zero, List.set_cons_succ, i64_w, i32_w]; rfl
    refine pure_ (i := 2) (N := some 17) (v := ?_) (a' := ?_) #[true, false, true, false, false, false, false, false, false, false, false, false, false, false, false, false, false, false, false, false, false, false, false, false, false] rfl rfl (any_of HT_.out (by kernel_rfl)) (fun _ _ _ h => h) (Or.inl ⟨by rfl, ?_⟩) ?_ ?_
    rotate_left
    · intro w'
      go_simp
      with_reducible rfl
    rotate_left
    · simp only [Act.put, List.setIfInBounds_toArray, List.set_cons_zero, List.set_cons_succ, i64_w, i32_w]; rfl
    refine pure_ (i := 4) (N := some 19) (v := ?_) (a' := ?_) #[true, false, true, false, true, false, false, false, false, false, false, false, false, false, false, false, false, false, false, false, false, false, false, false, false] rfl rfl (any_of HT_.out (by kernel_rfl)) (fun _ _ _ h => h) (Or.inl ⟨by rfl, ?_⟩) ?_ ?_
    rotate_left
    · intro w'
      go_simp
      with_reducible rfl
    rotate_left
    · simp only [Act.put, List.setIfInBounds_toArray, List.set_cons_zero, List.set_cons_succ, i64_w, i32_w]; rfl
    refine pure_ (i := 8) (N := some 23) (v := ?_) (a' := ?_) #[true, false, true, false, true, false, false, false, true, false, false, false, false, false, false, false, false, false, false, false, false, false, false, false, false] rfl rfl (any_of HT_.out (by kernel_rfl)) (fun _ _ _ h => h) (Or.inl ⟨by rfl, ?_⟩) ?_ ?_
    rotate_left
    · intro w'
      go_simp
      with_reducible rfl
    rotate_left
    · simp only [Act.put, List.setIfInBounds_toArray, List.set_cons_zero, List.set_cons_succ, i64_w, i32_w]; rfl
    refine pure_ (i := 10) (N := some 25) (v := ?_) (a' := ?_) #[true, false, true, false, true, false, false, false, true, false, true, false, false, false, false, false, false, false, false, false, false, false, false, false, false] rfl rfl (any_of HT_.out (by kernel_rfl)) (fun _ _ _ h => h) (Or.inl ⟨by rfl, ?_⟩) ?_ ?_
    rotate_left
    · intro w'
      go_simp
      with_reducible rfl
    rotate_left
    · simp only [Act.put, List.setIfInBounds_toArray, List.set_cons_zero, List.set_cons_succ, i64_w, i32_w]; rfl
    refine pure_ (i := 14) (N := some 29) (v := ?_) (a' := ?_) #[true, false, true, false, true, false, false, false, true, false, true, false, false, false, true, false, false, false, false, false, false, false, false, false, false] rfl rfl (any_of HT_.out (by kernel_rfl)) (fun _ _ _ h => h) (Or.inl ⟨by rfl, ?_⟩) ?_ ?_
    rotate_left
    · intro w'
      go_simp
      with_reducible rfl
    rotate_left
    · simp only [Act.put, List.setIfInBounds_toArray, List.set_cons_zero, List.set_cons_succ, i64_w, i32_w]; rfl
    refine pure_ (i := 16) (N := some 31) (v := ?_) (a' := ?_) #[true, false, true, false, true, false, false, false, true, false, true, false, false, false, true, false, true, false, false, false, false, false, false, false, false] rfl rfl (any_of HT_.out (by kernel_rfl)) (fun _ _ _ h => h) (Or.inl ⟨by rfl, ?_⟩) ?_ ?_
    rotate_left
    · intro w'
      go_simp
      with_reducible rfl
    rotate_left
    · simp only [Act.put, List.setIfInBounds_toArray, List.set_cons_zero, List.set_cons_succ, i64_w, i32_w]; rfl
    refine take_ (i := 1) (N := some 16) (v := ?_) (a' := ?_) #[true, true, true, false, true, false, false, false, true, false, true, false, false, false, true, false, true, false, false, false, false, false, false, false, false] rfl rfl (take_ofW HT_.out HW_.out (by kernel_rfl)) (fun _ _ _ h => h) (Or.inl ⟨by rfl, ?_⟩) hHeld ?_ ?_
    rotate_left
    · rintro w' ⟨s0, s1, s2, s3, s4, s5, s6, s7, s8, s9, s10, s11, s12, s13, s14, s15⟩; go_simp; with_reducible rfl
    rotate_left
    · simp only [Act.put, List.setIfInBounds_toArray, List.set_cons_zero, List.set_cons_succ, i64_w, i32_w]; rfl
    refine take_ (i := 3) (N := some 18) (v := ?_) (a' := ?_) #[true, true, true, true, true, false, false, false, true, false, true, false, false, false, true, false, true, false, false, false, false, false, false, false, false] rfl rfl (take_ofW HT_.out HW_.out (by kernel_rfl)) (fun _ _ _ h => h) (Or.inl ⟨by rfl, ?_⟩) hHeld ?_ ?_
    rotate_left
    · rintro w' ⟨s0, s1, s2, s3, s4, s5, s6, s7, s8, s9, s10, s11, s12, s13, s14, s15⟩; go_simp; with_reducible rfl
    rotate_left
    · simp only [Act.put, List.setIfInBounds_toArray, List.set_cons_zero, List.set_cons_succ, i64_w, i32_w]; rfl
    refine pure_ (i := 5) (N := some 20) (v := ?_) (a' := ?_) #[true, true, true, true, true, true, false, false, true, false, true, false, false, false, true, false, true, false, false, false, false, false, false, false, false] rfl rfl (any_of HT_.out (by kernel_rfl)) (fun _ _ _ h => h) (Or.inl ⟨by rfl, ?_⟩) ?_ ?_
    rotate_left
    · intro w'
      go_simp
      with_reducible rfl
    rotate_left
    · simp only [Act.put, List.setIfInBounds_toArray, List.set_cons_zero, List.set_cons_succ, i64_w, i32_w]; rfl
    refine pure_ (i := 6) (N := some 21) (v := ?_) (a' := ?_) #[true, true, true, true, true, true, true, false, true, false, true, false, false, false, true, false, true, false, false, false, false, false, false, false, false] rfl rfl (any_of HT_.out (by kernel_rfl)) (fun _ _ _ h => h) (Or.inl ⟨by rfl, ?_⟩) ?_ ?_
    rotate_left
    · intro w'
      go_simp
      with_reducible rfl
    rotate_left
    · simp only [Act.put, List.setIfInBounds_toArray, List.set_cons_zero, List.set_cons_succ, i64_w, i32_w]; rfl
    refine take_ (i := 7) (N := some 22) (v := ?_) (a' := ?_) #[true, true, true, true, true, true, true, true, true, false, true, false, false, false, true, false, true, false, false, false, false, false, false, false, false] rfl rfl (take_ofW HT_.out HW_.out (by kernel_rfl)) (fun _ _ _ h => h) (Or.inl ⟨by rfl, ?_⟩) hHeld ?_ ?_
    rotate_left
    · rintro w' ⟨s0, s1, s2, s3, s4, s5, s6, s7, s8, s9, s10, s11, s12, s13, s14, s15⟩; go_simp; with_reducible rfl
    rotate_left
    · simp only [Act.put, List.setIfInBounds_toArray, List.set_cons_zero, List.set_cons_succ, i64_w, i32_w]; rfl
    refine take_ (i := 9) (N := some 24) (v := ?_) (a' := ?_) #[true, true, true, true, true, true, true, true, true, true, true, false, false, false, true, false, true, false, false, false, false, false, false, false, false] rfl rfl (take_ofW HT_.out HW_.out (by kernel_rfl)) (fun _ _ _ h => h) (Or.inl ⟨by rfl, ?_⟩) hHeld ?_ ?_
    rotate_left
    · rintro w' ⟨s0, s1, s2, s3, s4, s5, s6, s7, s8, s9, s10, s11, s12, s13, s14, s15⟩; go_simp; with_reducible rfl
    rotate_left
    · simp only [Act.put, List.setIfInBounds_toArray, List.set_cons_zero, List.set_cons_succ, i64_w, i32_w]; rfl
    refine pure_ (i := 11) (N := some 26) (v := ?_) (a' := ?_) #[true, true, true, true, true, true, true, true, true, true, true, true, false, false, true, false, true, false, false, false, false, false, false, false, false] rfl rfl (any_of HT_.out (by kernel_rfl)) (fun _ _ _ h => h) (Or.inl ⟨by rfl, ?_⟩) ?_ ?_
    rotate_left
    · intro w'
      go_simp
      with_reducible rfl
    rotate_left
    · simp only [Act.put, List.setIfInBounds_toArray, List.set_cons_zero, List.set_cons_succ, i64_w, i32_w]; rfl
    refine pure_ (i := 12) (N := some 27) (v := ?_) (a' := ?_) #[true, true, true, true, true, true, true, true, true, true, true, true, true, false, true, false, true, false, false, false, false, false, false, false, false] rfl rfl (any_of HT_.out (by kernel_rfl)) (fun _ _ _ h => h) (Or.inl ⟨by rfl, ?_⟩) ?_ ?_
    rotate_left
    · intro w'
      go_simp
      with_reducible rfl
    rotate_left
    · simp only [Act.put, List.setIfInBounds_toArray, List.set_cons_zero, List.set_cons_succ, i64_w, i32_w]; rfl
    refine take_ (i := 13) (N := some 28) (v := ?_) (a' := ?_) #[true, true, true, true, true, true, true, true, true, true, true, true, true, true, true, false, true, false, false, false, false, false, false, false, false] rfl rfl (take_ofW HT_.out HW_.out (by kernel_rfl)) (fun _ _ _ h => h) (Or.inl ⟨by rfl, ?_⟩) hHeld ?_ ?_
    rotate_left
    · rintro w' ⟨s0, s1, s2, s3, s4, s5, s6, s7, s8, s9, s10, s11, s12, s13, s14, s15⟩; go_simp; with_reducible rfl
    rotate_left
    · simp only [Act.put, List.setIfInBounds_toArray, List.set_cons_zero, List.set_cons_succ, i64_w, i32_w]; rfl
    refine take_ (i := 15) (N := some 30) (v := ?_) (a' := ?_) #[true, true, true, true, true, true, true, true, true, true, true, true, true, true, true, true, true, false, false, false, false, false, false, false, false] rfl rfl (take_ofW HT_.out HW_.out (by kernel_rfl)) (fun _ _ _ h => h) (Or.inl ⟨by rfl, ?_⟩) hHeld ?_ ?_
    rotate_left
    · rintro w' ⟨s0, s1, s2, s3, s4, s5, s6, s7, s8, s9, s10, s11, s12, s13, s14, s15⟩; go_simp; with_reducible rfl
    rotate_left
    · simp only [Act.put, List.setIfInBounds_toArray, List.set_cons_zero, List.set_cons_succ, i64_w, i32_w]; rfl
    refine pure_ (i := 17) (N := some 32) (v := ?_) (a' := ?_) #[true, true, true, true, true, true, true, true, true, true, true, true, true, true, true, true, true, true, false, false, false, false, false, false, false] rfl rfl (any_of HT_.out (by kernel_rfl)) (fun _ _ _ h => h) (Or.inl ⟨by rfl, ?_⟩) ?_ ?_
    rotate_left
    · intro w'
      go_simp
      with_reducible rfl
    rotate_left
    · simp only [Act.put, List.setIfInBounds_toArray, List.set_cons_zero, List.set_cons_succ, i64_w, i32_w]; rfl
    refine pure_ (i := 18) (N := some 33) (v := ?_) (a' := ?_) #[true, true, true, true, true, true, true, true, true, true, true, true, true, true, true, true, true, true, true, false, false, false, false, false, false] rfl rfl (any_of HT_.out (by kernel_rfl)) (fun _ _ _ h => h) (Or.inl ⟨by rfl, ?_⟩) ?_ ?_
    rotate_left
    · intro w'
      go_simp
      with_reducible rfl
    rotate_left
    · simp only [Act.put, List.setIfInBounds_toArray, List.set_cons_zero, List.set_cons_succ, i64_w, i32_w]; rfl
    refine take_ (i := 19) (N := some 34) (v := ?_) (a' := ?_) #[true, true, true, true, true, true, true, true, true, true, true, true, true, true, true, true, true, true, true, true, false, false, false, false, false] rfl rfl (take_ofW HT_.out HW_.out (by kernel_rfl)) (fun _ _ _ h => h) (Or.inl ⟨by rfl, ?_⟩) hHeld ?_ ?_
    rotate_left
    · rintro w' ⟨s0, s1, s2, s3, s4, s5, s6, s7, s8, s9, s10, s11, s12, s13, s14, s15⟩; go_simp; with_reducible rfl
    rotate_left
    · simp only [Act.put, List.setIfInBounds_toArray, List.set_cons_zero, List.set_cons_succ, i64_w, i32_w]; rfl
    refine pure_ (i := 20) (N := some 35) (v := ?_) (a' := ?_) #[true, true, true, true, true, true, true, true, true, true, true, true, true, true, true, true, true, true, true, true, true, false, false, false, false] rfl rfl (any_of HT_.out (by kernel_rfl)) (fun _ _ _ h => h) (Or.inl ⟨by rfl, ?_⟩) ?_ ?_
    rotate_left
    · intro w'
      go_simp
      with_reducible rfl
    rotate_left
    · simp only [Act.put, List.setIfInBounds_toArray, List.set_cons_zero, List.set_cons_succ, i64_w, i32_w]; rfl
    refine one_ (i := 21) (N := some 36) #[true, true, true, true, true, true, true, true, true, true, true, true, true, true, true, true, true, true, true, true, true, true, false, false, false] rfl rfl (one_of HT_.out (by kernel_rfl)) (by decide) (fun K hK => ?_)
    refine value_ (w1 := ?_) (v := ?_) (by rfl) rfl ?_ ?_
    rotate_left 2
    · go_simp
      constructor
      · rfl
      rfl
    refine hK.out _ _ ⟨(blk_cell (blk_alloc BK204.out _) 0).trans rfl, (blk_cell (blk_alloc BK204.out _) 1).trans rfl, (blk_cell (blk_alloc BK202.out _) 0).trans rfl, (blk_cell (blk_alloc BK202.out _) 1).trans rfl, (World.cell?_alloc_lt _ _ _ (World.block_lt_of_cell? _ _ (((HB.out.cell (World.block_lt_of_cell? w _ hw205_0)).trans hw205_0)))).trans (((HB.out.cell (World.block_lt_of_cell? w _ hw205_0)).trans hw205_0)), (World.cell?_alloc_lt _ _ _ (World.block_lt_of_cell? _ _ (((HB.out.cell (World.block_lt_of_cell? w _ hw205_1)).trans hw205_1)))).trans (((HB.out.cell (World.block_lt_of_cell? w _ hw205_1)).trans hw205_1)), (World.cell?_alloc_lt _ _ _ (World.block_lt_of_cell? _ _ (((HB.out.cell (World.block_lt_of_cell? w _ hw205_2)).trans hw205_2)))).trans (((HB.out.cell (World.block_lt_of_cell? w _ hw205_2)).trans hw205_2)), (World.cell?_alloc_lt _ _ _ (World.block_lt_of_cell? _ _ (((HB.out.cell (World.block_lt_of_cell? w _ hw205_3)).trans hw205_3)))).trans (((HB.out.cell (World.block_lt_of_cell? w _ hw205_3)).trans hw205_3)), (World.cell?_alloc_lt _ _ _ (World.block_lt_of_cell? _ _ (((HB.out.cell (World.block_lt_of_cell? w _ hw206_0)).trans hw206_0)))).trans (((HB.out.cell (World.block_lt_of_cell? w _ hw206_0)).trans hw206_0)), (World.cell?_alloc_lt _ _ _ (World.block_lt_of_cell? _ _ (((HB.out.cell (World.block_lt_of_cell? w _ hw206_1)).trans hw206_1)))).trans (((HB.out.cell (World.block_lt_of_cell? w _ hw206_1)).trans hw206_1)), (World.cell?_alloc_lt _ _ _ (World.block_lt_of_cell? _ _ (((HB.out.cell (World.block_lt_of_cell? w _ hw206_2)).trans hw206_2)))).trans (((HB.out.cell (World.block_lt_of_cell? w _ hw206_2)).trans hw206_2)), (World.cell?_alloc_lt _ _ _ (World.block_lt_of_cell? _ _ (((HB.out.cell (World.block_lt_of_cell? w _ hw206_3)).trans hw206_3)))).trans (((HB.out.cell (World.block_lt_of_cell? w _ hw206_3)).trans hw206_3)), (World.cell?_alloc_lt _ _ _ (World.block_lt_of_cell? _ _ (((HB.out.cell (World.block_lt_of_cell? w _ hw207_0)).trans hw207_0)))).trans (((HB.out.cell (World.block_lt_of_cell? w _ hw207_0)).trans hw207_0)), (World.cell?_alloc_lt _ _ _ (World.block_lt_of_cell? _ _ (((HB.out.cell (World.block_lt_of_cell? w _ hw207_1)).trans hw207_1)))).trans (((HB.out.cell (World.block_lt_of_cell? w _ hw207_1)).trans hw207_1)), (World.cell?_alloc_lt _ _ _ (World.block_lt_of_cell? _ _ (((HB.out.cell (World.block_lt_of_cell? w _ hw207_2)).trans hw207_2)))).trans (((HB.out.cell (World.block_lt_of_cell? w _ hw207_2)).trans hw207_2)), (World.cell?_alloc_lt _ _ _ (World.block_lt_of_cell? _ _ (((HB.out.cell (World.block_lt_of_cell? w _ hw207_3)).trans hw207_3)))).trans (((HB.out.cell (World.block_lt_of_cell? w _ hw207_3)).trans hw207_3))⟩ (fun hHeld => ?_)
    clear hK K
    refine norm_ (a' := ?_) ?_ ?_
    rotate_left
    · show Act.put _ (some 36) _ = _; simp only [Act.put, List.setIfInBounds_toArray, List.set_cons_zero, List.set_cons_succ, i64_w, i32_w]; rfl
    refine one_ (i := 22) (N := some 37) #[true, true, true, true, true, true, true, true, true, true, true, true, true, true, true, true, true, true, true, true, true, true, true, false, false] rfl rfl (one_of HT_.out (by kernel_rfl)) (by decide) (fun K hK => ?_)
    refine Kd.R_append_step k30 (w0 := w) w.heap.size (by rfl) (.tmp 16) (.tmp 36) 33 30 (.agg #[(.string ⟨#[]⟩), (.string ⟨#[]⟩), (.int .i64 0), (.int .i64 0)]) 48 rfl Try.underlying33 info30 rfl (by decide) (by omega) u205001 x205001_1 (⟨(⟨(rd_T38 l0_1 x4_1).f0.f0, (rd_T38 l0_1 x4_1).f0.f1⟩ : S28), (rd_T38 l0_1 x4_1).f1, (rd_T38 l0_1 x4_1).f2⟩ : S30) [.string ((rd_T38 l0_1 x4_1).f0.f0), .string ((rd_T38 l0_1 x4_1).f0.f1), .int .i64 ((rd_T38 l0_1 x4_1).f1), .int .i64 ((rd_T38 l0_1 x4_1).f2)] (fun _ => True) (fun _ => False) rfl rfl ?aP (fun _ hk => hk.elim) ?aF ?aO ?aB ?aS ?aL ?_
    (case aP => exact k30_mkM _ _ _ (⟨(⟨(rd_T38 l0_1 x4_1).f0.f0, (rd_T38 l0_1 x4_1).f0.f1⟩ : S28), (rd_T38 l0_1 x4_1).f1, (rd_T38 l0_1 x4_1).f2⟩ : S30))
    (case aB => exact (pB HB.out))
    (case aF => exact (fun _ _ => trivial))
    (case aO => exact (pR HO_205001.out))
    (case aS => exact (below_size (pB HB.out)))
    (case aL => have := LMc12.out; omega)
    intro v209 w17 ho hb hg hat
    rw [← Ny208.out] at ho
    have HO210 := Aside0.mk (ho)
    replace BK202 := Aside0.mk (blk_grown (g := gb202) (o := .cells #[.int .i64 a0_0, .slice (some ad205) l0_1.length c0_1] 24 (0, 0)) (pb BK202.out) hg (Kd.R_ne HO_205001.out BK202.out (by decide)))
    replace BK203 := Aside0.mk (blk_grown (g := gb203) (o := .cells #[.int .i64 0, .slice none 0 0] 35 (0, 0)) (pb BK203.out) hg (Kd.R_ne HO_205001.out BK203.out (by decide)))
    replace BK204 := Aside0.mk (blk_grown (g := gb204) (o := .cells #[.int .i64 a0_0, u205001] 35 (0, 0)) (pb BK204.out) hg (Kd.R_ne HO_205001.out BK204.out (by decide)))
    replace HB := Aside0.mk (hb)
    clear HO_205001
    clear ho hb hg hat
    obtain ⟨Ao18, co18, eo18⟩ := Kd.R_slice HO210.out
    (first | subst eo18 | (injection eo18 with f1_ f2_ f3_; have f4_ := f1_.symm; have f5_ := f3_.symm; clear f1_ f2_ f3_; subst f4_; subst f5_))
    refine hK.out _ _ ⟨blk_cell BK204.out 0, blk_cell BK204.out 1, blk_cell BK202.out 0, blk_cell BK202.out 1, ((HB.out.cell (World.block_lt_of_cell? w _ hw205_0)).trans hw205_0), ((HB.out.cell (World.block_lt_of_cell? w _ hw205_1)).trans hw205_1), ((HB.out.cell (World.block_lt_of_cell? w _ hw205_2)).trans hw205_2), ((HB.out.cell (World.block_lt_of_cell? w _ hw205_3)).trans hw205_3), ((HB.out.cell (World.block_lt_of_cell? w _ hw206_0)).trans hw206_0), ((HB.out.cell (World.block_lt_of_cell? w _ hw206_1)).trans hw206_1), ((HB.out.cell (World.block_lt_of_cell? w _ hw206_2)).trans hw206_2), ((HB.out.cell (World.block_lt_of_cell? w _ hw206_3)).trans hw206_3), ((HB.out.cell (World.block_lt_of_cell? w _ hw207_0)).trans hw207_0), ((HB.out.cell (World.block_lt_of_cell? w _ hw207_1)).trans hw207_1), ((HB.out.cell (World.block_lt_of_cell? w _ hw207_2)).trans hw207_2), ((HB.out.cell (World.block_lt_of_cell? w _ hw207_3)).trans hw207_3)⟩ (fun hHeld => ?_)
    clear hK K
    refine norm_ (a' := ?_) ?_ ?_
    rotate_left
    · show Act.put _ (some 37) _ = _; simp only [Act.put, List.setIfInBounds_toArray, List.set_cons_zero, List.set_cons_succ, i64_w, i32_w]; rfl
    refine pure_ (i := 23) (N := some 38) (v := ?_) (a' := ?_) #[true, true, true, true, true, true, true, true, true, true, true, true, true, true, true, true, true, true, true, true, true, true, true, true, false] rfl rfl (any_of HT_.out (by kernel_rfl)) (fun _ _ _ h => h) (Or.inl ⟨by rfl, ?_⟩) ?_ ?_
    rotate_left
    · intro w'
      go_simp
      with_reducible rfl
    rotate_left
    · simp only [Act.put, List.setIfInBounds_toArray, List.set_cons_zero, List.set_cons_succ, i64_w, i32_w]; rfl
    refine last_ (i := 24) (N := none) #[true, true, true, true, true, true, true, true, true, true, true, true, true, true, true, true, true, true, true, true, true, true, true, true, true] rfl rfl (one_of HT_.out (by kernel_rfl)) (by decide) (fun K hK => ?_)
    have hs19 : w17.cell? ⟨gb204, 1, none⟩ = some (u205001) := blk_cell BK204.out 1
    have hfs19 := blk_frozen BK204.out 1
    have hns19_0 := NB202_204.out
    have hns19_1 := NB203_204.out
    have hms19_0 := NB204_202.out
    have hms19_1 := NB204_203.out
    refine skip_ (w1 := ?_) (by rfl) rfl ?_ ?_
    rotate_left
    · go_simp; rfl
    refine hK.out _ _ ?_
    clear hK K
    refine done_ (done_of HT_.out (by kernel_rfl)) ?_
    try go_wp2
    go_roundg k1
    case measure => have := HK1.out; omega
    case rel => exact ⟨(wrap64 (x4_1 + 1)), (y208), (.slice Ao18 y208.length co18), (by first | rfl | (simp; done) | (simp [*]; done)), H', ⟨by have := HK1.out; omega⟩, ⟨by (with_reducible repeat (first | apply Kd.R_alloc | apply Kd.R_drewN | apply Kd.R_drew)); exact Kd.R_mono (Kd.R_far (p := ⟨gb204, 1, none⟩) (Kd.R_types HO210.out BK204.out (by decide)) (fun _ hk => hk.2) (.slice Ao18 y208.length co18)) (fun _ hk => trivial)⟩, ⟨by (with_reducible repeat (first | refine blk_drewN ?_ _ | refine blk_drew ?_ | refine blk_alloc ?_ _)); refine blk_far ?_ NB202_204.out _; (with_reducible repeat (first | refine blk_drewN ?_ _ | refine blk_drew ?_ | refine blk_alloc ?_ _)); exact BK202.out⟩, ⟨by (with_reducible repeat (first | refine blk_drewN ?_ _ | refine blk_drew ?_ | refine blk_alloc ?_ _)); refine blk_far ?_ NB203_204.out _; (with_reducible repeat (first | refine blk_drewN ?_ _ | refine blk_drew ?_ | refine blk_alloc ?_ _)); exact BK203.out⟩, ⟨by (with_reducible repeat (first | refine blk_drewN ?_ _ | refine blk_drew ?_ | refine blk_alloc ?_ _)); refine blk_put (cs := #[.int .i64 a0_0, u205001]) ?_ 1 _ rfl; (with_reducible repeat (first | refine blk_drewN ?_ _ | refine blk_drew ?_ | refine blk_alloc ?_ _)); exact BK204.out⟩, ⟨by repeat (first | (with_reducible first | exact HB.out | apply below_alloc | apply pw_below_drewN | apply below_drew1 | refine below_set ?_ GE202.out | refine below_set ?_ GE203.out | refine below_set ?_ GE204.out) | exact HB.out)⟩⟩
/-! ### gazetteerref5_Empty: function 83 -/
def gazetteerref5_Empty.f (a0_0 : ByteArray) (a0_1 : ByteArray) : Option (Bool) := if a0_1.toList = ([] : List UInt8) then (some false) else (some (!(Op.bytesLess a0_0.toList a0_1.toList)))
set_option maxHeartbeats 8000000 in
set_option maxRecDepth 100000 in
theorem gazetteerref5_Empty.calls (a0_0 : ByteArray) (a0_1 : ByteArray) (r : Bool) (w : World) (h : gazetteerref5_Empty.f a0_0 a0_1 = some r) :
    Calls Try.prog 83 #[.agg #[.string a0_0, .string a0_1]] w fun e w' => e = .returned (.bool r) ∧ Below w.heap.size w w' := by
  have hu28 := Try.underlying28
  have HB := Aside0.mk (Below.refl w.heap.size w)
  have H : (if a0_1.toList = ([] : List UInt8) then (some false) else (some (!(Op.bytesLess a0_0.toList a0_1.toList)))) = some r := h
  clear h
  by_cases c2 : a0_1.toList = ([] : List UInt8)
  rotate_left
  ·
   rw [if_neg c2] at H
   have c2b0 : (a0_1.toList == ([] : List UInt8)) = false := beq_eq_false_iff_ne.mpr c2
   have c2b1 : (a0_1.toList != ([] : List UInt8)) = true := bne_iff_ne.mpr c2
   obtain rfl := Option.some.inj H
   go_enter Try.func83, Try.ntmps83
   go_wp2_with (first | ((with_reducible refine gate_dst (N := 1) rfl ?_); refine box_event ?hg (N := 1) ?hd (cs := #[.string a0_0, .string a0_1]) (t := 28) ?hr ?_; (case hd => rfl); (case hg => rfl); (case hr => first | (go_simp; done) | (go_simp; rfl)); intro gb211 hg w5 hbox hb; have BK211 := Aside0.mk (hbox); have GW211 := geL hg HB.out; have GE211 := geL hg HB.out; replace HB := Aside0.mk (below_step (pB HB.out) hb); clear hb hbox hg; have hcz6_0 : w5.cell? ⟨gb211, 0, none⟩ = some (.string a0_0) := blk_cell BK211.out 0; have hcz6_1 : w5.cell? ⟨gb211, 1, none⟩ = some (.string a0_1) := blk_cell BK211.out 1; have hfz6_0 := blk_frozen BK211.out 0; have hfz6_1 := blk_frozen BK211.out 1))
   go_ret
   exact ⟨by first | rfl | (simp [errW_none, errW_some] <;> rfl) | (simp [*, errW_none, errW_some] <;> rfl), by repeat (first | (with_reducible first | exact HB.out | apply below_alloc | apply pw_below_drewN | apply below_drew1 | refine below_set ?_ GE211.out) | exact HB.out)⟩
  rw [if_pos c2] at H
  have c2b0 : (a0_1.toList == ([] : List UInt8)) = true := beq_iff_eq.mpr c2
  have c2b1 : (a0_1.toList != ([] : List UInt8)) = false := bne_eq_false_iff_eq.mpr c2
  clear c2
  obtain rfl := Option.some.inj H
  go_enter Try.func83, Try.ntmps83
  go_wp2_with (first | ((with_reducible refine gate_dst (N := 1) rfl ?_); refine box_event ?hg (N := 1) ?hd (cs := #[.string a0_0, .string a0_1]) (t := 28) ?hr ?_; (case hd => rfl); (case hg => rfl); (case hr => first | (go_simp; done) | (go_simp; rfl)); intro gb211 hg w3 hbox hb; have BK211 := Aside0.mk (hbox); have GW211 := geL hg HB.out; have GE211 := geL hg HB.out; replace HB := Aside0.mk (below_step (pB HB.out) hb); clear hb hbox hg; have hcz4_0 : w3.cell? ⟨gb211, 0, none⟩ = some (.string a0_0) := blk_cell BK211.out 0; have hcz4_1 : w3.cell? ⟨gb211, 1, none⟩ = some (.string a0_1) := blk_cell BK211.out 1; have hfz4_0 := blk_frozen BK211.out 0; have hfz4_1 := blk_frozen BK211.out 1))
  go_ret
  exact ⟨by first | rfl | (simp [errW_none, errW_some] <;> rfl) | (simp [*, errW_none, errW_some] <;> rfl), by repeat (first | (with_reducible first | exact HB.out | apply below_alloc | apply pw_below_drewN | apply below_drew1 | refine below_set ?_ GE211.out) | exact HB.out)⟩
end Go.Proofs.Ytbajekndbamcmaa.PAtlasBack

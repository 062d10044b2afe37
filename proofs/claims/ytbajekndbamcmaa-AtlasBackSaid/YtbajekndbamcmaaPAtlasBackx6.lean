-- printed by a program of this session (wip/tools), a turned form of the kit's print
import Derived.Test.YtbajekndbamcmaaWPeel
import Derived.Test.YtbajekndbamcmaaPAtlasBackx0
import Derived.Test.YtbajekndbamcmaaPAtlasBackx5
namespace Go.Proofs.Ytbajekndbamcmaa.PAtlasBack
open Go.RowKit Go.Proofs.YtbajekndbamcmaaW.PrintWords Go.Proofs.YtbajekndbamcmaaW.PrintLast Go.Proofs.YtbajekndbamcmaaW.PrintMore
attribute [local go_sem] max2_int min2_int max_two min_two max_three min_three max_four min_four max2_str min2_str str_geq str_leq str_gtr   -- for this text's walks alone
set_option linter.unusedVariables false
set_option linter.unusedSimpArgs false

/-! ### gazetteerref5_AtlasMay: function 16 -/
mutual
def gazetteerref5_AtlasMay.j0 : Nat → Int → Bool → Int → List (S38) → Option (Bool)
  | 0, _, _, _, _ => none
  | k + 1, x1, x30, x220000, x220001 => if x30 = true then (some false) else (gazetteerref5_AtlasMay.l0 k x1 ([] : List (S28)) 0 x220000 x220001)
def gazetteerref5_AtlasMay.l0 : Nat → Int → List (S28) → Int → Int → List (S38) → Option (Bool)
  | 0, _, _, _, _, _ => none
  | k + 1, x1, x5, x6, x220000, x220001 => if x6 < (x220001.length : Int) then (if 0 ≤ x6 then (if ((rd_T38 x220001 x6).f1) < 1 then (some false) else (if ((rd_T38 x220001 x6).f1) > x1 then (some false) else (if ((rd_T38 x220001 x6).f2) < 1 then (some false) else (if ((rd_T38 x220001 x6).f2) > x220000 then (some false) else (if x5.length < 4398046511104 then (gazetteerref5_AtlasMay.l0 k x1 (x5 ++ [(⟨(rd_T38 x220001 x6).f0.f0, (rd_T38 x220001 x6).f0.f1⟩ : S28)]) (wrap64 (x6 + 1)) x220000 x220001) else (none)))))) else (none)) else ((gazetteerref5_Whole.f k x5).bind fun t225 => (some t225))
end
def gazetteerref5_AtlasMay.f (k : Nat) (a0_0 : Int) (l0_1 : List (S38)) (a1 : Int) : Option (Bool) := if a1 < 1 then (gazetteerref5_AtlasMay.j0 k a1 true a0_0 l0_1) else (if a1 > 5 then (gazetteerref5_AtlasMay.j0 k a1 true a0_0 l0_1) else (if (l0_1.length : Int) < 1 then (gazetteerref5_AtlasMay.j0 k a1 true a0_0 l0_1) else (if (l0_1.length : Int) > 12 then (gazetteerref5_AtlasMay.j0 k a1 true a0_0 l0_1) else (gazetteerref5_AtlasMay.j0 k a1 (decide (a0_0 < 1)) a0_0 l0_1))))
theorem gazetteerref5_AtlasMay.mono_l : ∀ k, (∀ y0 y1 y2 y3, LeO (gazetteerref5_AtlasMay.j0 k y0 y1 y2 y3) (gazetteerref5_AtlasMay.j0 (k + 1) y0 y1 y2 y3)) ∧ (∀ y0 y1 y2 y3 y4, LeO (gazetteerref5_AtlasMay.l0 k y0 y1 y2 y3 y4) (gazetteerref5_AtlasMay.l0 (k + 1) y0 y1 y2 y3 y4))
  | 0 => ⟨fun _ _ _ _ r h => by simp [gazetteerref5_AtlasMay.j0] at h, fun _ _ _ _ _ r h => by simp [gazetteerref5_AtlasMay.l0] at h⟩
  | k + 1 => by
    obtain ⟨ih0, ih1⟩ := gazetteerref5_AtlasMay.mono_l k
    refine ⟨?_, ?_⟩
    · intro y0 y1 y2 y3
      unfold gazetteerref5_AtlasMay.j0
      repeat' first
      | (with_reducible exact ih0 _ _ _ _)
      | (with_reducible exact ih1 _ _ _ _ _)
      | (with_reducible exact gazetteerref5_Whole.mono _ _)
      | (with_reducible exact LeO.refl _)
      | (with_reducible exact LeO.none _)
      | (with_reducible refine LeO.ite ?_ ?_)
      | (with_reducible refine LeO.bind ?_ (fun _ => ?_))
      | exact ih0 _ _ _ _
      | exact ih1 _ _ _ _ _
      | exact gazetteerref5_Whole.mono _ _
      | exact LeO.none _
      | refine LeO.ite ?_ ?_
      | refine LeO.bind ?_ (fun _ => ?_)
    · intro y0 y1 y2 y3 y4
      unfold gazetteerref5_AtlasMay.l0
      repeat' first
      | (with_reducible exact ih0 _ _ _ _)
      | (with_reducible exact ih1 _ _ _ _ _)
      | (with_reducible exact gazetteerref5_Whole.mono _ _)
      | (with_reducible exact LeO.refl _)
      | (with_reducible exact LeO.none _)
      | (with_reducible refine LeO.ite ?_ ?_)
      | (with_reducible refine LeO.bind ?_ (fun _ => ?_))
      | exact ih0 _ _ _ _
      | exact ih1 _ _ _ _ _
      | exact gazetteerref5_Whole.mono _ _
      | exact LeO.none _
      | refine LeO.ite ?_ ?_
      | refine LeO.bind ?_ (fun _ => ?_)
theorem gazetteerref5_AtlasMay.mono : ∀ a0 a1 a2 k, LeO (gazetteerref5_AtlasMay.f k a0 a1 a2) (gazetteerref5_AtlasMay.f (k + 1) a0 a1 a2) := by
  intro a0 a1 a2 k
  obtain ⟨ih0, ih1⟩ := gazetteerref5_AtlasMay.mono_l k
  unfold gazetteerref5_AtlasMay.f
  repeat' first
      | (with_reducible exact ih0 _ _ _ _)
      | (with_reducible exact ih1 _ _ _ _ _)
      | (with_reducible exact gazetteerref5_Whole.mono _ _)
      | (with_reducible exact LeO.refl _)
      | (with_reducible exact LeO.none _)
      | (with_reducible refine LeO.ite ?_ ?_)
      | (with_reducible refine LeO.bind ?_ (fun _ => ?_))
      | exact ih0 _ _ _ _
      | exact ih1 _ _ _ _ _
      | exact gazetteerref5_Whole.mono _ _
      | exact LeO.none _
      | refine LeO.ite ?_ ?_
      | refine LeO.bind ?_ (fun _ => ?_)
set_option maxHeartbeats 8000000 in
set_option maxRecDepth 100000 in
theorem gazetteerref5_AtlasMay.calls (k : Nat) (a0_0 : Int) (A0_1 : Option Addr) (c0_1 : Nat) (l0_1 : List (S38)) (a1 : Int) (r : Bool) (w : World) (hr0_1 : Kd.C k38 w A0_1 l0_1.length l0_1) (hc0_1 : l0_1.length ≤ c0_1) (h : gazetteerref5_AtlasMay.f k a0_0 l0_1 a1 = some r) :
    Calls Try.prog 16 #[.agg #[.int .i64 a0_0, .slice A0_1 l0_1.length c0_1], .int .i64 a1] w fun e w' => e = .returned (.bool r) ∧ Below w.heap.size w w' := by
  have hu24 := Try.underlying24
  have hu38 := Try.underlying38
  have hu28 := Try.underlying28
  have HR0_1 := Aside0.mk hr0_1
  have HC0_1 := Aside0.mk hc0_1
  clear hr0_1 hc0_1
  have HB := Aside0.mk (Below.refl w.heap.size w)
  have H : (if a1 < 1 then (gazetteerref5_AtlasMay.j0 k a1 true a0_0 l0_1) else (if a1 > 5 then (gazetteerref5_AtlasMay.j0 k a1 true a0_0 l0_1) else (if (l0_1.length : Int) < 1 then (gazetteerref5_AtlasMay.j0 k a1 true a0_0 l0_1) else (if (l0_1.length : Int) > 12 then (gazetteerref5_AtlasMay.j0 k a1 true a0_0 l0_1) else (gazetteerref5_AtlasMay.j0 k a1 (decide (a0_0 < 1)) a0_0 l0_1))))) = some r := h
  clear h
  have HC3 := Aside0.mk H
  clear H
  go_enter Try.func16, Try.ntmps16
  go_upto_region 1 with (first | ((with_reducible refine gate_dst (N := 2) rfl ?_); (try (refine gate_guard (by rfl) ?_; dsimp only)); refine box_event ?hg (N := 2) ?hd (cs := #[.int .i64 a0_0, .slice A0_1 l0_1.length c0_1]) (t := 24) ?hr ?_; (case hd => rfl); (case hg => rfl); (case hr => first | (go_simp; done) | (go_simp; rfl)); intro gb219 hg w4 hbox hb; have BK219 := Aside0.mk (hbox); have GW219 := geL hg HB.out; have GE219 := geL hg HB.out; replace HB := Aside0.mk (below_step (pB HB.out) hb); clear hb hbox hg))
  (try simp only [Act.put, List.setIfInBounds_toArray, List.set_cons_zero, List.set_cons_succ])
  go_cut [30] (fun v30 wc => ∃ (kq : Nat) (x30_2 : Bool), v30 = .bool x30_2 ∧ Aside0 (gazetteerref5_AtlasMay.j0 kq a1 x30_2 a0_0 l0_1 = some r) ∧ Aside0 (kq ≤ k) ∧ Aside0 (wc.heap[gb219]? = some (.cells #[.int .i64 a0_0, (.slice A0_1 l0_1.length c0_1)] 24 (0, 0))) ∧ Aside0 (Below w.heap.size w wc))
  case first =>
   have H := HC3.out
   clear HC3
   by_cases c5 : a1 < 1
   ·
    rw [if_pos c5] at H
    have c5b0 : decide (a1 < 1) = true := decide_eq_true c5
    clear c5
    (first | rw [c5b0] | (simp only [i64_w, i32_w]; rw [c5b0]) | skip)
    have H' := Aside0.mk H
    clear H
    go_wp2
    go_meet
    case rel => exact ⟨_, (true), (by first | rfl | (simp; done) | (simp [*]; done)), H', ⟨by first | omega | exact Nat.le_refl _⟩, ⟨by (with_reducible repeat (first | refine blk_drewN ?_ _ | refine blk_drew ?_ | refine blk_alloc ?_ _)); exact BK219.out⟩, ⟨by repeat (first | (with_reducible first | exact HB.out | apply below_alloc | apply pw_below_drewN | apply below_drew1 | refine below_set ?_ GE219.out) | exact HB.out)⟩⟩
   rw [if_neg c5] at H
   have c5b0 : decide (a1 < 1) = false := decide_eq_false c5
   clear c5
   (first | rw [c5b0] | (simp only [i64_w, i32_w]; rw [c5b0]) | skip)
   by_cases c6 : a1 > 5
   ·
    rw [if_pos c6] at H
    have c6b0 : decide (5 < a1) = true := decide_eq_true c6
    clear c6
    have H' := Aside0.mk H
    clear H
    go_wp2
    go_meet
    case rel => exact ⟨_, (true), (by first | rfl | (simp; done) | (simp [*]; done)), H', ⟨by first | omega | exact Nat.le_refl _⟩, ⟨by (with_reducible repeat (first | refine blk_drewN ?_ _ | refine blk_drew ?_ | refine blk_alloc ?_ _)); exact BK219.out⟩, ⟨by repeat (first | (with_reducible first | exact HB.out | apply below_alloc | apply pw_below_drewN | apply below_drew1 | refine below_set ?_ GE219.out) | exact HB.out)⟩⟩
   rw [if_neg c6] at H
   have c6b0 : decide (5 < a1) = false := decide_eq_false c6
   clear c6
   by_cases c7 : (l0_1.length : Int) < 1
   ·
    rw [if_pos c7] at H
    have c7b0 : decide ((l0_1.length : Int) < 1) = true := decide_eq_true c7
    have c7b1 : decide (l0_1.length < 1) = true := decide_eq_true (by omega)
    clear c7
    have H' := Aside0.mk H
    clear H
    have hcz8_0 : w4.cell? ⟨gb219, 0, none⟩ = some (.int .i64 a0_0) := blk_cell BK219.out 0
    have hcz8_1 : w4.cell? ⟨gb219, 1, none⟩ = some (.slice A0_1 l0_1.length c0_1) := blk_cell BK219.out 1
    have hfz8_0 := blk_frozen BK219.out 0
    have hfz8_1 := blk_frozen BK219.out 1
    go_wp2
    go_meet
    case rel => exact ⟨_, (true), (by first | rfl | (simp; done) | (simp [*]; done)), H', ⟨by first | omega | exact Nat.le_refl _⟩, ⟨by (with_reducible repeat (first | refine blk_drewN ?_ _ | refine blk_drew ?_ | refine blk_alloc ?_ _)); exact BK219.out⟩, ⟨by repeat (first | (with_reducible first | exact HB.out | apply below_alloc | apply pw_below_drewN | apply below_drew1 | refine below_set ?_ GE219.out) | exact HB.out)⟩⟩
   rw [if_neg c7] at H
   have c7b0 : decide ((l0_1.length : Int) < 1) = false := decide_eq_false c7
   have c7b1 : decide (l0_1.length < 1) = false := decide_eq_false (by omega)
   clear c7
   by_cases c9 : (l0_1.length : Int) > 12
   ·
    rw [if_pos c9] at H
    have c9b0 : decide (12 < (l0_1.length : Int)) = true := decide_eq_true c9
    have c9b1 : decide (12 < l0_1.length) = true := decide_eq_true (by omega)
    clear c9
    have H' := Aside0.mk H
    clear H
    have hcz10_0 : w4.cell? ⟨gb219, 0, none⟩ = some (.int .i64 a0_0) := blk_cell BK219.out 0
    have hcz10_1 : w4.cell? ⟨gb219, 1, none⟩ = some (.slice A0_1 l0_1.length c0_1) := blk_cell BK219.out 1
    have hfz10_0 := blk_frozen BK219.out 0
    have hfz10_1 := blk_frozen BK219.out 1
    go_wp2
    go_meet
    case rel => exact ⟨_, (true), (by first | rfl | (simp; done) | (simp [*]; done)), H', ⟨by first | omega | exact Nat.le_refl _⟩, ⟨by (with_reducible repeat (first | refine blk_drewN ?_ _ | refine blk_drew ?_ | refine blk_alloc ?_ _)); exact BK219.out⟩, ⟨by repeat (first | (with_reducible first | exact HB.out | apply below_alloc | apply pw_below_drewN | apply below_drew1 | refine below_set ?_ GE219.out) | exact HB.out)⟩⟩
   rw [if_neg c9] at H
   have c9b0 : decide (12 < (l0_1.length : Int)) = false := decide_eq_false c9
   have c9b1 : decide (12 < l0_1.length) = false := decide_eq_false (by omega)
   clear c9
   have H' := Aside0.mk H
   clear H
   have hcz11_0 : w4.cell? ⟨gb219, 0, none⟩ = some (.int .i64 a0_0) := blk_cell BK219.out 0
   have hcz11_1 : w4.cell? ⟨gb219, 1, none⟩ = some (.slice A0_1 l0_1.length c0_1) := blk_cell BK219.out 1
   have hfz11_0 := blk_frozen BK219.out 0
   have hfz11_1 := blk_frozen BK219.out 1
   go_wp2
   go_meet
   case rel => exact ⟨_, (decide (a0_0 < 1)), (by first | rfl | (simp; done) | (simp [*]; done)), H', ⟨by first | omega | exact Nat.le_refl _⟩, ⟨by (with_reducible repeat (first | refine blk_drewN ?_ _ | refine blk_drew ?_ | refine blk_alloc ?_ _)); exact BK219.out⟩, ⟨by repeat (first | (with_reducible first | exact HB.out | apply below_alloc | apply pw_below_drewN | apply below_drew1 | refine below_set ?_ GE219.out) | exact HB.out)⟩⟩
  case rest =>
   clear HC3
   try clear c1
   try clear p2
   try clear c5
   try clear c5b0
   try clear c6
   try clear c6b0
   try clear c7
   try clear c7b0
   try clear c7b1
   try clear c9
   try clear c9b0
   try clear c9b1
   try clear hcz10_0
   try clear hcz10_1
   try clear hcz11_0
   try clear hcz11_1
   try clear hcz8_0
   try clear hcz8_1
   try clear hfz10_0
   try clear hfz10_1
   try clear hfz11_0
   try clear hfz11_1
   try clear hfz8_0
   try clear hfz8_1
   obtain ⟨kq, x30_2, rfl, HA, HJ2, BK219, HB⟩ := hcut
   cases kq with
   | zero => exact absurd HA.out (by simp [gazetteerref5_AtlasMay.j0])
   | succ kj2 =>
    have H := HA.out
    clear HA
    simp only [gazetteerref5_AtlasMay.j0] at H
    by_cases c12 : x30_2 = true
    ·
     subst c12
     have H1 : (some false) = some r := by rw [if_pos rfl] at H; exact H
     clear H
     have H := H1
     clear H1
     obtain rfl := Option.some.inj H
     go_wp2
     go_ret
     exact ⟨by first | rfl | (simp [errW_none, errW_some] <;> rfl) | (simp [*, errW_none, errW_some] <;> rfl), by repeat (first | (with_reducible first | exact HB.out | apply below_alloc | apply pw_below_drewN | apply below_drew1 | refine below_set ?_ GE219.out) | exact HB.out)⟩
    replace c12 := Bool.eq_false_iff.mpr c12
    subst c12
    have H1 : (gazetteerref5_AtlasMay.l0 kj2 a1 ([] : List (S28)) 0 a0_0 l0_1) = some r := by rw [if_neg (show ¬ (false = true) by decide)] at H; exact H
    clear H
    have H := H1
    clear H1
    have H' := Aside0.mk H
    clear H
    go_wp2
    go_loopg [5, 6] kj2 (fun kq v5 v6 w' => ∃ (x5_2 : List (S28)) (x6_2 : Int), v6 = .int .i64 x6_2 ∧ Aside0 (gazetteerref5_AtlasMay.l0 kq a1 x5_2 x6_2 a0_0 l0_1 = some r) ∧ Aside0 (kq ≤ kj2) ∧ Aside0 (Kd.R k28 28 w' w.heap.size (fun _ => True) v5 x5_2) ∧ Aside0 (w'.heap[gb219]? = some (.cells #[.int .i64 a0_0, (.slice A0_1 l0_1.length c0_1)] 24 (0, 0))) ∧ Aside0 (Below w.heap.size w w'))
    case atStart => exact ⟨(([] : List (S28))), (0), (by first | rfl | (simp; done) | (simp [*]; done)), H', ⟨Nat.le_refl _⟩, ⟨by first | exact Kd.R_nil _ _ _ _ _ | exact Kd.N_nil _ _ _ _ _ | exact Kd.V_nil _ _ _ _ _ | exact Kd.Q_nil _ _ _ _ _ | exact Kd.S_nil _ _ _ _ _⟩, ⟨by (with_reducible repeat (first | refine blk_drewN ?_ _ | refine blk_drew ?_ | refine blk_alloc ?_ _)); exact BK219.out⟩, ⟨by repeat (first | (with_reducible first | exact HB.out | apply below_alloc | apply pw_below_drewN | apply below_drew1 | refine below_set ?_ GE219.out) | exact HB.out)⟩⟩
    case round =>
     clear H'
     try clear c1
     try clear p2
     try clear c5
     try clear c5b0
     try clear c6
     try clear c6b0
     try clear c7
     try clear c7b0
     try clear c7b1
     try clear c9
     try clear c9b0
     try clear c9b1
     try clear c12
     try clear hcz10_0
     try clear hcz10_1
     try clear hcz11_0
     try clear hcz11_1
     try clear hcz8_0
     try clear hcz8_1
     try clear hfz10_0
     try clear hfz10_1
     try clear hfz11_0
     try clear hfz11_1
     try clear hfz8_0
     try clear hfz8_1
     try clear p2
     obtain ⟨x5_2, x6_2, rfl, HA, HK2, HO_5, BK219, HB⟩ := hrel
     cases gk with
     | zero => exact absurd HA.out (by simp [gazetteerref5_AtlasMay.l0])
     | succ k2 =>
      have H := HA.out
      clear HA
      simp only [gazetteerref5_AtlasMay.l0] at H
      by_cases c13 : x6_2 < (l0_1.length : Int)
      rotate_left
      ·
       rw [if_neg c13] at H
       have c13b0 : decide (x6_2 < (l0_1.length : Int)) = false := decide_eq_false c13
       clear c13
       replace H := Option.bind_eq_some_iff.mp H
       obtain ⟨t225, A430, H⟩ := H
       replace H : (some t225) = some r := H
       have A43 := Aside0.mk A430
       clear A430
       obtain rfl := Option.some.inj H
       have hcz44_0 : wr.cell? ⟨gb219, 0, none⟩ = some (.int .i64 a0_0) := blk_cell BK219.out 0
       have hcz44_1 : wr.cell? ⟨gb219, 1, none⟩ = some (.slice A0_1 l0_1.length c0_1) := blk_cell BK219.out 1
       have hfz44_0 := blk_frozen BK219.out 0
       have hfz44_1 := blk_frozen BK219.out 1
       obtain ⟨Ao45, co45, eo45⟩ := Kd.R_slice HO_5.out
       subst eo45
       go_wp2_with (first | ((with_reducible refine gate_callee (f := 54) rfl ?_); refine goesL_ (some 70) rfl rfl Try.func54 (by kernel_rfl) rfl #[.slice Ao45 x5_2.length co45] rfl (by (try simp only [List.map_toArray, List.map_cons, List.map_nil]); first | done | rfl | (simp only [List.length_drop, List.length_take]; done) | (simp only [List.length_drop, List.length_take]; rfl)) ?_; (with_reducible refine (gazetteerref5_Whole.calls k2 _ _ x5_2 t225 _ ?side1 ?side2 A43.out).mono ?_); (case side1 => repeat (first | exact (Kd.R_reads' HO_5.out).2.2 | (with_reducible refine Kd.C_alloc ?_ _) | (with_reducible refine Kd.C_drewN ?_ _) | (with_reducible refine Kd.C_drew ?_))); (case side2 => exact (Kd.R_reads' HO_5.out).2.1); rintro e w46 ⟨rfl, hb⟩; refine ⟨_, rfl, ?_⟩; replace HO_5 := Aside0.mk (Kd.R_below (pR HO_5.out) hb); replace BK219 := Aside0.mk (blk_below BK219.out hb); replace HB := Aside0.mk (below_step (pB HB.out) hb); (try clear hb); (try clear hb2); (try clear hk); (try clear hi)))
       go_ret
       exact ⟨by first | rfl | (simp [errW_none, errW_some] <;> rfl) | (simp [*, errW_none, errW_some] <;> rfl), by repeat (first | (with_reducible first | exact HB.out | apply below_alloc | apply pw_below_drewN | apply below_drew1 | refine below_set ?_ GE219.out) | exact HB.out)⟩
      rw [if_pos c13] at H
      have c13b0 : decide (x6_2 < (l0_1.length : Int)) = true := decide_eq_true c13
      clear c13
      by_cases c14 : 0 ≤ x6_2
      rotate_left
      · rw [if_neg c14] at H
        exact absurd H (by simp)
      rw [if_pos c14] at H
      have c14b0 : decide (0 ≤ x6_2) = true := decide_eq_true c14
      clear c14
      by_cases c15 : ((rd_T38 l0_1 x6_2).f1) < 1
      ·
       rw [if_pos c15] at H
       have c15b0 : decide (((rd_T38 l0_1 x6_2).f1) < 1) = true := decide_eq_true c15
       clear c15
       obtain rfl := Option.some.inj H
       have hcz16_0 : wr.cell? ⟨gb219, 0, none⟩ = some (.int .i64 a0_0) := blk_cell BK219.out 0
       have hcz16_1 : wr.cell? ⟨gb219, 1, none⟩ = some (.slice A0_1 l0_1.length c0_1) := blk_cell BK219.out 1
       have hfz16_0 := blk_frozen BK219.out 0
       have hfz16_1 := blk_frozen BK219.out 1
       have p220 : 0 ≤ (x6_2 : Int) := of_decide_eq_true (by first | (with_reducible assumption) | assumption)
       have q220 : x6_2 < (l0_1.length : Int) := of_decide_eq_true (by first | (with_reducible assumption) | assumption)
       obtain ⟨ad220, e220, hx220_0, hx220_1, hx220_2, hx220_3⟩ := at_T38 HR0_1.out x6_2 p220 q220
       cases e220
       replace hx220_0 := (HB.out.cell (World.block_lt_of_cell? w _ hx220_0)).trans hx220_0
       replace hx220_1 := (HB.out.cell (World.block_lt_of_cell? w _ hx220_1)).trans hx220_1
       replace hx220_2 := (HB.out.cell (World.block_lt_of_cell? w _ hx220_2)).trans hx220_2
       replace hx220_3 := (HB.out.cell (World.block_lt_of_cell? w _ hx220_3)).trans hx220_3
       replace p220 := eq_true p220
       replace q220 := eq_true q220
       go_wp2_with (first | ((with_reducible refine gate_dst (N := 7) rfl ?_); (try (refine gate_guard (by rfl) ?_; dsimp only)); refine box_event ?hg (N := 7) ?hd (cs := #[.string (⟨#[]⟩ : ByteArray), .string (⟨#[]⟩ : ByteArray), .int .i64 0, .int .i64 0]) (t := 38) ?hr ?_; (case hd => rfl); (case hg => rfl); (case hr => first | (go_simp; done) | (go_simp; rfl)); intro gb221 hg w17 hbox hb; have BK221 := Aside0.mk (hbox); have GW221 := geL hg HB.out; have GE221 := geL hg HB.out; have NB219_221 := neL hg BK219.out; have NB221_219 := neG hg BK219.out; replace HO_5 := Aside0.mk (Kd.R_below (pR HO_5.out) hb); replace BK219 := Aside0.mk (blk_below BK219.out hb); replace HB := Aside0.mk (below_step (pB HB.out) hb); clear hb hbox hg; have hnb18 := NB221_219.out; have hnc18 := NB219_221.out; have hcz19_0 : w17.cell? ⟨gb221, 0, none⟩ = some (.string (⟨#[]⟩ : ByteArray)) := blk_cell BK221.out 0; have hcz19_1 : w17.cell? ⟨gb221, 1, none⟩ = some (.string (⟨#[]⟩ : ByteArray)) := blk_cell BK221.out 1; have hcz19_2 : w17.cell? ⟨gb221, 2, none⟩ = some (.int .i64 0) := blk_cell BK221.out 2; have hcz19_3 : w17.cell? ⟨gb221, 3, none⟩ = some (.int .i64 0) := blk_cell BK221.out 3; have hfz19_0 := blk_frozen BK221.out 0; have hfz19_1 := blk_frozen BK221.out 1; have hfz19_2 := blk_frozen BK221.out 2; have hfz19_3 := blk_frozen BK221.out 3))
       go_ret
       exact ⟨by first | rfl | (simp [errW_none, errW_some] <;> rfl) | (simp [*, errW_none, errW_some] <;> rfl), by repeat (first | (with_reducible first | exact HB.out | apply below_alloc | apply pw_below_drewN | apply below_drew1 | refine below_set ?_ GE219.out | refine below_set ?_ GE221.out) | exact HB.out)⟩
      rw [if_neg c15] at H
      have c15b0 : decide (((rd_T38 l0_1 x6_2).f1) < 1) = false := decide_eq_false c15
      clear c15
      by_cases c20 : ((rd_T38 l0_1 x6_2).f1) > a1
      ·
       rw [if_pos c20] at H
       have c20b0 : decide (a1 < ((rd_T38 l0_1 x6_2).f1)) = true := decide_eq_true c20
       clear c20
       obtain rfl := Option.some.inj H
       have hcz21_0 : wr.cell? ⟨gb219, 0, none⟩ = some (.int .i64 a0_0) := blk_cell BK219.out 0
       have hcz21_1 : wr.cell? ⟨gb219, 1, none⟩ = some (.slice A0_1 l0_1.length c0_1) := blk_cell BK219.out 1
       have hfz21_0 := blk_frozen BK219.out 0
       have hfz21_1 := blk_frozen BK219.out 1
       have p220 : 0 ≤ (x6_2 : Int) := of_decide_eq_true (by first | (with_reducible assumption) | assumption)
       have q220 : x6_2 < (l0_1.length : Int) := of_decide_eq_true (by first | (with_reducible assumption) | assumption)
       obtain ⟨ad220, e220, hx220_0, hx220_1, hx220_2, hx220_3⟩ := at_T38 HR0_1.out x6_2 p220 q220
       cases e220
       replace hx220_0 := (HB.out.cell (World.block_lt_of_cell? w _ hx220_0)).trans hx220_0
       replace hx220_1 := (HB.out.cell (World.block_lt_of_cell? w _ hx220_1)).trans hx220_1
       replace hx220_2 := (HB.out.cell (World.block_lt_of_cell? w _ hx220_2)).trans hx220_2
       replace hx220_3 := (HB.out.cell (World.block_lt_of_cell? w _ hx220_3)).trans hx220_3
       replace p220 := eq_true p220
       replace q220 := eq_true q220
       go_wp2_with (first | ((with_reducible refine gate_dst (N := 7) rfl ?_); (try (refine gate_guard (by rfl) ?_; dsimp only)); refine box_event ?hg (N := 7) ?hd (cs := #[.string (⟨#[]⟩ : ByteArray), .string (⟨#[]⟩ : ByteArray), .int .i64 0, .int .i64 0]) (t := 38) ?hr ?_; (case hd => rfl); (case hg => rfl); (case hr => first | (go_simp; done) | (go_simp; rfl)); intro gb221 hg w22 hbox hb; have BK221 := Aside0.mk (hbox); have GW221 := geL hg HB.out; have GE221 := geL hg HB.out; have NB219_221 := neL hg BK219.out; have NB221_219 := neG hg BK219.out; replace HO_5 := Aside0.mk (Kd.R_below (pR HO_5.out) hb); replace BK219 := Aside0.mk (blk_below BK219.out hb); replace HB := Aside0.mk (below_step (pB HB.out) hb); clear hb hbox hg; have hnb23 := NB221_219.out; have hnc23 := NB219_221.out; have hcz24_0 : w22.cell? ⟨gb221, 0, none⟩ = some (.string (⟨#[]⟩ : ByteArray)) := blk_cell BK221.out 0; have hcz24_1 : w22.cell? ⟨gb221, 1, none⟩ = some (.string (⟨#[]⟩ : ByteArray)) := blk_cell BK221.out 1; have hcz24_2 : w22.cell? ⟨gb221, 2, none⟩ = some (.int .i64 0) := blk_cell BK221.out 2; have hcz24_3 : w22.cell? ⟨gb221, 3, none⟩ = some (.int .i64 0) := blk_cell BK221.out 3; have hfz24_0 := blk_frozen BK221.out 0; have hfz24_1 := blk_frozen BK221.out 1; have hfz24_2 := blk_frozen BK221.out 2; have hfz24_3 := blk_frozen BK221.out 3))
       go_ret
       exact ⟨by first | rfl | (simp [errW_none, errW_some] <;> rfl) | (simp [*, errW_none, errW_some] <;> rfl), by repeat (first | (with_reducible first | exact HB.out | apply below_alloc | apply pw_below_drewN | apply below_drew1 | refine below_set ?_ GE219.out | refine below_set ?_ GE221.out) | exact HB.out)⟩
      rw [if_neg c20] at H
      have c20b0 : decide (a1 < ((rd_T38 l0_1 x6_2).f1)) = false := decide_eq_false c20
      clear c20
      by_cases c25 : ((rd_T38 l0_1 x6_2).f2) < 1
      ·
       rw [if_pos c25] at H
       have c25b0 : decide (((rd_T38 l0_1 x6_2).f2) < 1) = true := decide_eq_true c25
       clear c25
       obtain rfl := Option.some.inj H
       have hcz26_0 : wr.cell? ⟨gb219, 0, none⟩ = some (.int .i64 a0_0) := blk_cell BK219.out 0
       have hcz26_1 : wr.cell? ⟨gb219, 1, none⟩ = some (.slice A0_1 l0_1.length c0_1) := blk_cell BK219.out 1
       have hfz26_0 := blk_frozen BK219.out 0
       have hfz26_1 := blk_frozen BK219.out 1
       have p220 : 0 ≤ (x6_2 : Int) := of_decide_eq_true (by first | (with_reducible assumption) | assumption)
       have q220 : x6_2 < (l0_1.length : Int) := of_decide_eq_true (by first | (with_reducible assumption) | assumption)
       obtain ⟨ad220, e220, hx220_0, hx220_1, hx220_2, hx220_3⟩ := at_T38 HR0_1.out x6_2 p220 q220
       cases e220
       replace hx220_0 := (HB.out.cell (World.block_lt_of_cell? w _ hx220_0)).trans hx220_0
       replace hx220_1 := (HB.out.cell (World.block_lt_of_cell? w _ hx220_1)).trans hx220_1
       replace hx220_2 := (HB.out.cell (World.block_lt_of_cell? w _ hx220_2)).trans hx220_2
       replace hx220_3 := (HB.out.cell (World.block_lt_of_cell? w _ hx220_3)).trans hx220_3
       replace p220 := eq_true p220
       replace q220 := eq_true q220
       go_wp2_with (first | ((with_reducible refine gate_dst (N := 7) rfl ?_); (try (refine gate_guard (by rfl) ?_; dsimp only)); refine box_event ?hg (N := 7) ?hd (cs := #[.string (⟨#[]⟩ : ByteArray), .string (⟨#[]⟩ : ByteArray), .int .i64 0, .int .i64 0]) (t := 38) ?hr ?_; (case hd => rfl); (case hg => rfl); (case hr => first | (go_simp; done) | (go_simp; rfl)); intro gb221 hg w27 hbox hb; have BK221 := Aside0.mk (hbox); have GW221 := geL hg HB.out; have GE221 := geL hg HB.out; have NB219_221 := neL hg BK219.out; have NB221_219 := neG hg BK219.out; replace HO_5 := Aside0.mk (Kd.R_below (pR HO_5.out) hb); replace BK219 := Aside0.mk (blk_below BK219.out hb); replace HB := Aside0.mk (below_step (pB HB.out) hb); clear hb hbox hg; have hnb28 := NB221_219.out; have hnc28 := NB219_221.out; have hcz29_0 : w27.cell? ⟨gb221, 0, none⟩ = some (.string (⟨#[]⟩ : ByteArray)) := blk_cell BK221.out 0; have hcz29_1 : w27.cell? ⟨gb221, 1, none⟩ = some (.string (⟨#[]⟩ : ByteArray)) := blk_cell BK221.out 1; have hcz29_2 : w27.cell? ⟨gb221, 2, none⟩ = some (.int .i64 0) := blk_cell BK221.out 2; have hcz29_3 : w27.cell? ⟨gb221, 3, none⟩ = some (.int .i64 0) := blk_cell BK221.out 3; have hfz29_0 := blk_frozen BK221.out 0; have hfz29_1 := blk_frozen BK221.out 1; have hfz29_2 := blk_frozen BK221.out 2; have hfz29_3 := blk_frozen BK221.out 3))
       go_ret
       exact ⟨by first | rfl | (simp [errW_none, errW_some] <;> rfl) | (simp [*, errW_none, errW_some] <;> rfl), by repeat (first | (with_reducible first | exact HB.out | apply below_alloc | apply pw_below_drewN | apply below_drew1 | refine below_set ?_ GE219.out | refine below_set ?_ GE221.out) | exact HB.out)⟩
      rw [if_neg c25] at H
      have c25b0 : decide (((rd_T38 l0_1 x6_2).f2) < 1) = false := decide_eq_false c25
      clear c25
      by_cases c30 : ((rd_T38 l0_1 x6_2).f2) > a0_0
      ·
       rw [if_pos c30] at H
       have c30b0 : decide (a0_0 < ((rd_T38 l0_1 x6_2).f2)) = true := decide_eq_true c30
       clear c30
       obtain rfl := Option.some.inj H
       have hcz31_0 : wr.cell? ⟨gb219, 0, none⟩ = some (.int .i64 a0_0) := blk_cell BK219.out 0
       have hcz31_1 : wr.cell? ⟨gb219, 1, none⟩ = some (.slice A0_1 l0_1.length c0_1) := blk_cell BK219.out 1
       have hfz31_0 := blk_frozen BK219.out 0
       have hfz31_1 := blk_frozen BK219.out 1
       have p220 : 0 ≤ (x6_2 : Int) := of_decide_eq_true (by first | (with_reducible assumption) | assumption)
       have q220 : x6_2 < (l0_1.length : Int) := of_decide_eq_true (by first | (with_reducible assumption) | assumption)
       obtain ⟨ad220, e220, hx220_0, hx220_1, hx220_2, hx220_3⟩ := at_T38 HR0_1.out x6_2 p220 q220
       cases e220
       replace hx220_0 := (HB.out.cell (World.block_lt_of_cell? w _ hx220_0)).trans hx220_0
       replace hx220_1 := (HB.out.cell (World.block_lt_of_cell? w _ hx220_1)).trans hx220_1
       replace hx220_2 := (HB.out.cell (World.block_lt_of_cell? w _ hx220_2)).trans hx220_2
       replace hx220_3 := (HB.out.cell (World.block_lt_of_cell? w _ hx220_3)).trans hx220_3
       replace p220 := eq_true p220
       replace q220 := eq_true q220
       go_wp2_with (first | ((with_reducible refine gate_dst (N := 7) rfl ?_); (try (refine gate_guard (by rfl) ?_; dsimp only)); refine box_event ?hg (N := 7) ?hd (cs := #[.string (⟨#[]⟩ : ByteArray), .string (⟨#[]⟩ : ByteArray), .int .i64 0, .int .i64 0]) (t := 38) ?hr ?_; (case hd => rfl); (case hg => rfl); (case hr => first | (go_simp; done) | (go_simp; rfl)); intro gb221 hg w32 hbox hb; have BK221 := Aside0.mk (hbox); have GW221 := geL hg HB.out; have GE221 := geL hg HB.out; have NB219_221 := neL hg BK219.out; have NB221_219 := neG hg BK219.out; replace HO_5 := Aside0.mk (Kd.R_below (pR HO_5.out) hb); replace BK219 := Aside0.mk (blk_below BK219.out hb); replace HB := Aside0.mk (below_step (pB HB.out) hb); clear hb hbox hg; have hnb33 := NB221_219.out; have hnc33 := NB219_221.out; have hcz34_0 : w32.cell? ⟨gb221, 0, none⟩ = some (.string (⟨#[]⟩ : ByteArray)) := blk_cell BK221.out 0; have hcz34_1 : w32.cell? ⟨gb221, 1, none⟩ = some (.string (⟨#[]⟩ : ByteArray)) := blk_cell BK221.out 1; have hcz34_2 : w32.cell? ⟨gb221, 2, none⟩ = some (.int .i64 0) := blk_cell BK221.out 2; have hcz34_3 : w32.cell? ⟨gb221, 3, none⟩ = some (.int .i64 0) := blk_cell BK221.out 3; have hfz34_0 := blk_frozen BK221.out 0; have hfz34_1 := blk_frozen BK221.out 1; have hfz34_2 := blk_frozen BK221.out 2; have hfz34_3 := blk_frozen BK221.out 3; have hcz35_0 : w32.cell? ⟨gb219, 0, none⟩ = some (.int .i64 a0_0) := blk_cell BK219.out 0; have hcz35_1 : w32.cell? ⟨gb219, 1, none⟩ = some (.slice (some ad220) l0_1.length c0_1) := blk_cell BK219.out 1; have hfz35_0 := blk_frozen BK219.out 0; have hfz35_1 := blk_frozen BK219.out 1))
       go_ret
       exact ⟨by first | rfl | (simp [errW_none, errW_some] <;> rfl) | (simp [*, errW_none, errW_some] <;> rfl), by repeat (first | (with_reducible first | exact HB.out | apply below_alloc | apply pw_below_drewN | apply below_drew1 | refine below_set ?_ GE219.out | refine below_set ?_ GE221.out) | exact HB.out)⟩
      rw [if_neg c30] at H
      have c30b0 : decide (a0_0 < ((rd_T38 l0_1 x6_2).f2)) = false := decide_eq_false c30
      clear c30
      by_cases c36 : x5_2.length < 4398046511104
      rotate_left
      · rw [if_neg c36] at H
        exact absurd H (by simp)
      rw [if_pos c36] at H
      have LMc36 := Aside0.mk c36
      clear c36
      obtain ⟨y222, hy222⟩ : ∃ y_ : List (S28), y_ = (x5_2 ++ [(⟨(rd_T38 l0_1 x6_2).f0.f0, (rd_T38 l0_1 x6_2).f0.f1⟩ : S28)]) := ⟨_, rfl⟩
      replace H : (gazetteerref5_AtlasMay.l0 k2 a1 y222 (wrap64 (x6_2 + 1)) a0_0 l0_1) = some r := by first | (rw [hy222]; with_reducible exact H) | (have H2_ := (Option.bind_some _ _).symm.trans H; rw [hy222]; with_reducible exact H2_) | (have H2_ := (Option.bind_some _ _).symm.trans H; with_reducible exact H2_) | with_reducible exact H | (rw [hy222]; exact H) | exact H
      have Ny222 := Aside0.mk hy222
      clear hy222
      have H' := Aside0.mk H
      clear H
      have hcz37_0 : wr.cell? ⟨gb219, 0, none⟩ = some (.int .i64 a0_0) := blk_cell BK219.out 0
      have hcz37_1 : wr.cell? ⟨gb219, 1, none⟩ = some (.slice A0_1 l0_1.length c0_1) := blk_cell BK219.out 1
      have hfz37_0 := blk_frozen BK219.out 0
      have hfz37_1 := blk_frozen BK219.out 1
      have p220 : 0 ≤ (x6_2 : Int) := of_decide_eq_true (by first | (with_reducible assumption) | assumption)
      have q220 : x6_2 < (l0_1.length : Int) := of_decide_eq_true (by first | (with_reducible assumption) | assumption)
      obtain ⟨ad220, e220, hx220_0, hx220_1, hx220_2, hx220_3⟩ := at_T38 HR0_1.out x6_2 p220 q220
      cases e220
      replace hx220_0 := (HB.out.cell (World.block_lt_of_cell? w _ hx220_0)).trans hx220_0
      replace hx220_1 := (HB.out.cell (World.block_lt_of_cell? w _ hx220_1)).trans hx220_1
      replace hx220_2 := (HB.out.cell (World.block_lt_of_cell? w _ hx220_2)).trans hx220_2
      replace hx220_3 := (HB.out.cell (World.block_lt_of_cell? w _ hx220_3)).trans hx220_3
      replace p220 := eq_true p220
      replace q220 := eq_true q220
      go_wp2_with (first | ((with_reducible refine gate_dst (N := 7) rfl ?_); (try (refine gate_guard (by rfl) ?_; dsimp only)); refine box_event ?hg (N := 7) ?hd (cs := #[.string (⟨#[]⟩ : ByteArray), .string (⟨#[]⟩ : ByteArray), .int .i64 0, .int .i64 0]) (t := 38) ?hr ?_; (case hd => rfl); (case hg => rfl); (case hr => first | (go_simp; done) | (go_simp; rfl)); intro gb221 hg w38 hbox hb; have BK221 := Aside0.mk (hbox); have GW221 := Aside0.mk ((by rw [hg]; exact (below_size (by repeat (first | (with_reducible first | exact HB.out | apply below_alloc | apply pw_below_drewN | apply below_drew1 | refine below_set ?_ GE219.out) | exact HB.out))) : w.heap.size ≤ gb221)); have GE221 := Aside0.mk ((by rw [hg]; exact (below_size (by repeat (first | (with_reducible first | exact HB.out | apply below_alloc | apply pw_below_drewN | apply below_drew1 | refine below_set ?_ GE219.out) | exact HB.out))) : w.heap.size ≤ gb221)); have NB219_221 := neL hg BK219.out; have NB221_219 := neG hg BK219.out; replace HO_5 := Aside0.mk (Kd.R_below (pR HO_5.out) hb); replace BK219 := Aside0.mk (blk_below BK219.out hb); replace HB := Aside0.mk (below_step (by repeat (first | (with_reducible first | exact HB.out | apply below_alloc | apply pw_below_drewN | apply below_drew1 | refine below_set ?_ GE219.out) | exact HB.out)) hb); clear hb hbox hg; have hnb39 := NB221_219.out; have hnc39 := NB219_221.out; have hcz40_0 : w38.cell? ⟨gb221, 0, none⟩ = some (.string (⟨#[]⟩ : ByteArray)) := blk_cell BK221.out 0; have hcz40_1 : w38.cell? ⟨gb221, 1, none⟩ = some (.string (⟨#[]⟩ : ByteArray)) := blk_cell BK221.out 1; have hcz40_2 : w38.cell? ⟨gb221, 2, none⟩ = some (.int .i64 0) := blk_cell BK221.out 2; have hcz40_3 : w38.cell? ⟨gb221, 3, none⟩ = some (.int .i64 0) := blk_cell BK221.out 3; have hfz40_0 := blk_frozen BK221.out 0; have hfz40_1 := blk_frozen BK221.out 1; have hfz40_2 := blk_frozen BK221.out 2; have hfz40_3 := blk_frozen BK221.out 3; have hcz41_0 : w38.cell? ⟨gb219, 0, none⟩ = some (.int .i64 a0_0) := blk_cell BK219.out 0; have hcz41_1 : w38.cell? ⟨gb219, 1, none⟩ = some (.slice (some ad220) l0_1.length c0_1) := blk_cell BK219.out 1; have hfz41_0 := blk_frozen BK219.out 0; have hfz41_1 := blk_frozen BK219.out 1) | ((with_reducible refine gate_builtin (b := .append) (xs := #[.tmp 64, .tmp 67]) rfl ?_); (try (refine gate_guard (by rfl) ?_; dsimp only)); at_builtin; refine Kd.R_append k28 (w0 := w) w.heap.size rfl (.tmp 64) (.tmp 67) 83 28 (.agg #[(.string ⟨#[]⟩), (.string ⟨#[]⟩)]) 32 rfl Try.underlying83 info28 rfl (by decide) (by omega) u5 x5_2 (⟨(rd_T38 l0_1 x6_2).f0.f0, (rd_T38 l0_1 x6_2).f0.f1⟩ : S28) [.string ((rd_T38 l0_1 x6_2).f0.f0), .string ((rd_T38 l0_1 x6_2).f0.f1)] (fun _ => True) (fun _ => False) rfl (by first | (go_simp; done) | (go_simp; rfl)) ?aP (fun _ hk => hk.elim) ?aF ?aO ?aB ?aS ?aL ?_; (case aP => exact k28_mkM _ _ _ (⟨(rd_T38 l0_1 x6_2).f0.f0, (rd_T38 l0_1 x6_2).f0.f1⟩ : S28)); (case aB => exact (by repeat (first | (with_reducible first | exact HB.out | apply below_alloc | apply pw_below_drewN | apply below_drew1 | refine below_set ?_ GE219.out | refine below_set ?_ GE221.out) | exact HB.out))); (case aF => exact (fun _ _ => trivial)); (case aO => exact (by (with_reducible repeat (first | apply Kd.R_alloc | apply Kd.R_drewN | apply Kd.R_drew)); exact Kd.R_mono (Kd.R_far (p := ⟨gb221, 3, none⟩) (Kd.R_far (p := ⟨gb221, 2, none⟩) (Kd.R_far (p := ⟨gb221, 1, none⟩) (Kd.R_far (p := ⟨gb221, 0, none⟩) (Kd.R_types HO_5.out BK221.out (by decide)) (fun _ hk => hk.2) (.string ((rd_T38 l0_1 x6_2).f0.f0))) (fun _ hk => hk.2) (.string ((rd_T38 l0_1 x6_2).f0.f1))) (fun _ hk => hk.2) (.int .i64 ((rd_T38 l0_1 x6_2).f1))) (fun _ hk => hk.2) (.int .i64 ((rd_T38 l0_1 x6_2).f2))) (fun _ hk => trivial))); (case aS => exact (below_size (by repeat (first | (with_reducible first | exact HB.out | apply below_alloc | apply pw_below_drewN | apply below_drew1 | refine below_set ?_ GE219.out | refine below_set ?_ GE221.out) | exact HB.out)))); (case aL => have := LMc36.out; omega); intro v223 w42 ho hb hg hat; rw [← Ny222.out] at ho; have HO224 := Aside0.mk (ho); replace BK219 := Aside0.mk (blk_grown (g := gb219) (o := .cells #[.int .i64 a0_0, .slice (some ad220) l0_1.length c0_1] 24 (0, 0)) (by (with_reducible repeat (first | refine blk_drewN ?_ _ | refine blk_drew ?_ | refine blk_alloc ?_ _)); refine blk_far ?_ NB219_221.out _; (with_reducible repeat (first | refine blk_drewN ?_ _ | refine blk_drew ?_ | refine blk_alloc ?_ _)); refine blk_far ?_ NB219_221.out _; (with_reducible repeat (first | refine blk_drewN ?_ _ | refine blk_drew ?_ | refine blk_alloc ?_ _)); refine blk_far ?_ NB219_221.out _; (with_reducible repeat (first | refine blk_drewN ?_ _ | refine blk_drew ?_ | refine blk_alloc ?_ _)); refine blk_far ?_ NB219_221.out _; (with_reducible repeat (first | refine blk_drewN ?_ _ | refine blk_drew ?_ | refine blk_alloc ?_ _)); exact BK219.out) hg (Kd.R_ne HO_5.out BK219.out (by decide))); replace BK221 := Aside0.mk (blk_grown (g := gb221) (o := .cells #[.string ((rd_T38 l0_1 x6_2).f0.f0), .string ((rd_T38 l0_1 x6_2).f0.f1), .int .i64 ((rd_T38 l0_1 x6_2).f1), .int .i64 ((rd_T38 l0_1 x6_2).f2)] 38 (0, 0)) (by (with_reducible repeat (first | refine blk_drewN ?_ _ | refine blk_drew ?_ | refine blk_alloc ?_ _)); refine blk_put (cs := #[.string ((rd_T38 l0_1 x6_2).f0.f0), .string ((rd_T38 l0_1 x6_2).f0.f1), .int .i64 ((rd_T38 l0_1 x6_2).f1), .int .i64 0]) ?_ 3 _ rfl; (with_reducible repeat (first | refine blk_drewN ?_ _ | refine blk_drew ?_ | refine blk_alloc ?_ _)); refine blk_put (cs := #[.string ((rd_T38 l0_1 x6_2).f0.f0), .string ((rd_T38 l0_1 x6_2).f0.f1), .int .i64 0, .int .i64 0]) ?_ 2 _ rfl; (with_reducible repeat (first | refine blk_drewN ?_ _ | refine blk_drew ?_ | refine blk_alloc ?_ _)); refine blk_put (cs := #[.string ((rd_T38 l0_1 x6_2).f0.f0), .string (⟨#[]⟩ : ByteArray), .int .i64 0, .int .i64 0]) ?_ 1 _ rfl; (with_reducible repeat (first | refine blk_drewN ?_ _ | refine blk_drew ?_ | refine blk_alloc ?_ _)); refine blk_put (cs := #[.string (⟨#[]⟩ : ByteArray), .string (⟨#[]⟩ : ByteArray), .int .i64 0, .int .i64 0]) ?_ 0 _ rfl; (with_reducible repeat (first | refine blk_drewN ?_ _ | refine blk_drew ?_ | refine blk_alloc ?_ _)); exact BK221.out) hg (Kd.R_ne HO_5.out BK221.out (by decide))); replace HB := Aside0.mk (hb); clear HO_5; clear ho hb hg hat))
      go_roundg k2
      case measure => have := HJ2.out; have := HK2.out; omega
      case rel => exact ⟨(y222), (wrap64 (x6_2 + 1)), (by first | rfl | (simp; done) | (simp [*]; done)), H', ⟨by have := HJ2.out; have := HK2.out; omega⟩, ⟨by (with_reducible repeat (first | apply Kd.R_alloc | apply Kd.R_drewN | apply Kd.R_drew)); exact HO224.out⟩, ⟨by (with_reducible repeat (first | refine blk_drewN ?_ _ | refine blk_drew ?_ | refine blk_alloc ?_ _)); exact BK219.out⟩, ⟨by repeat (first | (with_reducible first | exact HB.out | apply below_alloc | apply pw_below_drewN | apply below_drew1 | refine below_set ?_ GE219.out | refine below_set ?_ GE221.out) | exact HB.out)⟩⟩
end Go.Proofs.Ytbajekndbamcmaa.PAtlasBack

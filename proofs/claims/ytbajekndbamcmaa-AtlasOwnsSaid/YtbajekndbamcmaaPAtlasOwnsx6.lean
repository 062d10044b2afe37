-- printed by a program of this session (wip/tools), a turned form of the kit's print
import Derived.Test.YtbajekndbamcmaaPAtlasOwnsx0
import Derived.Test.YtbajekndbamcmaaPAtlasOwnsx1
import Derived.Test.YtbajekndbamcmaaPAtlasOwnsx3
import Derived.Test.YtbajekndbamcmaaPAtlasOwnsx4
import Derived.Test.YtbajekndbamcmaaPAtlasOwnsx5
namespace Go.Proofs.Ytbajekndbamcmaa.PAtlasOwns
open Go.RowKit Go.Proofs.YtbajekndbamcmaaW.PrintWords Go.Proofs.YtbajekndbamcmaaW.PrintLast Go.Proofs.YtbajekndbamcmaaW.PrintMore
attribute [local go_sem] max2_int min2_int max_two min_two max_three min_three max_four min_four max2_str min2_str str_geq str_leq str_gtr   -- for this text's walks alone
set_option linter.unusedVariables false
set_option linter.unusedSimpArgs false

/-! ### gazetteerref5_AtlasMay: function 16 -/
mutual
def gazetteerref5_AtlasMay.j0 : Nat → Int → Bool → Int → List (S38) → Option (Bool)
 | 0, _, _, _, _ => none
 | k + 1, x1, x30, x222000, x222001 => if x30 = true then (some false) else (gazetteerref5_AtlasMay.l0 k x1 ([] : List (S28)) 0 x222000 x222001)
def gazetteerref5_AtlasMay.l0 : Nat → Int → List (S28) → Int → Int → List (S38) → Option (Bool)
 | 0, _, _, _, _, _ => none
 | k + 1, x1, x5, x6, x222000, x222001 => if x6 < (x222001.length : Int) then (if 0 ≤ x6 then (if ((rd_T38 x222001 x6).f1) < 1 then (some false) else (if ((rd_T38 x222001 x6).f1) > x1 then (some false) else (if ((rd_T38 x222001 x6).f2) < 1 then (some false) else (if ((rd_T38 x222001 x6).f2) > x222000 then (some false) else (if x5.length < 4398046511104 then (gazetteerref5_AtlasMay.l0 k x1 (x5 ++ [(⟨(rd_T38 x222001 x6).f0.f0, (rd_T38 x222001 x6).f0.f1⟩ : S28)]) (wrap64 (x6 + 1)) x222000 x222001) else (none)))))) else (none)) else ((gazetteerref5_Whole.f k x5).bind fun t227 => (some t227))
end
def gazetteerref5_AtlasMay.f (k : Nat) (a0_0 : Int) (l0_1 : List (S38)) (a1 : Int) : Option (Bool) := if a1 < 1 then (gazetteerref5_AtlasMay.j0 k a1 true a0_0 l0_1) else (if a1 > 5 then (gazetteerref5_AtlasMay.j0 k a1 true a0_0 l0_1) else (if (l0_1.length : Int) < 1 then (gazetteerref5_AtlasMay.j0 k a1 true a0_0 l0_1) else (if (l0_1.length : Int) > 12 then (gazetteerref5_AtlasMay.j0 k a1 true a0_0 l0_1) else (gazetteerref5_AtlasMay.j0 k a1 (decide (a0_0 < 1)) a0_0 l0_1))))
theorem gazetteerref5_AtlasMay.mono_l : ∀ k, (∀ y0 y1 y2 y3, LeO (gazetteerref5_AtlasMay.j0 k y0 y1 y2 y3) (gazetteerref5_AtlasMay.j0 (k + 1) y0 y1 y2 y3)) ∧ (∀ y0 y1 y2 y3 y4, LeO (gazetteerref5_AtlasMay.l0 k y0 y1 y2 y3 y4) (gazetteerref5_AtlasMay.l0 (k + 1) y0 y1 y2 y3 y4))
 | 0 => ⟨fun _ _ _ _ r h => by simp [gazetteerref5_AtlasMay.j0] at h, fun _ _ _ _ _ r h => by simp [gazetteerref5_AtlasMay.l0] at h⟩
 | k + 1 => by
  obtain ⟨ih0, ih1⟩ := gazetteerref5_AtlasMay.mono_l k
  refine ⟨?_, ?_⟩
  ·
   intro y0 y1 y2 y3
   unfold gazetteerref5_AtlasMay.j0
   repeat' first
   | (with_reducible exact ih0 _ _ _ _)
   | (with_reducible exact ih1 _ _ _ _ _)
   | (with_reducible exact gazetteerref5_Whole.mono _ _)
   | (with_reducible exact LeO.refl _)
   | (with_reducible exact LeO.none _)
   | (with_reducible refine LeO.ite ?_ ?_)
   | (with_reducible refine LeO.bind ?_ (fun _ => ?_))
   | exact ih0 _ _ _ _
   | exact ih1 _ _ _ _ _
   | exact gazetteerref5_Whole.mono _ _
   | exact LeO.none _
   | refine LeO.ite ?_ ?_
   | refine LeO.bind ?_ (fun _ => ?_)
  ·
   intro y0 y1 y2 y3 y4
   unfold gazetteerref5_AtlasMay.l0
   repeat' first
   | (with_reducible exact ih0 _ _ _ _)
   | (with_reducible exact ih1 _ _ _ _ _)
   | (with_reducible exact gazetteerref5_Whole.mono _ _)
   | (with_reducible exact LeO.refl _)
   | (with_reducible exact LeO.none _)
   | (with_reducible refine LeO.ite ?_ ?_)
   | (with_reducible refine LeO.bind ?_ (fun _ => ?_))
   | exact ih0 _ _ _ _
   | exact ih1 _ _ _ _ _
   | exact gazetteerref5_Whole.mono _ _
   | exact LeO.none _
   | refine LeO.ite ?_ ?_
   | refine LeO.bind ?_ (fun _ => ?_)
theorem gazetteerref5_AtlasMay.mono : ∀ a0 a1 a2 k, LeO (gazetteerref5_AtlasMay.f k a0 a1 a2) (gazetteerref5_AtlasMay.f (k + 1) a0 a1 a2) := by
 intro a0 a1 a2 k
 obtain ⟨ih0, ih1⟩ := gazetteerref5_AtlasMay.mono_l k
 unfold gazetteerref5_AtlasMay.f
 repeat' first
   | (with_reducible exact ih0 _ _ _ _)
   | (with_reducible exact ih1 _ _ _ _ _)
   | (with_reducible exact gazetteerref5_Whole.mono _ _)
   | (with_reducible exact LeO.refl _)
   | (with_reducible exact LeO.none _)
   | (with_reducible refine LeO.ite ?_ ?_)
   | (with_reducible refine LeO.bind ?_ (fun _ => ?_))
   | exact ih0 _ _ _ _
   | exact ih1 _ _ _ _ _
   | exact gazetteerref5_Whole.mono _ _
   | exact LeO.none _
   | refine LeO.ite ?_ ?_
   | refine LeO.bind ?_ (fun _ => ?_)
set_option maxHeartbeats 8000000 in
set_option maxRecDepth 100000 in
theorem gazetteerref5_AtlasMay.calls (k : Nat) (a0_0 : Int) (A0_1 : Option Addr) (c0_1 : Nat) (l0_1 : List (S38)) (a1 : Int) (r : Bool) (w : World) (hr0_1 : Kd.C k38 w A0_1 l0_1.length l0_1) (hc0_1 : l0_1.length ≤ c0_1) (h : gazetteerref5_AtlasMay.f k a0_0 l0_1 a1 = some r) :
  Calls Try.prog 16 #[.agg #[.int .i64 a0_0, .slice A0_1 l0_1.length c0_1], .int .i64 a1] w fun e w' => e = .returned (.bool r) ∧ Below w.heap.size w w' := by
 have hu24 := Try.underlying24
 have hu38 := Try.underlying38
 have hu28 := Try.underlying28
 have HR0_1 := Aside0.mk hr0_1
 have HC0_1 := Aside0.mk hc0_1
 clear hr0_1 hc0_1
 have HB := Aside0.mk (Below.refl w.heap.size w)
 have H : (if a1 < 1 then (gazetteerref5_AtlasMay.j0 k a1 true a0_0 l0_1) else (if a1 > 5 then (gazetteerref5_AtlasMay.j0 k a1 true a0_0 l0_1) else (if (l0_1.length : Int) < 1 then (gazetteerref5_AtlasMay.j0 k a1 true a0_0 l0_1) else (if (l0_1.length : Int) > 12 then (gazetteerref5_AtlasMay.j0 k a1 true a0_0 l0_1) else (gazetteerref5_AtlasMay.j0 k a1 (decide (a0_0 < 1)) a0_0 l0_1))))) = some r := h
 clear h
 have HC3 := Aside0.mk H
 clear H
 go_enter Try.func16, Try.ntmps16
 go_upto_region 1 with (first | ((with_reducible refine gate_dst (N := 2) rfl ?_); (try (refine gate_guard (by rfl) ?_; dsimp only)); refine box_event ?hg (N := 2) ?hd (cs := #[.int .i64 a0_0, .slice A0_1 l0_1.length c0_1]) (t := 24) ?hr ?_; (case hd => rfl); (case hg => rfl); (case hr => first | (go_simp; done) | (go_simp; rfl)); intro gb221 hg w4 hbox hb; have n0_ := Aside0.mk (below_step (by repeat (first | (with_reducible first | exact HB.out | apply below_alloc | apply pw_below_drewN | apply below_drew1) | exact HB.out)) hb); have n1_ := Aside0.mk (hbox); have n2_ := Aside0.mk ((by rw [hg]; exact (below_size (by repeat (first | (with_reducible first | exact HB.out | apply below_alloc | apply pw_below_drewN | apply below_drew1) | exact HB.out))) : w.heap.size ≤ gb221)); have n3_ := Aside0.mk ((by rw [hg]; exact (below_size (by repeat (first | (with_reducible first | exact HB.out | apply below_alloc | apply pw_below_drewN | apply below_drew1) | exact HB.out))) : w.heap.size ≤ gb221)); clear HB; have HB := n0_; have BK221 := n1_; have GW221 := n2_; have GE221 := n3_; clear n0_ n1_ n2_ n3_; clear hb hbox hg))
 (try simp only [Act.put, List.setIfInBounds_toArray, List.set_cons_zero, List.set_cons_succ])
 go_cut [30] (fun v30 wc => ∃ (kq : Nat) (x30_2 : Bool), v30 = .bool x30_2 ∧ Aside0 (gazetteerref5_AtlasMay.j0 kq a1 x30_2 a0_0 l0_1 = some r) ∧ Aside0 (kq ≤ k) ∧ Aside0 (wc.heap[gb221]? = some (.cells #[.int .i64 a0_0, (.slice A0_1 l0_1.length c0_1)] 24 (0, 0))) ∧ Aside0 (Below w.heap.size w wc))
 case first =>
  have H := HC3.out
  clear HC3
  by_cases c5 : a1 < 1
  ·
   rw [if_pos c5] at H
   have c5b0 : decide (a1 < 1) = true := decide_eq_true c5
   clear c5
   (first | rw [c5b0] | (simp only [i64_w, i32_w]; rw [c5b0]) | skip)
   have H' := Aside0.mk H
   clear H
   go_wp2
   go_meet
   case rel => exact ⟨_, (true), (by first | rfl | (simp; done) | (simp [*]; done)), H', ⟨by first | omega | exact Nat.le_refl _⟩, ⟨by (with_reducible repeat (first | refine blk_drewN ?_ _ | refine blk_drew ?_ | refine blk_alloc ?_ _)); exact BK221.out⟩, ⟨by repeat (first | (with_reducible first | exact HB.out | apply below_alloc | apply pw_below_drewN | apply below_drew1 | refine below_set ?_ GE221.out) | exact HB.out)⟩⟩
  ·
   rw [if_neg c5] at H
   have c5b0 : decide (a1 < 1) = false := decide_eq_false c5
   clear c5
   (first | rw [c5b0] | (simp only [i64_w, i32_w]; rw [c5b0]) | skip)
   by_cases c6 : a1 > 5
   ·
    rw [if_pos c6] at H
    have c6b0 : decide (5 < a1) = true := decide_eq_true c6
    clear c6
    have H' := Aside0.mk H
    clear H
    go_wp2
    go_meet
    case rel => exact ⟨_, (true), (by first | rfl | (simp; done) | (simp [*]; done)), H', ⟨by first | omega | exact Nat.le_refl _⟩, ⟨by (with_reducible repeat (first | refine blk_drewN ?_ _ | refine blk_drew ?_ | refine blk_alloc ?_ _)); exact BK221.out⟩, ⟨by repeat (first | (with_reducible first | exact HB.out | apply below_alloc | apply pw_below_drewN | apply below_drew1 | refine below_set ?_ GE221.out) | exact HB.out)⟩⟩
   ·
    rw [if_neg c6] at H
    have c6b0 : decide (5 < a1) = false := decide_eq_false c6
    clear c6
    by_cases c7 : (l0_1.length : Int) < 1
    ·
     rw [if_pos c7] at H
     have c7b0 : decide ((l0_1.length : Int) < 1) = true := decide_eq_true c7
     have c7b1 : decide (l0_1.length < 1) = true := decide_eq_true (by omega)
     clear c7
     have H' := Aside0.mk H
     clear H
     have hcz8_0 : w4.cell? ⟨gb221, 0, none⟩ = some (.int .i64 a0_0) := (blk_cell BK221.out 0).trans rfl
     have hcz8_1 : w4.cell? ⟨gb221, 1, none⟩ = some (.slice A0_1 l0_1.length c0_1) := (blk_cell BK221.out 1).trans rfl
     have hfz8_0 := blk_frozen BK221.out 0
     have hfz8_1 := blk_frozen BK221.out 1
     go_wp2
     go_meet
     case rel => exact ⟨_, (true), (by first | rfl | (simp; done) | (simp [*]; done)), H', ⟨by first | omega | exact Nat.le_refl _⟩, ⟨by (with_reducible repeat (first | refine blk_drewN ?_ _ | refine blk_drew ?_ | refine blk_alloc ?_ _)); exact BK221.out⟩, ⟨by repeat (first | (with_reducible first | exact HB.out | apply below_alloc | apply pw_below_drewN | apply below_drew1 | refine below_set ?_ GE221.out) | exact HB.out)⟩⟩
    ·
     rw [if_neg c7] at H
     have c7b0 : decide ((l0_1.length : Int) < 1) = false := decide_eq_false c7
     have c7b1 : decide (l0_1.length < 1) = false := decide_eq_false (by omega)
     clear c7
     by_cases c9 : (l0_1.length : Int) > 12
     ·
      rw [if_pos c9] at H
      have c9b0 : decide (12 < (l0_1.length : Int)) = true := decide_eq_true c9
      have c9b1 : decide (12 < l0_1.length) = true := decide_eq_true (by omega)
      clear c9
      have H' := Aside0.mk H
      clear H
      have hcz10_0 : w4.cell? ⟨gb221, 0, none⟩ = some (.int .i64 a0_0) := (blk_cell BK221.out 0).trans rfl
      have hcz10_1 : w4.cell? ⟨gb221, 1, none⟩ = some (.slice A0_1 l0_1.length c0_1) := (blk_cell BK221.out 1).trans rfl
      have hfz10_0 := blk_frozen BK221.out 0
      have hfz10_1 := blk_frozen BK221.out 1
      go_wp2
      go_meet
      case rel => exact ⟨_, (true), (by first | rfl | (simp; done) | (simp [*]; done)), H', ⟨by first | omega | exact Nat.le_refl _⟩, ⟨by (with_reducible repeat (first | refine blk_drewN ?_ _ | refine blk_drew ?_ | refine blk_alloc ?_ _)); exact BK221.out⟩, ⟨by repeat (first | (with_reducible first | exact HB.out | apply below_alloc | apply pw_below_drewN | apply below_drew1 | refine below_set ?_ GE221.out) | exact HB.out)⟩⟩
     ·
      rw [if_neg c9] at H
      have c9b0 : decide (12 < (l0_1.length : Int)) = false := decide_eq_false c9
      have c9b1 : decide (12 < l0_1.length) = false := decide_eq_false (by omega)
      clear c9
      have H' := Aside0.mk H
      clear H
      have hcz11_0 : w4.cell? ⟨gb221, 0, none⟩ = some (.int .i64 a0_0) := (blk_cell BK221.out 0).trans rfl
      have hcz11_1 : w4.cell? ⟨gb221, 1, none⟩ = some (.slice A0_1 l0_1.length c0_1) := (blk_cell BK221.out 1).trans rfl
      have hfz11_0 := blk_frozen BK221.out 0
      have hfz11_1 := blk_frozen BK221.out 1
      go_wp2
      go_meet
      case rel => exact ⟨_, (decide (a0_0 < 1)), (by first | rfl | (simp; done) | (simp [*]; done)), H', ⟨by first | omega | exact Nat.le_refl _⟩, ⟨by (with_reducible repeat (first | refine blk_drewN ?_ _ | refine blk_drew ?_ | refine blk_alloc ?_ _)); exact BK221.out⟩, ⟨by repeat (first | (with_reducible first | exact HB.out | apply below_alloc | apply pw_below_drewN | apply below_drew1 | refine below_set ?_ GE221.out) | exact HB.out)⟩⟩
 case rest =>
  clear HC3
  try clear c1
  try clear p2
  try clear c5
  try clear c5b0
  try clear c6
  try clear c6b0
  try clear c7
  try clear c7b0
  try clear c7b1
  try clear c9
  try clear c9b0
  try clear c9b1
  try clear hcz10_0
  try clear hcz10_1
  try clear hcz11_0
  try clear hcz11_1
  try clear hcz8_0
  try clear hcz8_1
  try clear hfz10_0
  try clear hfz10_1
  try clear hfz11_0
  try clear hfz11_1
  try clear hfz8_0
  try clear hfz8_1
  obtain ⟨kq, x30_2, rfl, HA, HJ2, BK221, HB⟩ := hcut
  cases kq with
  | zero => exact absurd HA.out (by simp [gazetteerref5_AtlasMay.j0])
  | succ kj2 =>
   have H := HA.out
   clear HA
   simp only [gazetteerref5_AtlasMay.j0] at H
   by_cases c12 : x30_2 = true
   ·
    subst c12
    have H1 : (some false) = some r := by rw [if_pos rfl] at H; exact H
    clear H
    have H := H1
    clear H1
    obtain rfl := Option.some.inj H
    go_wp2
    go_ret
    exact ⟨by first | rfl | (simp [errW_none, errW_some] <;> rfl) | (simp [*, errW_none, errW_some] <;> rfl), by repeat (first | (with_reducible first | exact HB.out | apply below_alloc | apply pw_below_drewN | apply below_drew1 | refine below_set ?_ GE221.out) | exact HB.out)⟩
   ·
    replace c12 := Bool.eq_false_iff.mpr c12
    subst c12
    have H1 : (gazetteerref5_AtlasMay.l0 kj2 a1 ([] : List (S28)) 0 a0_0 l0_1) = some r := by rw [if_neg (show ¬ (false = true) by decide)] at H; exact H
    clear H
    have H := H1
    clear H1
    have H' := Aside0.mk H
    clear H
    go_wp2
    go_loopg [5, 6] kj2 (fun kq v5 v6 w' => ∃ (x5_2 : List (S28)) (x6_2 : Int), v6 = .int .i64 x6_2 ∧ Aside0 (gazetteerref5_AtlasMay.l0 kq a1 x5_2 x6_2 a0_0 l0_1 = some r) ∧ Aside0 (kq ≤ kj2) ∧ Aside0 (Kd.R k28 28 w' w.heap.size (fun _ => True) v5 x5_2) ∧ Aside0 (w'.heap[gb221]? = some (.cells #[.int .i64 a0_0, (.slice A0_1 l0_1.length c0_1)] 24 (0, 0))) ∧ Aside0 (Below w.heap.size w w'))
    case atStart => exact ⟨(([] : List (S28))), (0), (by first | rfl | (simp; done) | (simp [*]; done)), H', ⟨Nat.le_refl _⟩, ⟨by first | exact Kd.R_nil _ _ _ _ _ | exact Kd.N_nil _ _ _ _ _ | exact Kd.V_nil _ _ _ _ _ | exact Kd.Q_nil _ _ _ _ _ | exact Kd.S_nil _ _ _ _ _⟩, ⟨by (with_reducible repeat (first | refine blk_drewN ?_ _ | refine blk_drew ?_ | refine blk_alloc ?_ _)); exact BK221.out⟩, ⟨by repeat (first | (with_reducible first | exact HB.out | apply below_alloc | apply pw_below_drewN | apply below_drew1 | refine below_set ?_ GE221.out) | exact HB.out)⟩⟩
    case round =>
     clear H'
     try clear c1
     try clear p2
     try clear c5
     try clear c5b0
     try clear c6
     try clear c6b0
     try clear c7
     try clear c7b0
     try clear c7b1
     try clear c9
     try clear c9b0
     try clear c9b1
     try clear c12
     try clear hcz10_0
     try clear hcz10_1
     try clear hcz11_0
     try clear hcz11_1
     try clear hcz8_0
     try clear hcz8_1
     try clear hfz10_0
     try clear hfz10_1
     try clear hfz11_0
     try clear hfz11_1
     try clear hfz8_0
     try clear hfz8_1
     try clear p2
     obtain ⟨x5_2, x6_2, rfl, HA, HK2, HO_5, BK221, HB⟩ := hrel
     cases gk with
     | zero => exact absurd HA.out (by simp [gazetteerref5_AtlasMay.l0])
     | succ k2 =>
      have H := HA.out
      clear HA
      simp only [gazetteerref5_AtlasMay.l0] at H
      by_cases c13 : x6_2 < (l0_1.length : Int)
      ·
       rw [if_pos c13] at H
       have c13b0 : decide (x6_2 < (l0_1.length : Int)) = true := decide_eq_true c13
       clear c13
       by_cases c14 : 0 ≤ x6_2
       ·
        rw [if_pos c14] at H
        have c14b0 : decide (0 ≤ x6_2) = true := decide_eq_true c14
        clear c14
        by_cases c15 : ((rd_T38 l0_1 x6_2).f1) < 1
        ·
         rw [if_pos c15] at H
         have c15b0 : decide (((rd_T38 l0_1 x6_2).f1) < 1) = true := decide_eq_true c15
         clear c15
         obtain rfl := Option.some.inj H
         have hcz16_0 : wr.cell? ⟨gb221, 0, none⟩ = some (.int .i64 a0_0) := (blk_cell BK221.out 0).trans rfl
         have hcz16_1 : wr.cell? ⟨gb221, 1, none⟩ = some (.slice A0_1 l0_1.length c0_1) := (blk_cell BK221.out 1).trans rfl
         have hfz16_0 := blk_frozen BK221.out 0
         have hfz16_1 := blk_frozen BK221.out 1
         have p222 : 0 ≤ (x6_2 : Int) := of_decide_eq_true (by first | (with_reducible assumption) | assumption)
         have q222 : x6_2 < (l0_1.length : Int) := of_decide_eq_true (by first | (with_reducible assumption) | assumption)
         obtain ⟨ad222, e222, hx222_0, hx222_1, hx222_2, hx222_3⟩ := at_T38 HR0_1.out x6_2 p222 q222
         cases e222
         replace hx222_0 := (HB.out.cell (World.block_lt_of_cell? w _ hx222_0)).trans hx222_0
         replace hx222_1 := (HB.out.cell (World.block_lt_of_cell? w _ hx222_1)).trans hx222_1
         replace hx222_2 := (HB.out.cell (World.block_lt_of_cell? w _ hx222_2)).trans hx222_2
         replace hx222_3 := (HB.out.cell (World.block_lt_of_cell? w _ hx222_3)).trans hx222_3
         replace p222 := eq_true p222
         replace q222 := eq_true q222
         go_wp2_with (first | ((with_reducible refine gate_dst (N := 7) rfl ?_); (try (refine gate_guard (by rfl) ?_; dsimp only)); refine box_event ?hg (N := 7) ?hd (cs := #[.string (⟨#[]⟩ : ByteArray), .string (⟨#[]⟩ : ByteArray), .int .i64 0, .int .i64 0]) (t := 38) ?hr ?_; (case hd => rfl); (case hg => rfl); (case hr => first | (go_simp; done) | (go_simp; rfl)); intro gb223 hg w17 hbox hb; have n0_ := Aside0.mk (Kd.R_below (by (with_reducible repeat (first | apply Kd.R_alloc | apply Kd.R_drewN | apply Kd.R_drew)); exact HO_5.out) hb); have n1_ := Aside0.mk (blk_below (g := gb221) (o := .cells #[.int .i64 a0_0, .slice (some ad222) l0_1.length c0_1] 24 (0, 0)) (by (with_reducible repeat (first | refine blk_drewN ?_ _ | refine blk_drew ?_ | refine blk_alloc ?_ _)); exact BK221.out) hb); have n2_ := Aside0.mk (below_step (by repeat (first | (with_reducible first | exact HB.out | apply below_alloc | apply pw_below_drewN | apply below_drew1 | refine below_set ?_ GE221.out) | exact HB.out)) hb); have n3_ := Aside0.mk (hbox); have n4_ := Aside0.mk ((by rw [hg]; exact (below_size (by repeat (first | (with_reducible first | exact HB.out | apply below_alloc | apply pw_below_drewN | apply below_drew1 | refine below_set ?_ GE221.out) | exact HB.out))) : w.heap.size ≤ gb223)); have n5_ := Aside0.mk ((by rw [hg]; exact (below_size (by repeat (first | (with_reducible first | exact HB.out | apply below_alloc | apply pw_below_drewN | apply below_drew1 | refine below_set ?_ GE221.out) | exact HB.out))) : w.heap.size ≤ gb223)); have n6_ := Aside0.mk ((by rw [hg]; exact Nat.ne_of_lt (blk_lt (g := gb221) (o := .cells #[.int .i64 a0_0, .slice (some ad222) l0_1.length c0_1] 24 (0, 0)) (by (with_reducible repeat (first | refine blk_drewN ?_ _ | refine blk_drew ?_ | refine blk_alloc ?_ _)); exact BK221.out)) : gb221 ≠ gb223)); have n7_ := Aside0.mk ((by rw [hg]; exact Nat.ne_of_gt (blk_lt (g := gb221) (o := .cells #[.int .i64 a0_0, .slice (some ad222) l0_1.length c0_1] 24 (0, 0)) (by (with_reducible repeat (first | refine blk_drewN ?_ _ | refine blk_drew ?_ | refine blk_alloc ?_ _)); exact BK221.out)) : gb223 ≠ gb221)); clear HO_5; clear BK221; clear HB; have HO_5 := n0_; have BK221 := n1_; have HB := n2_; have BK223 := n3_; have GW223 := n4_; have GE223 := n5_; have NB221_223 := n6_; have NB223_221 := n7_; clear n0_ n1_ n2_ n3_ n4_ n5_ n6_ n7_; clear hb hbox hg; have hnb18 := NB223_221.out; have hnc18 := NB221_223.out; have hcz19_0 : w17.cell? ⟨gb223, 0, none⟩ = some (.string (⟨#[]⟩ : ByteArray)) := (blk_cell BK223.out 0).trans rfl; have hcz19_1 : w17.cell? ⟨gb223, 1, none⟩ = some (.string (⟨#[]⟩ : ByteArray)) := (blk_cell BK223.out 1).trans rfl; have hcz19_2 : w17.cell? ⟨gb223, 2, none⟩ = some (.int .i64 0) := (blk_cell BK223.out 2).trans rfl; have hcz19_3 : w17.cell? ⟨gb223, 3, none⟩ = some (.int .i64 0) := (blk_cell BK223.out 3).trans rfl; have hfz19_0 := blk_frozen BK223.out 0; have hfz19_1 := blk_frozen BK223.out 1; have hfz19_2 := blk_frozen BK223.out 2; have hfz19_3 := blk_frozen BK223.out 3))
         go_ret
         exact ⟨by first | rfl | (simp [errW_none, errW_some] <;> rfl) | (simp [*, errW_none, errW_some] <;> rfl), by repeat (first | (with_reducible first | exact HB.out | apply below_alloc | apply pw_below_drewN | apply below_drew1 | refine below_set ?_ GE221.out | refine below_set ?_ GE223.out) | exact HB.out)⟩
        ·
         rw [if_neg c15] at H
         have c15b0 : decide (((rd_T38 l0_1 x6_2).f1) < 1) = false := decide_eq_false c15
         clear c15
         by_cases c20 : ((rd_T38 l0_1 x6_2).f1) > a1
         ·
          rw [if_pos c20] at H
          have c20b0 : decide (a1 < ((rd_T38 l0_1 x6_2).f1)) = true := decide_eq_true c20
          clear c20
          obtain rfl := Option.some.inj H
          have hcz21_0 : wr.cell? ⟨gb221, 0, none⟩ = some (.int .i64 a0_0) := (blk_cell BK221.out 0).trans rfl
          have hcz21_1 : wr.cell? ⟨gb221, 1, none⟩ = some (.slice A0_1 l0_1.length c0_1) := (blk_cell BK221.out 1).trans rfl
          have hfz21_0 := blk_frozen BK221.out 0
          have hfz21_1 := blk_frozen BK221.out 1
          have p222 : 0 ≤ (x6_2 : Int) := of_decide_eq_true (by first | (with_reducible assumption) | assumption)
          have q222 : x6_2 < (l0_1.length : Int) := of_decide_eq_true (by first | (with_reducible assumption) | assumption)
          obtain ⟨ad222, e222, hx222_0, hx222_1, hx222_2, hx222_3⟩ := at_T38 HR0_1.out x6_2 p222 q222
          cases e222
          replace hx222_0 := (HB.out.cell (World.block_lt_of_cell? w _ hx222_0)).trans hx222_0
          replace hx222_1 := (HB.out.cell (World.block_lt_of_cell? w _ hx222_1)).trans hx222_1
          replace hx222_2 := (HB.out.cell (World.block_lt_of_cell? w _ hx222_2)).trans hx222_2
          replace hx222_3 := (HB.out.cell (World.block_lt_of_cell? w _ hx222_3)).trans hx222_3
          replace p222 := eq_true p222
          replace q222 := eq_true q222
          go_wp2_with (first | ((with_reducible refine gate_dst (N := 7) rfl ?_); (try (refine gate_guard (by rfl) ?_; dsimp only)); refine box_event ?hg (N := 7) ?hd (cs := #[.string (⟨#[]⟩ : ByteArray), .string (⟨#[]⟩ : ByteArray), .int .i64 0, .int .i64 0]) (t := 38) ?hr ?_; (case hd => rfl); (case hg => rfl); (case hr => first | (go_simp; done) | (go_simp; rfl)); intro gb223 hg w22 hbox hb; have n0_ := Aside0.mk (Kd.R_below (by (with_reducible repeat (first | apply Kd.R_alloc | apply Kd.R_drewN | apply Kd.R_drew)); exact HO_5.out) hb); have n1_ := Aside0.mk (blk_below (g := gb221) (o := .cells #[.int .i64 a0_0, .slice (some ad222) l0_1.length c0_1] 24 (0, 0)) (by (with_reducible repeat (first | refine blk_drewN ?_ _ | refine blk_drew ?_ | refine blk_alloc ?_ _)); exact BK221.out) hb); have n2_ := Aside0.mk (below_step (by repeat (first | (with_reducible first | exact HB.out | apply below_alloc | apply pw_below_drewN | apply below_drew1 | refine below_set ?_ GE221.out) | exact HB.out)) hb); have n3_ := Aside0.mk (hbox); have n4_ := Aside0.mk ((by rw [hg]; exact (below_size (by repeat (first | (with_reducible first | exact HB.out | apply below_alloc | apply pw_below_drewN | apply below_drew1 | refine below_set ?_ GE221.out) | exact HB.out))) : w.heap.size ≤ gb223)); have n5_ := Aside0.mk ((by rw [hg]; exact (below_size (by repeat (first | (with_reducible first | exact HB.out | apply below_alloc | apply pw_below_drewN | apply below_drew1 | refine below_set ?_ GE221.out) | exact HB.out))) : w.heap.size ≤ gb223)); have n6_ := Aside0.mk ((by rw [hg]; exact Nat.ne_of_lt (blk_lt (g := gb221) (o := .cells #[.int .i64 a0_0, .slice (some ad222) l0_1.length c0_1] 24 (0, 0)) (by (with_reducible repeat (first | refine blk_drewN ?_ _ | refine blk_drew ?_ | refine blk_alloc ?_ _)); exact BK221.out)) : gb221 ≠ gb223)); have n7_ := Aside0.mk ((by rw [hg]; exact Nat.ne_of_gt (blk_lt (g := gb221) (o := .cells #[.int .i64 a0_0, .slice (some ad222) l0_1.length c0_1] 24 (0, 0)) (by (with_reducible repeat (first | refine blk_drewN ?_ _ | refine blk_drew ?_ | refine blk_alloc ?_ _)); exact BK221.out)) : gb223 ≠ gb221)); clear HO_5; clear BK221; clear HB; have HO_5 := n0_; have BK221 := n1_; have HB := n2_; have BK223 := n3_; have GW223 := n4_; have GE223 := n5_; have NB221_223 := n6_; have NB223_221 := n7_; clear n0_ n1_ n2_ n3_ n4_ n5_ n6_ n7_; clear hb hbox hg; have hnb23 := NB223_221.out; have hnc23 := NB221_223.out; have hcz24_0 : w22.cell? ⟨gb223, 0, none⟩ = some (.string (⟨#[]⟩ : ByteArray)) := (blk_cell BK223.out 0).trans rfl; have hcz24_1 : w22.cell? ⟨gb223, 1, none⟩ = some (.string (⟨#[]⟩ : ByteArray)) := (blk_cell BK223.out 1).trans rfl; have hcz24_2 : w22.cell? ⟨gb223, 2, none⟩ = some (.int .i64 0) := (blk_cell BK223.out 2).trans rfl; have hcz24_3 : w22.cell? ⟨gb223, 3, none⟩ = some (.int .i64 0) := (blk_cell BK223.out 3).trans rfl; have hfz24_0 := blk_frozen BK223.out 0; have hfz24_1 := blk_frozen BK223.out 1; have hfz24_2 := blk_frozen BK223.out 2; have hfz24_3 := blk_frozen BK223.out 3))
          go_ret
          exact ⟨by first | rfl | (simp [errW_none, errW_some] <;> rfl) | (simp [*, errW_none, errW_some] <;> rfl), by repeat (first | (with_reducible first | exact HB.out | apply below_alloc | apply pw_below_drewN | apply below_drew1 | refine below_set ?_ GE221.out | refine below_set ?_ GE223.out) | exact HB.out)⟩
         ·
          rw [if_neg c20] at H
          have c20b0 : decide (a1 < ((rd_T38 l0_1 x6_2).f1)) = false := decide_eq_false c20
          clear c20
          by_cases c25 : ((rd_T38 l0_1 x6_2).f2) < 1
          ·
           rw [if_pos c25] at H
           have c25b0 : decide (((rd_T38 l0_1 x6_2).f2) < 1) = true := decide_eq_true c25
           clear c25
           obtain rfl := Option.some.inj H
           have hcz26_0 : wr.cell? ⟨gb221, 0, none⟩ = some (.int .i64 a0_0) := (blk_cell BK221.out 0).trans rfl
           have hcz26_1 : wr.cell? ⟨gb221, 1, none⟩ = some (.slice A0_1 l0_1.length c0_1) := (blk_cell BK221.out 1).trans rfl
           have hfz26_0 := blk_frozen BK221.out 0
           have hfz26_1 := blk_frozen BK221.out 1
           have p222 : 0 ≤ (x6_2 : Int) := of_decide_eq_true (by first | (with_reducible assumption) | assumption)
           have q222 : x6_2 < (l0_1.length : Int) := of_decide_eq_true (by first | (with_reducible assumption) | assumption)
           obtain ⟨ad222, e222, hx222_0, hx222_1, hx222_2, hx222_3⟩ := at_T38 HR0_1.out x6_2 p222 q222
           cases e222
           replace hx222_0 := (HB.out.cell (World.block_lt_of_cell? w _ hx222_0)).trans hx222_0
           replace hx222_1 := (HB.out.cell (World.block_lt_of_cell? w _ hx222_1)).trans hx222_1
           replace hx222_2 := (HB.out.cell (World.block_lt_of_cell? w _ hx222_2)).trans hx222_2
           replace hx222_3 := (HB.out.cell (World.block_lt_of_cell? w _ hx222_3)).trans hx222_3
           replace p222 := eq_true p222
           replace q222 := eq_true q222
           go_wp2_with (first | ((with_reducible refine gate_dst (N := 7) rfl ?_); (try (refine gate_guard (by rfl) ?_; dsimp only)); refine box_event ?hg (N := 7) ?hd (cs := #[.string (⟨#[]⟩ : ByteArray), .string (⟨#[]⟩ : ByteArray), .int .i64 0, .int .i64 0]) (t := 38) ?hr ?_; (case hd => rfl); (case hg => rfl); (case hr => first | (go_simp; done) | (go_simp; rfl)); intro gb223 hg w27 hbox hb; have n0_ := Aside0.mk (Kd.R_below (by (with_reducible repeat (first | apply Kd.R_alloc | apply Kd.R_drewN | apply Kd.R_drew)); exact HO_5.out) hb); have n1_ := Aside0.mk (blk_below (g := gb221) (o := .cells #[.int .i64 a0_0, .slice (some ad222) l0_1.length c0_1] 24 (0, 0)) (by (with_reducible repeat (first | refine blk_drewN ?_ _ | refine blk_drew ?_ | refine blk_alloc ?_ _)); exact BK221.out) hb); have n2_ := Aside0.mk (below_step (by repeat (first | (with_reducible first | exact HB.out | apply below_alloc | apply pw_below_drewN | apply below_drew1 | refine below_set ?_ GE221.out) | exact HB.out)) hb); have n3_ := Aside0.mk (hbox); have n4_ := Aside0.mk ((by rw [hg]; exact (below_size (by repeat (first | (with_reducible first | exact HB.out | apply below_alloc | apply pw_below_drewN | apply below_drew1 | refine below_set ?_ GE221.out) | exact HB.out))) : w.heap.size ≤ gb223)); have n5_ := Aside0.mk ((by rw [hg]; exact (below_size (by repeat (first | (with_reducible first | exact HB.out | apply below_alloc | apply pw_below_drewN | apply below_drew1 | refine below_set ?_ GE221.out) | exact HB.out))) : w.heap.size ≤ gb223)); have n6_ := Aside0.mk ((by rw [hg]; exact Nat.ne_of_lt (blk_lt (g := gb221) (o := .cells #[.int .i64 a0_0, .slice (some ad222) l0_1.length c0_1] 24 (0, 0)) (by (with_reducible repeat (first | refine blk_drewN ?_ _ | refine blk_drew ?_ | refine blk_alloc ?_ _)); exact BK221.out)) : gb221 ≠ gb223)); have n7_ := Aside0.mk ((by rw [hg]; exact Nat.ne_of_gt (blk_lt (g := gb221) (o := .cells #[.int .i64 a0_0, .slice (some ad222) l0_1.length c0_1] 24 (0, 0)) (by (with_reducible repeat (first | refine blk_drewN ?_ _ | refine blk_drew ?_ | refine blk_alloc ?_ _)); exact BK221.out)) : gb223 ≠ gb221)); clear HO_5; clear BK221; clear HB; have HO_5 := n0_; have BK221 := n1_; have HB := n2_; have BK223 := n3_; have GW223 := n4_; have GE223 := n5_; have NB221_223 := n6_; have NB223_221 := n7_; clear n0_ n1_ n2_ n3_ n4_ n5_ n6_ n7_; clear hb hbox hg; have hnb28 := NB223_221.out; have hnc28 := NB221_223.out; have hcz29_0 : w27.cell? ⟨gb223, 0, none⟩ = some (.string (⟨#[]⟩ : ByteArray)) := (blk_cell BK223.out 0).trans rfl; have hcz29_1 : w27.cell? ⟨gb223, 1, none⟩ = some (.string (⟨#[]⟩ : ByteArray)) := (blk_cell BK223.out 1).trans rfl; have hcz29_2 : w27.cell? ⟨gb223, 2, none⟩ = some (.int .i64 0) := (blk_cell BK223.out 2).trans rfl; have hcz29_3 : w27.cell? ⟨gb223, 3, none⟩ = some (.int .i64 0) := (blk_cell BK223.out 3).trans rfl; have hfz29_0 := blk_frozen BK223.out 0; have hfz29_1 := blk_frozen BK223.out 1; have hfz29_2 := blk_frozen BK223.out 2; have hfz29_3 := blk_frozen BK223.out 3))
           go_ret
           exact ⟨by first | rfl | (simp [errW_none, errW_some] <;> rfl) | (simp [*, errW_none, errW_some] <;> rfl), by repeat (first | (with_reducible first | exact HB.out | apply below_alloc | apply pw_below_drewN | apply below_drew1 | refine below_set ?_ GE221.out | refine below_set ?_ GE223.out) | exact HB.out)⟩
          ·
           rw [if_neg c25] at H
           have c25b0 : decide (((rd_T38 l0_1 x6_2).f2) < 1) = false := decide_eq_false c25
           clear c25
           by_cases c30 : ((rd_T38 l0_1 x6_2).f2) > a0_0
           ·
            rw [if_pos c30] at H
            have c30b0 : decide (a0_0 < ((rd_T38 l0_1 x6_2).f2)) = true := decide_eq_true c30
            clear c30
            obtain rfl := Option.some.inj H
            have hcz31_0 : wr.cell? ⟨gb221, 0, none⟩ = some (.int .i64 a0_0) := (blk_cell BK221.out 0).trans rfl
            have hcz31_1 : wr.cell? ⟨gb221, 1, none⟩ = some (.slice A0_1 l0_1.length c0_1) := (blk_cell BK221.out 1).trans rfl
            have hfz31_0 := blk_frozen BK221.out 0
            have hfz31_1 := blk_frozen BK221.out 1
            have p222 : 0 ≤ (x6_2 : Int) := of_decide_eq_true (by first | (with_reducible assumption) | assumption)
            have q222 : x6_2 < (l0_1.length : Int) := of_decide_eq_true (by first | (with_reducible assumption) | assumption)
            obtain ⟨ad222, e222, hx222_0, hx222_1, hx222_2, hx222_3⟩ := at_T38 HR0_1.out x6_2 p222 q222
            cases e222
            replace hx222_0 := (HB.out.cell (World.block_lt_of_cell? w _ hx222_0)).trans hx222_0
            replace hx222_1 := (HB.out.cell (World.block_lt_of_cell? w _ hx222_1)).trans hx222_1
            replace hx222_2 := (HB.out.cell (World.block_lt_of_cell? w _ hx222_2)).trans hx222_2
            replace hx222_3 := (HB.out.cell (World.block_lt_of_cell? w _ hx222_3)).trans hx222_3
            replace p222 := eq_true p222
            replace q222 := eq_true q222
            go_wp2_with (first | ((with_reducible refine gate_dst (N := 7) rfl ?_); (try (refine gate_guard (by rfl) ?_; dsimp only)); refine box_event ?hg (N := 7) ?hd (cs := #[.string (⟨#[]⟩ : ByteArray), .string (⟨#[]⟩ : ByteArray), .int .i64 0, .int .i64 0]) (t := 38) ?hr ?_; (case hd => rfl); (case hg => rfl); (case hr => first | (go_simp; done) | (go_simp; rfl)); intro gb223 hg w32 hbox hb; have n0_ := Aside0.mk (Kd.R_below (by (with_reducible repeat (first | apply Kd.R_alloc | apply Kd.R_drewN | apply Kd.R_drew)); exact HO_5.out) hb); have n1_ := Aside0.mk (blk_below (g := gb221) (o := .cells #[.int .i64 a0_0, .slice (some ad222) l0_1.length c0_1] 24 (0, 0)) (by (with_reducible repeat (first | refine blk_drewN ?_ _ | refine blk_drew ?_ | refine blk_alloc ?_ _)); exact BK221.out) hb); have n2_ := Aside0.mk (below_step (by repeat (first | (with_reducible first | exact HB.out | apply below_alloc | apply pw_below_drewN | apply below_drew1 | refine below_set ?_ GE221.out) | exact HB.out)) hb); have n3_ := Aside0.mk (hbox); have n4_ := Aside0.mk ((by rw [hg]; exact (below_size (by repeat (first | (with_reducible first | exact HB.out | apply below_alloc | apply pw_below_drewN | apply below_drew1 | refine below_set ?_ GE221.out) | exact HB.out))) : w.heap.size ≤ gb223)); have n5_ := Aside0.mk ((by rw [hg]; exact (below_size (by repeat (first | (with_reducible first | exact HB.out | apply below_alloc | apply pw_below_drewN | apply below_drew1 | refine below_set ?_ GE221.out) | exact HB.out))) : w.heap.size ≤ gb223)); have n6_ := Aside0.mk ((by rw [hg]; exact Nat.ne_of_lt (blk_lt (g := gb221) (o := .cells #[.int .i64 a0_0, .slice (some ad222) l0_1.length c0_1] 24 (0, 0)) (by (with_reducible repeat (first | refine blk_drewN ?_ _ | refine blk_drew ?_ | refine blk_alloc ?_ _)); exact BK221.out)) : gb221 ≠ gb223)); have n7_ := Aside0.mk ((by rw [hg]; exact Nat.ne_of_gt (blk_lt (g := gb221) (o := .cells #[.int .i64 a0_0, .slice (some ad222) l0_1.length c0_1] 24 (0, 0)) (by (with_reducible repeat (first | refine blk_drewN ?_ _ | refine blk_drew ?_ | refine blk_alloc ?_ _)); exact BK221.out)) : gb223 ≠ gb221)); clear HO_5; clear BK221; clear HB; have HO_5 := n0_; have BK221 := n1_; have HB := n2_; have BK223 := n3_; have GW223 := n4_; have GE223 := n5_; have NB221_223 := n6_; have NB223_221 := n7_; clear n0_ n1_ n2_ n3_ n4_ n5_ n6_ n7_; clear hb hbox hg; have hnb33 := NB223_221.out; have hnc33 := NB221_223.out; have hcz34_0 : w32.cell? ⟨gb223, 0, none⟩ = some (.string (⟨#[]⟩ : ByteArray)) := (blk_cell BK223.out 0).trans rfl; have hcz34_1 : w32.cell? ⟨gb223, 1, none⟩ = some (.string (⟨#[]⟩ : ByteArray)) := (blk_cell BK223.out 1).trans rfl; have hcz34_2 : w32.cell? ⟨gb223, 2, none⟩ = some (.int .i64 0) := (blk_cell BK223.out 2).trans rfl; have hcz34_3 : w32.cell? ⟨gb223, 3, none⟩ = some (.int .i64 0) := (blk_cell BK223.out 3).trans rfl; have hfz34_0 := blk_frozen BK223.out 0; have hfz34_1 := blk_frozen BK223.out 1; have hfz34_2 := blk_frozen BK223.out 2; have hfz34_3 := blk_frozen BK223.out 3; have hcz35_0 : w32.cell? ⟨gb221, 0, none⟩ = some (.int .i64 a0_0) := (blk_cell BK221.out 0).trans rfl; have hcz35_1 : w32.cell? ⟨gb221, 1, none⟩ = some (.slice (some ad222) l0_1.length c0_1) := (blk_cell BK221.out 1).trans rfl; have hfz35_0 := blk_frozen BK221.out 0; have hfz35_1 := blk_frozen BK221.out 1))
            go_ret
            exact ⟨by first | rfl | (simp [errW_none, errW_some] <;> rfl) | (simp [*, errW_none, errW_some] <;> rfl), by repeat (first | (with_reducible first | exact HB.out | apply below_alloc | apply pw_below_drewN | apply below_drew1 | refine below_set ?_ GE221.out | refine below_set ?_ GE223.out) | exact HB.out)⟩
           ·
            rw [if_neg c30] at H
            have c30b0 : decide (a0_0 < ((rd_T38 l0_1 x6_2).f2)) = false := decide_eq_false c30
            clear c30
            by_cases c36 : x5_2.length < 4398046511104
            ·
             rw [if_pos c36] at H
             have LMc36 := Aside0.mk c36
             clear c36
             obtain ⟨y224, hy224⟩ : ∃ y_ : List (S28), y_ = (x5_2 ++ [(⟨(rd_T38 l0_1 x6_2).f0.f0, (rd_T38 l0_1 x6_2).f0.f1⟩ : S28)]) := ⟨_, rfl⟩
             replace H : (gazetteerref5_AtlasMay.l0 k2 a1 y224 (wrap64 (x6_2 + 1)) a0_0 l0_1) = some r := by first | (rw [hy224]; with_reducible exact H) | (have H2_ := (Option.bind_some _ _).symm.trans H; rw [hy224]; with_reducible exact H2_) | (have H2_ := (Option.bind_some _ _).symm.trans H; with_reducible exact H2_) | with_reducible exact H | (rw [hy224]; exact H) | exact H
             have Ny224 := Aside0.mk hy224
             clear hy224
             have H' := Aside0.mk H
             clear H
             have hcz37_0 : wr.cell? ⟨gb221, 0, none⟩ = some (.int .i64 a0_0) := (blk_cell BK221.out 0).trans rfl
             have hcz37_1 : wr.cell? ⟨gb221, 1, none⟩ = some (.slice A0_1 l0_1.length c0_1) := (blk_cell BK221.out 1).trans rfl
             have hfz37_0 := blk_frozen BK221.out 0
             have hfz37_1 := blk_frozen BK221.out 1
             have p222 : 0 ≤ (x6_2 : Int) := of_decide_eq_true (by first | (with_reducible assumption) | assumption)
             have q222 : x6_2 < (l0_1.length : Int) := of_decide_eq_true (by first | (with_reducible assumption) | assumption)
             obtain ⟨ad222, e222, hx222_0, hx222_1, hx222_2, hx222_3⟩ := at_T38 HR0_1.out x6_2 p222 q222
             cases e222
             replace hx222_0 := (HB.out.cell (World.block_lt_of_cell? w _ hx222_0)).trans hx222_0
             replace hx222_1 := (HB.out.cell (World.block_lt_of_cell? w _ hx222_1)).trans hx222_1
             replace hx222_2 := (HB.out.cell (World.block_lt_of_cell? w _ hx222_2)).trans hx222_2
             replace hx222_3 := (HB.out.cell (World.block_lt_of_cell? w _ hx222_3)).trans hx222_3
             replace p222 := eq_true p222
             replace q222 := eq_true q222
             go_wp2_with (first | ((with_reducible refine gate_dst (N := 7) rfl ?_); (try (refine gate_guard (by rfl) ?_; dsimp only)); refine box_event ?hg (N := 7) ?hd (cs := #[.string (⟨#[]⟩ : ByteArray), .string (⟨#[]⟩ : ByteArray), .int .i64 0, .int .i64 0]) (t := 38) ?hr ?_; (case hd => rfl); (case hg => rfl); (case hr => first | (go_simp; done) | (go_simp; rfl)); intro gb223 hg w38 hbox hb; have n0_ := Aside0.mk (Kd.R_below (by (with_reducible repeat (first | apply Kd.R_alloc | apply Kd.R_drewN | apply Kd.R_drew)); exact HO_5.out) hb); have n1_ := Aside0.mk (blk_below (g := gb221) (o := .cells #[.int .i64 a0_0, .slice (some ad222) l0_1.length c0_1] 24 (0, 0)) (by (with_reducible repeat (first | refine blk_drewN ?_ _ | refine blk_drew ?_ | refine blk_alloc ?_ _)); exact BK221.out) hb); have n2_ := Aside0.mk (below_step (by repeat (first | (with_reducible first | exact HB.out | apply below_alloc | apply pw_below_drewN | apply below_drew1 | refine below_set ?_ GE221.out) | exact HB.out)) hb); have n3_ := Aside0.mk (hbox); have n4_ := Aside0.mk ((by rw [hg]; exact (below_size (by repeat (first | (with_reducible first | exact HB.out | apply below_alloc | apply pw_below_drewN | apply below_drew1 | refine below_set ?_ GE221.out) | exact HB.out))) : w.heap.size ≤ gb223)); have n5_ := Aside0.mk ((by rw [hg]; exact (below_size (by repeat (first | (with_reducible first | exact HB.out | apply below_alloc | apply pw_below_drewN | apply below_drew1 | refine below_set ?_ GE221.out) | exact HB.out))) : w.heap.size ≤ gb223)); have n6_ := Aside0.mk ((by rw [hg]; exact Nat.ne_of_lt (blk_lt (g := gb221) (o := .cells #[.int .i64 a0_0, .slice (some ad222) l0_1.length c0_1] 24 (0, 0)) (by (with_reducible repeat (first | refine blk_drewN ?_ _ | refine blk_drew ?_ | refine blk_alloc ?_ _)); exact BK221.out)) : gb221 ≠ gb223)); have n7_ := Aside0.mk ((by rw [hg]; exact Nat.ne_of_gt (blk_lt (g := gb221) (o := .cells #[.int .i64 a0_0, .slice (some ad222) l0_1.length c0_1] 24 (0, 0)) (by (with_reducible repeat (first | refine blk_drewN ?_ _ | refine blk_drew ?_ | refine blk_alloc ?_ _)); exact BK221.out)) : gb223 ≠ gb221)); clear HO_5; clear BK221; clear HB; have HO_5 := n0_; have BK221 := n1_; have HB := n2_; have BK223 := n3_; have GW223 := n4_; have GE223 := n5_; have NB221_223 := n6_; have NB223_221 := n7_; clear n0_ n1_ n2_ n3_ n4_ n5_ n6_ n7_; clear hb hbox hg; have hnb39 := NB223_221.out; have hnc39 := NB221_223.out; have hcz40_0 : w38.cell? ⟨gb223, 0, none⟩ = some (.string (⟨#[]⟩ : ByteArray)) := (blk_cell BK223.out 0).trans rfl; have hcz40_1 : w38.cell? ⟨gb223, 1, none⟩ = some (.string (⟨#[]⟩ : ByteArray)) := (blk_cell BK223.out 1).trans rfl; have hcz40_2 : w38.cell? ⟨gb223, 2, none⟩ = some (.int .i64 0) := (blk_cell BK223.out 2).trans rfl; have hcz40_3 : w38.cell? ⟨gb223, 3, none⟩ = some (.int .i64 0) := (blk_cell BK223.out 3).trans rfl; have hfz40_0 := blk_frozen BK223.out 0; have hfz40_1 := blk_frozen BK223.out 1; have hfz40_2 := blk_frozen BK223.out 2; have hfz40_3 := blk_frozen BK223.out 3; have hcz41_0 : w38.cell? ⟨gb221, 0, none⟩ = some (.int .i64 a0_0) := (blk_cell BK221.out 0).trans rfl; have hcz41_1 : w38.cell? ⟨gb221, 1, none⟩ = some (.slice (some ad222) l0_1.length c0_1) := (blk_cell BK221.out 1).trans rfl; have hfz41_0 := blk_frozen BK221.out 0; have hfz41_1 := blk_frozen BK221.out 1) | ((with_reducible refine gate_builtin (b := .append) (xs := #[.tmp 64, .tmp 67]) rfl ?_); (try (refine gate_guard (by rfl) ?_; dsimp only)); at_builtin; refine Kd.R_append k28 (w0 := w) w.heap.size rfl (.tmp 64) (.tmp 67) 83 28 (.agg #[(.string ⟨#[]⟩), (.string ⟨#[]⟩)]) 32 rfl Try.underlying83 info28 rfl (by decide) (by omega) u5 x5_2 (⟨(rd_T38 l0_1 x6_2).f0.f0, (rd_T38 l0_1 x6_2).f0.f1⟩ : S28) [.string ((rd_T38 l0_1 x6_2).f0.f0), .string ((rd_T38 l0_1 x6_2).f0.f1)] (fun _ => True) (fun _ => False) rfl (by first | (go_simp; done) | (go_simp; rfl)) ?aP (fun _ hk => hk.elim) ?aF ?aO ?aB ?aS ?aL ?_; (case aP => exact k28_mkM _ _ _ (⟨(rd_T38 l0_1 x6_2).f0.f0, (rd_T38 l0_1 x6_2).f0.f1⟩ : S28)); (case aB => exact (by repeat (first | (with_reducible first | exact HB.out | apply below_alloc | apply pw_below_drewN | apply below_drew1 | refine below_set ?_ GE221.out | refine below_set ?_ GE223.out) | exact HB.out))); (case aF => exact (fun _ _ => trivial)); (case aO => exact (by (with_reducible repeat (first | apply Kd.R_alloc | apply Kd.R_drewN | apply Kd.R_drew)); exact Kd.R_mono (Kd.R_far (p := ⟨gb223, 3, none⟩) (Kd.R_far (p := ⟨gb223, 2, none⟩) (Kd.R_far (p := ⟨gb223, 1, none⟩) (Kd.R_far (p := ⟨gb223, 0, none⟩) (Kd.R_types HO_5.out BK223.out (by decide)) (fun _ hk => hk.2) (.string ((rd_T38 l0_1 x6_2).f0.f0))) (fun _ hk => hk.2) (.string ((rd_T38 l0_1 x6_2).f0.f1))) (fun _ hk => hk.2) (.int .i64 ((rd_T38 l0_1 x6_2).f1))) (fun _ hk => hk.2) (.int .i64 ((rd_T38 l0_1 x6_2).f2))) (fun _ hk => trivial))); (case aS => exact (below_size (by repeat (first | (with_reducible first | exact HB.out | apply below_alloc | apply pw_below_drewN | apply below_drew1 | refine below_set ?_ GE221.out | refine below_set ?_ GE223.out) | exact HB.out)))); (case aL => have := LMc36.out; omega); intro v225 w42 ho hb hg hat; rw [← Ny224.out] at ho; have n0_ := Aside0.mk (blk_grown (g := gb221) (o := .cells #[.int .i64 a0_0, .slice (some ad222) l0_1.length c0_1] 24 (0, 0)) (by (with_reducible repeat (first | refine blk_drewN ?_ _ | refine blk_drew ?_ | refine blk_alloc ?_ _)); refine blk_far ?_ NB221_223.out _; (with_reducible repeat (first | refine blk_drewN ?_ _ | refine blk_drew ?_ | refine blk_alloc ?_ _)); refine blk_far ?_ NB221_223.out _; (with_reducible repeat (first | refine blk_drewN ?_ _ | refine blk_drew ?_ | refine blk_alloc ?_ _)); refine blk_far ?_ NB221_223.out _; (with_reducible repeat (first | refine blk_drewN ?_ _ | refine blk_drew ?_ | refine blk_alloc ?_ _)); refine blk_far ?_ NB221_223.out _; (with_reducible repeat (first | refine blk_drewN ?_ _ | refine blk_drew ?_ | refine blk_alloc ?_ _)); exact BK221.out) hg (Kd.R_ne HO_5.out BK221.out (by decide))); have n1_ := Aside0.mk (blk_grown (g := gb223) (o := .cells #[.string ((rd_T38 l0_1 x6_2).f0.f0), .string ((rd_T38 l0_1 x6_2).f0.f1), .int .i64 ((rd_T38 l0_1 x6_2).f1), .int .i64 ((rd_T38 l0_1 x6_2).f2)] 38 (0, 0)) (by (with_reducible repeat (first | refine blk_drewN ?_ _ | refine blk_drew ?_ | refine blk_alloc ?_ _)); refine blk_put (cs := #[.string ((rd_T38 l0_1 x6_2).f0.f0), .string ((rd_T38 l0_1 x6_2).f0.f1), .int .i64 ((rd_T38 l0_1 x6_2).f1), .int .i64 0]) ?_ 3 _ rfl; (with_reducible repeat (first | refine blk_drewN ?_ _ | refine blk_drew ?_ | refine blk_alloc ?_ _)); refine blk_put (cs := #[.string ((rd_T38 l0_1 x6_2).f0.f0), .string ((rd_T38 l0_1 x6_2).f0.f1), .int .i64 0, .int .i64 0]) ?_ 2 _ rfl; (with_reducible repeat (first | refine blk_drewN ?_ _ | refine blk_drew ?_ | refine blk_alloc ?_ _)); refine blk_put (cs := #[.string ((rd_T38 l0_1 x6_2).f0.f0), .string (⟨#[]⟩ : ByteArray), .int .i64 0, .int .i64 0]) ?_ 1 _ rfl; (with_reducible repeat (first | refine blk_drewN ?_ _ | refine blk_drew ?_ | refine blk_alloc ?_ _)); refine blk_put (cs := #[.string (⟨#[]⟩ : ByteArray), .string (⟨#[]⟩ : ByteArray), .int .i64 0, .int .i64 0]) ?_ 0 _ rfl; (with_reducible repeat (first | refine blk_drewN ?_ _ | refine blk_drew ?_ | refine blk_alloc ?_ _)); exact BK223.out) hg (Kd.R_ne HO_5.out BK223.out (by decide))); have n2_ := Aside0.mk (hb); have n3_ := Aside0.mk (ho); clear BK221; clear BK223; clear HB; clear HO_5; have BK221 := n0_; have BK223 := n1_; have HB := n2_; have HO226 := n3_; clear n0_ n1_ n2_ n3_; clear ho hb hg hat))
             go_roundg k2
             case measure => have := HJ2.out; have := HK2.out; omega
             case rel => exact ⟨(y224), (wrap64 (x6_2 + 1)), (by first | rfl | (simp; done) | (simp [*]; done)), H', ⟨by have := HJ2.out; have := HK2.out; omega⟩, ⟨by (with_reducible repeat (first | apply Kd.R_alloc | apply Kd.R_drewN | apply Kd.R_drew)); exact HO226.out⟩, ⟨by (with_reducible repeat (first | refine blk_drewN ?_ _ | refine blk_drew ?_ | refine blk_alloc ?_ _)); exact BK221.out⟩, ⟨by repeat (first | (with_reducible first | exact HB.out | apply below_alloc | apply pw_below_drewN | apply below_drew1 | refine below_set ?_ GE221.out | refine below_set ?_ GE223.out) | exact HB.out)⟩⟩
            ·
             rw [if_neg c36] at H
             exact absurd H (by simp)
       ·
        rw [if_neg c14] at H
        exact absurd H (by simp)
      ·
       rw [if_neg c13] at H
       have c13b0 : decide (x6_2 < (l0_1.length : Int)) = false := decide_eq_false c13
       clear c13
       replace H := Option.bind_eq_some_iff.mp H
       obtain ⟨t227, A430, H⟩ := H
       replace H : (some t227) = some r := H
       have A43 := Aside0.mk A430
       clear A430
       obtain rfl := Option.some.inj H
       have hcz44_0 : wr.cell? ⟨gb221, 0, none⟩ = some (.int .i64 a0_0) := (blk_cell BK221.out 0).trans rfl
       have hcz44_1 : wr.cell? ⟨gb221, 1, none⟩ = some (.slice A0_1 l0_1.length c0_1) := (blk_cell BK221.out 1).trans rfl
       have hfz44_0 := blk_frozen BK221.out 0
       have hfz44_1 := blk_frozen BK221.out 1
       obtain ⟨Ao45, co45, eo45⟩ := Kd.R_slice HO_5.out
       subst eo45
       go_wp2_with (first | ((with_reducible refine gate_callee (f := 54) rfl ?_); refine goesL_ (some 70) rfl rfl Try.func54 (by kernel_rfl) rfl #[.slice Ao45 x5_2.length co45] rfl (by (try simp only [List.map_toArray, List.map_cons, List.map_nil]); first | done | rfl | (simp only [List.length_drop, List.length_take]; done) | (simp only [List.length_drop, List.length_take]; rfl)) ?_; (with_reducible refine (gazetteerref5_Whole.calls k2 _ _ x5_2 t227 _ ?side1 ?side2 A43.out).mono ?_); (case side1 => repeat (first | exact (Kd.R_reads' HO_5.out).2.2 | (with_reducible refine Kd.C_alloc ?_ _) | (with_reducible refine Kd.C_drewN ?_ _) | (with_reducible refine Kd.C_drew ?_))); (case side2 => exact (Kd.R_reads' HO_5.out).2.1); rintro e w46 ⟨rfl, hb⟩; refine ⟨_, rfl, ?_⟩; have n0_ := Aside0.mk (Kd.R_below (by (with_reducible repeat (first | apply Kd.R_alloc | apply Kd.R_drewN | apply Kd.R_drew)); exact HO_5.out) hb); have n1_ := Aside0.mk (blk_below (g := gb221) (o := .cells #[.int .i64 a0_0, .slice A0_1 l0_1.length c0_1] 24 (0, 0)) (by (with_reducible repeat (first | refine blk_drewN ?_ _ | refine blk_drew ?_ | refine blk_alloc ?_ _)); exact BK221.out) hb); have n2_ := Aside0.mk (below_step (by repeat (first | (with_reducible first | exact HB.out | apply below_alloc | apply pw_below_drewN | apply below_drew1 | refine below_set ?_ GE221.out) | exact HB.out)) hb); clear HO_5; clear BK221; clear HB; have HO_5 := n0_; have BK221 := n1_; have HB := n2_; clear n0_ n1_ n2_; (try clear hb); (try clear hb2); (try clear hk); (try clear hi)))
       go_ret
       exact ⟨by first | rfl | (simp [errW_none, errW_some] <;> rfl) | (simp [*, errW_none, errW_some] <;> rfl), by repeat (first | (with_reducible first | exact HB.out | apply below_alloc | apply pw_below_drewN | apply below_drew1 | refine below_set ?_ GE221.out) | exact HB.out)⟩

/-! ### gazetteerlaw14_AtlasOwns: function 3 -/
mutual
def gazetteerlaw14_AtlasOwns.j0 : Nat → ByteArray → Bool → Int → List (S38) → Option (Bool)
 | 0, _, _, _, _ => none
 | k + 1, x1, x18, x229000, x229001 => if x18 = true then (some true) else ((gazetteerlaw14_Made.f k x229000 x229001).bind fun bt231 => ((atlas_Owner.f bt231.1 bt231.2 x1).bind fun bt235 => (gazetteerlaw14_AtlasOwns.l0 k x1 bt235.2.2.2.2 0 0 x229000 x229001 bt235.1 bt235.2.1 bt235.2.2.1 bt235.2.2.2.1)))
def gazetteerlaw14_AtlasOwns.l0 : Nat → ByteArray → Bool → Int → Int → Int → List (S38) → ByteArray → ByteArray → Int → Int → Option (Bool)
 | 0, _, _, _, _, _, _, _, _, _, _ => none
 | k + 1, x1, x6, x7, x8, x229000, x229001, x241000, x241001, x241002, x241003 => if x8 < (x229001.length : Int) then (if 0 ≤ x8 then ((gazetteerref5_Has.f ((rd_T38 x229001 x8).f0.f0) ((rd_T38 x229001 x8).f0.f1) x1).bind fun t242 => (if t242 = true then (gazetteerlaw14_AtlasOwns.l0 k x1 x6 (wrap64 (x7 + 1)) (wrap64 (x8 + 1)) x229000 x229001 x241000 x241001 x241002 x241003) else (gazetteerlaw14_AtlasOwns.l0 k x1 x6 x7 (wrap64 (x8 + 1)) x229000 x229001 x241000 x241001 x241002 x241003))) else (none)) else ((gazetteerref5_AtlasMay.f k x229000 x229001 5).bind fun t243 => (if t243 = true then (if x6 = true then (if x7 = 1 then ((gazetteerref5_Has.f x241000 x241001 x1).bind fun t244 => (if t244 = true then (if x241002 ≥ 1 then (some (decide (x241002 ≤ 5))) else (some false)) else (some false))) else (some false)) else (some false)) else (some (x6 == (decide (x7 > 0))))))
end
def gazetteerlaw14_AtlasOwns.f (k : Nat) (a0_0 : Int) (l0_1 : List (S38)) (a1 : ByteArray) : Option (Bool) := (gazetteerlaw14_awake.f k).bind fun t229 => (if t229 = true then ((gazetteerlaw14_Small.f k a0_0 l0_1).bind fun t230 => (if t230 = true then (gazetteerlaw14_AtlasOwns.j0 k a1 (decide ((a1.size : Int) > 300)) a0_0 l0_1) else (gazetteerlaw14_AtlasOwns.j0 k a1 true a0_0 l0_1))) else (some false))
theorem gazetteerlaw14_AtlasOwns.mono_l : ∀ k, (∀ y0 y1 y2 y3, LeO (gazetteerlaw14_AtlasOwns.j0 k y0 y1 y2 y3) (gazetteerlaw14_AtlasOwns.j0 (k + 1) y0 y1 y2 y3)) ∧ (∀ y0 y1 y2 y3 y4 y5 y6 y7 y8 y9, LeO (gazetteerlaw14_AtlasOwns.l0 k y0 y1 y2 y3 y4 y5 y6 y7 y8 y9) (gazetteerlaw14_AtlasOwns.l0 (k + 1) y0 y1 y2 y3 y4 y5 y6 y7 y8 y9))
 | 0 => ⟨fun _ _ _ _ r h => by simp [gazetteerlaw14_AtlasOwns.j0] at h, fun _ _ _ _ _ _ _ _ _ _ r h => by simp [gazetteerlaw14_AtlasOwns.l0] at h⟩
 | k + 1 => by
  obtain ⟨ih0, ih1⟩ := gazetteerlaw14_AtlasOwns.mono_l k
  refine ⟨?_, ?_⟩
  ·
   intro y0 y1 y2 y3
   unfold gazetteerlaw14_AtlasOwns.j0
   repeat' first
   | (with_reducible exact ih0 _ _ _ _)
   | (with_reducible exact ih1 _ _ _ _ _ _ _ _ _ _)
   | (with_reducible exact gazetteerlaw14_Made.mono _ _ _)
   | (with_reducible exact gazetteerlaw14_Small.mono _ _ _)
   | (with_reducible exact gazetteerlaw14_awake.mono _)
   | (with_reducible exact gazetteerref5_AtlasMay.mono _ _ _ _)
   | (with_reducible exact LeO.refl _)
   | (with_reducible exact LeO.none _)
   | (with_reducible refine LeO.ite ?_ ?_)
   | (with_reducible refine LeO.bind ?_ (fun _ => ?_))
   | exact ih0 _ _ _ _
   | exact ih1 _ _ _ _ _ _ _ _ _ _
   | exact gazetteerlaw14_Made.mono _ _ _
   | exact gazetteerlaw14_Small.mono _ _ _
   | exact gazetteerlaw14_awake.mono _
   | exact gazetteerref5_AtlasMay.mono _ _ _ _
   | exact LeO.none _
   | refine LeO.ite ?_ ?_
   | refine LeO.bind ?_ (fun _ => ?_)
  ·
   intro y0 y1 y2 y3 y4 y5 y6 y7 y8 y9
   unfold gazetteerlaw14_AtlasOwns.l0
   repeat' first
   | (with_reducible exact ih0 _ _ _ _)
   | (with_reducible exact ih1 _ _ _ _ _ _ _ _ _ _)
   | (with_reducible exact gazetteerlaw14_Made.mono _ _ _)
   | (with_reducible exact gazetteerlaw14_Small.mono _ _ _)
   | (with_reducible exact gazetteerlaw14_awake.mono _)
   | (with_reducible exact gazetteerref5_AtlasMay.mono _ _ _ _)
   | (with_reducible exact LeO.refl _)
   | (with_reducible exact LeO.none _)
   | (with_reducible refine LeO.ite ?_ ?_)
   | (with_reducible refine LeO.bind ?_ (fun _ => ?_))
   | exact ih0 _ _ _ _
   | exact ih1 _ _ _ _ _ _ _ _ _ _
   | exact gazetteerlaw14_Made.mono _ _ _
   | exact gazetteerlaw14_Small.mono _ _ _
   | exact gazetteerlaw14_awake.mono _
   | exact gazetteerref5_AtlasMay.mono _ _ _ _
   | exact LeO.none _
   | refine LeO.ite ?_ ?_
   | refine LeO.bind ?_ (fun _ => ?_)
theorem gazetteerlaw14_AtlasOwns.mono : ∀ a0 a1 a2 k, LeO (gazetteerlaw14_AtlasOwns.f k a0 a1 a2) (gazetteerlaw14_AtlasOwns.f (k + 1) a0 a1 a2) := by
 intro a0 a1 a2 k
 obtain ⟨ih0, ih1⟩ := gazetteerlaw14_AtlasOwns.mono_l k
 unfold gazetteerlaw14_AtlasOwns.f
 repeat' first
   | (with_reducible exact ih0 _ _ _ _)
   | (with_reducible exact ih1 _ _ _ _ _ _ _ _ _ _)
   | (with_reducible exact gazetteerlaw14_Made.mono _ _ _)
   | (with_reducible exact gazetteerlaw14_Small.mono _ _ _)
   | (with_reducible exact gazetteerlaw14_awake.mono _)
   | (with_reducible exact gazetteerref5_AtlasMay.mono _ _ _ _)
   | (with_reducible exact LeO.refl _)
   | (with_reducible exact LeO.none _)
   | (with_reducible refine LeO.ite ?_ ?_)
   | (with_reducible refine LeO.bind ?_ (fun _ => ?_))
   | exact ih0 _ _ _ _
   | exact ih1 _ _ _ _ _ _ _ _ _ _
   | exact gazetteerlaw14_Made.mono _ _ _
   | exact gazetteerlaw14_Small.mono _ _ _
   | exact gazetteerlaw14_awake.mono _
   | exact gazetteerref5_AtlasMay.mono _ _ _ _
   | exact LeO.none _
   | refine LeO.ite ?_ ?_
   | refine LeO.bind ?_ (fun _ => ?_)
set_option maxHeartbeats 8000000 in
set_option maxRecDepth 100000 in
theorem gazetteerlaw14_AtlasOwns.calls (k : Nat) (a0_0 : Int) (A0_1 : Option Addr) (c0_1 : Nat) (l0_1 : List (S38)) (a1 : ByteArray) (r : Bool) (w : World) (hr0_1 : Kd.C k38 w A0_1 l0_1.length l0_1) (hc0_1 : l0_1.length ≤ c0_1) (HLT0 : r = true) (h : gazetteerlaw14_AtlasOwns.f k a0_0 l0_1 a1 = some r) :
  Calls Try.prog 3 #[.agg #[.int .i64 a0_0, .slice A0_1 l0_1.length c0_1], .string a1] w fun e w' => e = .returned (.bool r) ∧ Below w.heap.size w w' := by
 have hu24 := Try.underlying24
 have hu30 := Try.underlying30
 have hu28 := Try.underlying28
 have HLT := Aside0.mk HLT0
 clear HLT0
 have HR0_1 := Aside0.mk hr0_1
 have HC0_1 := Aside0.mk hc0_1
 clear hr0_1 hc0_1
 have HB := Aside0.mk (Below.refl w.heap.size w)
 have H : ((gazetteerlaw14_awake.f k).bind fun t229 => (if t229 = true then ((gazetteerlaw14_Small.f k a0_0 l0_1).bind fun t230 => (if t230 = true then (gazetteerlaw14_AtlasOwns.j0 k a1 (decide ((a1.size : Int) > 300)) a0_0 l0_1) else (gazetteerlaw14_AtlasOwns.j0 k a1 true a0_0 l0_1))) else (some false))) = some r := h
 clear h
 replace H := Option.bind_eq_some_iff.mp H
 obtain ⟨t229, A30, H⟩ := H
 replace H : (if t229 = true then ((gazetteerlaw14_Small.f k a0_0 l0_1).bind fun t230 => (if t230 = true then (gazetteerlaw14_AtlasOwns.j0 k a1 (decide ((a1.size : Int) > 300)) a0_0 l0_1) else (gazetteerlaw14_AtlasOwns.j0 k a1 true a0_0 l0_1))) else (some false)) = some r := H
 have A3 := Aside0.mk A30
 clear A30
 by_cases c4 : t229 = true
 ·
  subst c4
  have H1 : ((gazetteerlaw14_Small.f k a0_0 l0_1).bind fun t230 => (if t230 = true then (gazetteerlaw14_AtlasOwns.j0 k a1 (decide ((a1.size : Int) > 300)) a0_0 l0_1) else (gazetteerlaw14_AtlasOwns.j0 k a1 true a0_0 l0_1))) = some r := by rw [if_pos rfl] at H; exact H
  clear H
  have H := H1
  clear H1
  have HC5 := Aside0.mk H
  clear H
  go_enter Try.func3, Try.ntmps3
  go_upto_region 3 with (first | ((with_reducible refine gate_dst (N := 2) rfl ?_); (try (refine gate_guard (by rfl) ?_; dsimp only)); refine box_event ?hg (N := 2) ?hd (cs := #[.int .i64 a0_0, .slice A0_1 l0_1.length c0_1]) (t := 24) ?hr ?_; (case hd => rfl); (case hg => rfl); (case hr => first | (go_simp; done) | (go_simp; rfl)); intro gb228 hg w6 hbox hb; have n0_ := Aside0.mk (below_step (by repeat (first | (with_reducible first | exact HB.out | apply below_alloc | apply pw_below_drewN | apply below_drew1) | exact HB.out)) hb); have n1_ := Aside0.mk (hbox); have n2_ := Aside0.mk ((by rw [hg]; exact (below_size (by repeat (first | (with_reducible first | exact HB.out | apply below_alloc | apply pw_below_drewN | apply below_drew1) | exact HB.out))) : w.heap.size ≤ gb228)); have n3_ := Aside0.mk ((by rw [hg]; exact (below_size (by repeat (first | (with_reducible first | exact HB.out | apply below_alloc | apply pw_below_drewN | apply below_drew1) | exact HB.out))) : w.heap.size ≤ gb228)); clear HB; have HB := n0_; have BK228 := n1_; have GW228 := n2_; have GE228 := n3_; clear n0_ n1_ n2_ n3_; clear hb hbox hg) | ((with_reducible refine gate_callee (f := 11) rfl ?_); refine goesL_ (some 9) rfl rfl Try.func11 (by kernel_rfl) rfl #[] rfl (by (try simp only [List.map_toArray, List.map_cons, List.map_nil]); first | done | rfl | (simp only [List.length_drop, List.length_take]; done) | (simp only [List.length_drop, List.length_take]; rfl)) ?_; (with_reducible refine (gazetteerlaw14_awake.calls k  true _ A3.out).mono ?_); rintro e w7 ⟨rfl, hb⟩; refine ⟨_, rfl, ?_⟩; have n0_ := Aside0.mk (blk_below (g := gb228) (o := .cells #[.int .i64 a0_0, .slice A0_1 l0_1.length c0_1] 24 (0, 0)) (by (with_reducible repeat (first | refine blk_drewN ?_ _ | refine blk_drew ?_ | refine blk_alloc ?_ _)); exact BK228.out) hb); have n1_ := Aside0.mk (below_step (by repeat (first | (with_reducible first | exact HB.out | apply below_alloc | apply pw_below_drewN | apply below_drew1 | refine below_set ?_ GE228.out) | exact HB.out)) hb); clear BK228; clear HB; have BK228 := n0_; have HB := n1_; clear n0_ n1_; (try clear hb); (try clear hb2); (try clear hk); (try clear hi)))
  (try simp only [Act.put, List.setIfInBounds_toArray, List.set_cons_zero, List.set_cons_succ])
  go_cut [18] (fun v18 wc => ∃ (kq : Nat) (x18_4 : Bool), v18 = .bool x18_4 ∧ Aside0 (gazetteerlaw14_AtlasOwns.j0 kq a1 x18_4 a0_0 l0_1 = some r) ∧ Aside0 (kq ≤ k) ∧ Aside0 (wc.heap[gb228]? = some (.cells #[.int .i64 a0_0, (.slice A0_1 l0_1.length c0_1)] 24 (0, 0))) ∧ Aside0 (Below w.heap.size w wc))
  case first =>
   have H := HC5.out
   clear HC5
   replace H := Option.bind_eq_some_iff.mp H
   obtain ⟨t230, A80, H⟩ := H
   replace H : (if t230 = true then (gazetteerlaw14_AtlasOwns.j0 k a1 (decide ((a1.size : Int) > 300)) a0_0 l0_1) else (gazetteerlaw14_AtlasOwns.j0 k a1 true a0_0 l0_1)) = some r := H
   have A8 := Aside0.mk A80
   clear A80
   by_cases c9 : t230 = true
   ·
    subst c9
    have H1 : (gazetteerlaw14_AtlasOwns.j0 k a1 (decide ((a1.size : Int) > 300)) a0_0 l0_1) = some r := by rw [if_pos rfl] at H; exact H
    clear H
    have H := H1
    clear H1
    have H' := Aside0.mk H
    clear H
    have hcz10_0 : w7.cell? ⟨gb228, 0, none⟩ = some (.int .i64 a0_0) := (blk_cell BK228.out 0).trans rfl
    have hcz10_1 : w7.cell? ⟨gb228, 1, none⟩ = some (.slice A0_1 l0_1.length c0_1) := (blk_cell BK228.out 1).trans rfl
    have hfz10_0 := blk_frozen BK228.out 0
    have hfz10_1 := blk_frozen BK228.out 1
    go_wp2_with (first | ((with_reducible refine gate_callee (f := 12) rfl ?_); refine goesL_ (some 12) rfl rfl Try.func12 (by kernel_rfl) rfl #[.agg #[.int .i64 a0_0, .slice A0_1 l0_1.length c0_1]] rfl (by (try simp only [List.map_toArray, List.map_cons, List.map_nil]); first | done | rfl | (simp only [List.length_drop, List.length_take]; done) | (simp only [List.length_drop, List.length_take]; rfl)) ?_; (with_reducible refine (gazetteerlaw14_Small.calls k a0_0 _ _ l0_1 true _ ?side1 ?side2 A8.out).mono ?_); (case side1 => repeat (first | exact (Kd.C_below HR0_1.out HB.out) | (with_reducible refine Kd.C_alloc ?_ _) | (with_reducible refine Kd.C_drewN ?_ _) | (with_reducible refine Kd.C_drew ?_))); (case side2 => exact HC0_1.out); rintro e w11 ⟨rfl, hb⟩; refine ⟨_, rfl, ?_⟩; have n0_ := Aside0.mk (blk_below (g := gb228) (o := .cells #[.int .i64 a0_0, .slice A0_1 l0_1.length c0_1] 24 (0, 0)) (by (with_reducible repeat (first | refine blk_drewN ?_ _ | refine blk_drew ?_ | refine blk_alloc ?_ _)); exact BK228.out) hb); have n1_ := Aside0.mk (below_step (by repeat (first | (with_reducible first | exact HB.out | apply below_alloc | apply pw_below_drewN | apply below_drew1 | refine below_set ?_ GE228.out) | exact HB.out)) hb); clear BK228; clear HB; have BK228 := n0_; have HB := n1_; clear n0_ n1_; (try clear hb); (try clear hb2); (try clear hk); (try clear hi)))
    go_meet
    case rel => exact ⟨_, (decide ((a1.size : Int) > 300)), (by first | rfl | (simp; done) | (simp [*]; done)), H', ⟨by first | omega | exact Nat.le_refl _⟩, ⟨by (with_reducible repeat (first | refine blk_drewN ?_ _ | refine blk_drew ?_ | refine blk_alloc ?_ _)); exact BK228.out⟩, ⟨by repeat (first | (with_reducible first | exact HB.out | apply below_alloc | apply pw_below_drewN | apply below_drew1 | refine below_set ?_ GE228.out) | exact HB.out)⟩⟩
   ·
    replace c9 := Bool.eq_false_iff.mpr c9
    subst c9
    have H1 : (gazetteerlaw14_AtlasOwns.j0 k a1 true a0_0 l0_1) = some r := by rw [if_neg (show ¬ (false = true) by decide)] at H; exact H
    clear H
    have H := H1
    clear H1
    have H' := Aside0.mk H
    clear H
    have hcz12_0 : w7.cell? ⟨gb228, 0, none⟩ = some (.int .i64 a0_0) := (blk_cell BK228.out 0).trans rfl
    have hcz12_1 : w7.cell? ⟨gb228, 1, none⟩ = some (.slice A0_1 l0_1.length c0_1) := (blk_cell BK228.out 1).trans rfl
    have hfz12_0 := blk_frozen BK228.out 0
    have hfz12_1 := blk_frozen BK228.out 1
    go_wp2_with (first | ((with_reducible refine gate_callee (f := 12) rfl ?_); refine goesL_ (some 12) rfl rfl Try.func12 (by kernel_rfl) rfl #[.agg #[.int .i64 a0_0, .slice A0_1 l0_1.length c0_1]] rfl (by (try simp only [List.map_toArray, List.map_cons, List.map_nil]); first | done | rfl | (simp only [List.length_drop, List.length_take]; done) | (simp only [List.length_drop, List.length_take]; rfl)) ?_; (with_reducible refine (gazetteerlaw14_Small.calls k a0_0 _ _ l0_1 false _ ?side1 ?side2 A8.out).mono ?_); (case side1 => repeat (first | exact (Kd.C_below HR0_1.out HB.out) | (with_reducible refine Kd.C_alloc ?_ _) | (with_reducible refine Kd.C_drewN ?_ _) | (with_reducible refine Kd.C_drew ?_))); (case side2 => exact HC0_1.out); rintro e w13 ⟨rfl, hb⟩; refine ⟨_, rfl, ?_⟩; have n0_ := Aside0.mk (blk_below (g := gb228) (o := .cells #[.int .i64 a0_0, .slice A0_1 l0_1.length c0_1] 24 (0, 0)) (by (with_reducible repeat (first | refine blk_drewN ?_ _ | refine blk_drew ?_ | refine blk_alloc ?_ _)); exact BK228.out) hb); have n1_ := Aside0.mk (below_step (by repeat (first | (with_reducible first | exact HB.out | apply below_alloc | apply pw_below_drewN | apply below_drew1 | refine below_set ?_ GE228.out) | exact HB.out)) hb); clear BK228; clear HB; have BK228 := n0_; have HB := n1_; clear n0_ n1_; (try clear hb); (try clear hb2); (try clear hk); (try clear hi)))
    go_meet
    case rel => exact ⟨_, (true), (by first | rfl | (simp; done) | (simp [*]; done)), H', ⟨by first | omega | exact Nat.le_refl _⟩, ⟨by (with_reducible repeat (first | refine blk_drewN ?_ _ | refine blk_drew ?_ | refine blk_alloc ?_ _)); exact BK228.out⟩, ⟨by repeat (first | (with_reducible first | exact HB.out | apply below_alloc | apply pw_below_drewN | apply below_drew1 | refine below_set ?_ GE228.out) | exact HB.out)⟩⟩
  case rest =>
   clear HC5
   try clear c1
   try clear p2
   try clear c3
   try clear c4
   try clear c9
   try clear c11
   try clear c12
   try clear hcz10_0
   try clear hcz10_1
   try clear hcz12_0
   try clear hcz12_1
   try clear hfz10_0
   try clear hfz10_1
   try clear hfz12_0
   try clear hfz12_1
   obtain ⟨kq, x18_4, rfl, HA, HJ4, BK228, HB⟩ := hcut
   cases kq with
   | zero => exact absurd HA.out (by simp [gazetteerlaw14_AtlasOwns.j0])
   | succ kj4 =>
    have H := HA.out
    clear HA
    simp only [gazetteerlaw14_AtlasOwns.j0] at H
    by_cases c14 : x18_4 = true
    ·
     subst c14
     have H1 : (some true) = some r := by rw [if_pos rfl] at H; exact H
     clear H
     have H := H1
     clear H1
     obtain rfl := Option.some.inj H
     go_wp2
     go_ret
     exact ⟨by first | rfl | (simp [errW_none, errW_some] <;> rfl) | (simp [*, errW_none, errW_some] <;> rfl), by repeat (first | (with_reducible first | exact HB.out | apply below_alloc | apply pw_below_drewN | apply below_drew1 | refine below_set ?_ GE228.out) | exact HB.out)⟩
    ·
     replace c14 := Bool.eq_false_iff.mpr c14
     subst c14
     have H1 : ((gazetteerlaw14_Made.f kj4 a0_0 l0_1).bind fun bt231 => ((atlas_Owner.f bt231.1 bt231.2 a1).bind fun bt235 => (gazetteerlaw14_AtlasOwns.l0 kj4 a1 bt235.2.2.2.2 0 0 a0_0 l0_1 bt235.1 bt235.2.1 bt235.2.2.1 bt235.2.2.2.1))) = some r := by rw [if_neg (show ¬ (false = true) by decide)] at H; exact H
     clear H
     have H := H1
     clear H1
     replace H := Option.bind_eq_some_iff.mp H
     obtain ⟨⟨t231, t232⟩, A150, H⟩ := H
     replace H : ((atlas_Owner.f t231 t232 a1).bind fun bt235 => (gazetteerlaw14_AtlasOwns.l0 kj4 a1 bt235.2.2.2.2 0 0 a0_0 l0_1 bt235.1 bt235.2.1 bt235.2.2.1 bt235.2.2.2.1)) = some r := H
     have A15 := Aside0.mk A150
     clear A150
     replace H := Option.bind_eq_some_iff.mp H
     obtain ⟨⟨t235, t236, t237, t238, t239⟩, A160, H⟩ := H
     replace H : (gazetteerlaw14_AtlasOwns.l0 kj4 a1 t239 0 0 a0_0 l0_1 t235 t236 t237 t238) = some r := H
     have A16 := Aside0.mk A160
     clear A160
     have H' := Aside0.mk H
     clear H
     have hcz17_0 : wc.cell? ⟨gb228, 0, none⟩ = some (.int .i64 a0_0) := (blk_cell BK228.out 0).trans rfl
     have hcz17_1 : wc.cell? ⟨gb228, 1, none⟩ = some (.slice A0_1 l0_1.length c0_1) := (blk_cell BK228.out 1).trans rfl
     have hfz17_0 := blk_frozen BK228.out 0
     have hfz17_1 := blk_frozen BK228.out 1
     go_wp2_with (first | ((with_reducible refine gate_callee (f := 14) rfl ?_); refine goesL_ (some 21) rfl rfl Try.func14 (by kernel_rfl) rfl #[.agg #[.int .i64 a0_0, .slice A0_1 l0_1.length c0_1]] rfl (by (try simp only [List.map_toArray, List.map_cons, List.map_nil]); first | done | rfl | (simp only [List.length_drop, List.length_take]; done) | (simp only [List.length_drop, List.length_take]; rfl)) ?_; (with_reducible refine (gazetteerlaw14_Made.calls kj4 a0_0 _ _ l0_1 t231 t232 _ ?side1 ?side2 A15.out).mono ?_); (case side1 => repeat (first | exact (Kd.C_below HR0_1.out HB.out) | (with_reducible refine Kd.C_alloc ?_ _) | (with_reducible refine Kd.C_drewN ?_ _) | (with_reducible refine Kd.C_drew ?_))); (case side2 => exact HC0_1.out); rintro e w18 ⟨v233, rfl, ho0, hb⟩; refine ⟨_, rfl, ?_⟩; have n0_ := Aside0.mk (Kd.R_lower ho0 (below_size (by repeat (first | (with_reducible first | exact HB.out | apply below_alloc | apply pw_below_drewN | apply below_drew1 | refine below_set ?_ GE228.out) | exact HB.out)))); have n1_ := Aside0.mk (blk_below (g := gb228) (o := .cells #[.int .i64 a0_0, .slice A0_1 l0_1.length c0_1] 24 (0, 0)) (by (with_reducible repeat (first | refine blk_drewN ?_ _ | refine blk_drew ?_ | refine blk_alloc ?_ _)); exact BK228.out) hb); have n2_ := Aside0.mk (below_step (by repeat (first | (with_reducible first | exact HB.out | apply below_alloc | apply pw_below_drewN | apply below_drew1 | refine below_set ?_ GE228.out) | exact HB.out)) hb); clear BK228; clear HB; have HO234 := n0_; have BK228 := n1_; have HB := n2_; clear n0_ n1_ n2_; (try clear hb); (try clear hb2); (try clear hk); (try clear hi); (try clear ho0); obtain ⟨Ao19, co19, eo19⟩ := Kd.R_slice HO234.out; subst eo19) | ((with_reducible refine gate_callee (f := 13) rfl ?_); refine goesL_ (some 23) rfl rfl Try.func13 (by kernel_rfl) rfl #[.agg #[.int .i64 t231, .slice Ao19 t232.length co19], .string a1] rfl (by (try simp only [List.map_toArray, List.map_cons, List.map_nil]); first | done | rfl | (simp only [List.length_drop, List.length_take]; done) | (simp only [List.length_drop, List.length_take]; rfl)) ?_; (with_reducible refine (atlas_Owner.calls t231 _ _ t232 a1 t235 t236 t237 t238 t239 _ ?side1 ?side2 A16.out).mono ?_); (case side1 => repeat (first | exact (Kd.R_reads' HO234.out).2.2 | (with_reducible refine Kd.C_alloc ?_ _) | (with_reducible refine Kd.C_drewN ?_ _) | (with_reducible refine Kd.C_drew ?_))); (case side2 => exact (Kd.R_reads' HO234.out).2.1); rintro e w20 ⟨rfl, hb⟩; refine ⟨_, rfl, ?_⟩; have n0_ := Aside0.mk (Kd.R_below (by (with_reducible repeat (first | apply Kd.R_alloc | apply Kd.R_drewN | apply Kd.R_drew)); exact HO234.out) hb); have n1_ := Aside0.mk (blk_below (g := gb228) (o := .cells #[.int .i64 a0_0, .slice A0_1 l0_1.length c0_1] 24 (0, 0)) (by (with_reducible repeat (first | refine blk_drewN ?_ _ | refine blk_drew ?_ | refine blk_alloc ?_ _)); exact BK228.out) hb); have n2_ := Aside0.mk (below_step (by repeat (first | (with_reducible first | exact HB.out | apply below_alloc | apply pw_below_drewN | apply below_drew1 | refine below_set ?_ GE228.out) | exact HB.out)) hb); clear HO234; clear BK228; clear HB; have HO234 := n0_; have BK228 := n1_; have HB := n2_; clear n0_ n1_ n2_; (try clear hb); (try clear hb2); (try clear hk); (try clear hi)) | ((with_reducible refine gate_dst (N := 5) rfl ?_); (try (refine gate_guard (by rfl) ?_; dsimp only)); refine box_event ?hg (N := 5) ?hd (cs := #[.string (⟨#[]⟩ : ByteArray), .string (⟨#[]⟩ : ByteArray), .int .i64 0, .int .i64 0]) (t := 30) ?hr ?_; (case hd => rfl); (case hg => rfl); (case hr => first | (go_simp; done) | (go_simp; rfl)); intro gb240 hg w21 hbox hb; have n0_ := Aside0.mk (Kd.R_below (Kd.R_elderB (by (with_reducible repeat (first | apply Kd.R_alloc | apply Kd.R_drewN | apply Kd.R_drew)); exact HO234.out) gb240 (Nat.le_of_eq hg.symm)) hb); have n1_ := Aside0.mk (blk_below (g := gb228) (o := .cells #[.int .i64 a0_0, .slice A0_1 l0_1.length c0_1] 24 (0, 0)) (by (with_reducible repeat (first | refine blk_drewN ?_ _ | refine blk_drew ?_ | refine blk_alloc ?_ _)); exact BK228.out) hb); have n2_ := Aside0.mk (below_step (by repeat (first | (with_reducible first | exact HB.out | apply below_alloc | apply pw_below_drewN | apply below_drew1 | refine below_set ?_ GE228.out) | exact HB.out)) hb); have n3_ := Aside0.mk (hbox); have n4_ := Aside0.mk ((by rw [hg]; exact (below_size (by repeat (first | (with_reducible first | exact HB.out | apply below_alloc | apply pw_below_drewN | apply below_drew1 | refine below_set ?_ GE228.out) | exact HB.out))) : w.heap.size ≤ gb240)); have n5_ := Aside0.mk ((by rw [hg]; exact (below_size (by repeat (first | (with_reducible first | exact HB.out | apply below_alloc | apply pw_below_drewN | apply below_drew1 | refine below_set ?_ GE228.out) | exact HB.out))) : w.heap.size ≤ gb240)); have n6_ := Aside0.mk ((by rw [hg]; exact Nat.ne_of_lt (blk_lt (g := gb228) (o := .cells #[.int .i64 a0_0, .slice A0_1 l0_1.length c0_1] 24 (0, 0)) (by (with_reducible repeat (first | refine blk_drewN ?_ _ | refine blk_drew ?_ | refine blk_alloc ?_ _)); exact BK228.out)) : gb228 ≠ gb240)); have n7_ := Aside0.mk ((by rw [hg]; exact Nat.ne_of_gt (blk_lt (g := gb228) (o := .cells #[.int .i64 a0_0, .slice A0_1 l0_1.length c0_1] 24 (0, 0)) (by (with_reducible repeat (first | refine blk_drewN ?_ _ | refine blk_drew ?_ | refine blk_alloc ?_ _)); exact BK228.out)) : gb240 ≠ gb228)); clear HO234; clear BK228; clear HB; have HO234 := n0_; have BK228 := n1_; have HB := n2_; have BK240 := n3_; have GW240 := n4_; have GE240 := n5_; have NB228_240 := n6_; have NB240_228 := n7_; clear n0_ n1_ n2_ n3_ n4_ n5_ n6_ n7_; clear hb hbox hg; have hnb22 := NB240_228.out; have hnc22 := NB228_240.out; have hcz23_0 : w21.cell? ⟨gb240, 0, none⟩ = some (.string (⟨#[]⟩ : ByteArray)) := (blk_cell BK240.out 0).trans rfl; have hcz23_1 : w21.cell? ⟨gb240, 1, none⟩ = some (.string (⟨#[]⟩ : ByteArray)) := (blk_cell BK240.out 1).trans rfl; have hcz23_2 : w21.cell? ⟨gb240, 2, none⟩ = some (.int .i64 0) := (blk_cell BK240.out 2).trans rfl; have hcz23_3 : w21.cell? ⟨gb240, 3, none⟩ = some (.int .i64 0) := (blk_cell BK240.out 3).trans rfl; have hfz23_0 := blk_frozen BK240.out 0; have hfz23_1 := blk_frozen BK240.out 1; have hfz23_2 := blk_frozen BK240.out 2; have hfz23_3 := blk_frozen BK240.out 3))
     go_loopg [7, 8] kj4 (fun kq v7 v8 w' => ∃ (x7_2 : Int) (x8_2 : Int), v7 = .int .i64 x7_2 ∧ v8 = .int .i64 x8_2 ∧ Aside0 (gazetteerlaw14_AtlasOwns.l0 kq a1 t239 x7_2 x8_2 a0_0 l0_1 t235 t236 t237 t238 = some r) ∧ Aside0 (kq ≤ kj4) ∧ Aside0 (w'.heap[gb228]? = some (.cells #[.int .i64 a0_0, (.slice A0_1 l0_1.length c0_1)] 24 (0, 0))) ∧ Aside0 (w'.heap[gb240]? = some (.cells #[.string t235, .string t236, .int .i64 t237, .int .i64 t238] 30 (0, 0))) ∧ Aside0 (Below w.heap.size w w'))
     case atStart => exact ⟨(0), (0), (by first | rfl | (simp; done) | (simp [*]; done)), (by first | rfl | (simp; done) | (simp [*]; done)), H', ⟨Nat.le_refl _⟩, ⟨by (with_reducible repeat (first | refine blk_drewN ?_ _ | refine blk_drew ?_ | refine blk_alloc ?_ _)); refine blk_far ?_ NB228_240.out _; (with_reducible repeat (first | refine blk_drewN ?_ _ | refine blk_drew ?_ | refine blk_alloc ?_ _)); refine blk_far ?_ NB228_240.out _; (with_reducible repeat (first | refine blk_drewN ?_ _ | refine blk_drew ?_ | refine blk_alloc ?_ _)); refine blk_far ?_ NB228_240.out _; (with_reducible repeat (first | refine blk_drewN ?_ _ | refine blk_drew ?_ | refine blk_alloc ?_ _)); refine blk_far ?_ NB228_240.out _; (with_reducible repeat (first | refine blk_drewN ?_ _ | refine blk_drew ?_ | refine blk_alloc ?_ _)); exact BK228.out⟩, ⟨by (with_reducible repeat (first | refine blk_drewN ?_ _ | refine blk_drew ?_ | refine blk_alloc ?_ _)); refine blk_put (cs := #[.string t235, .string t236, .int .i64 t237, .int .i64 0]) ?_ 3 _ rfl; (with_reducible repeat (first | refine blk_drewN ?_ _ | refine blk_drew ?_ | refine blk_alloc ?_ _)); refine blk_put (cs := #[.string t235, .string t236, .int .i64 0, .int .i64 0]) ?_ 2 _ rfl; (with_reducible repeat (first | refine blk_drewN ?_ _ | refine blk_drew ?_ | refine blk_alloc ?_ _)); refine blk_put (cs := #[.string t235, .string (⟨#[]⟩ : ByteArray), .int .i64 0, .int .i64 0]) ?_ 1 _ rfl; (with_reducible repeat (first | refine blk_drewN ?_ _ | refine blk_drew ?_ | refine blk_alloc ?_ _)); refine blk_put (cs := #[.string (⟨#[]⟩ : ByteArray), .string (⟨#[]⟩ : ByteArray), .int .i64 0, .int .i64 0]) ?_ 0 _ rfl; (with_reducible repeat (first | refine blk_drewN ?_ _ | refine blk_drew ?_ | refine blk_alloc ?_ _)); exact BK240.out⟩, ⟨by repeat (first | (with_reducible first | exact HB.out | apply below_alloc | apply pw_below_drewN | apply below_drew1 | refine below_set ?_ GE228.out | refine below_set ?_ GE240.out) | exact HB.out)⟩⟩
     case round =>
      clear H'
      try clear c1
      try clear c2
      try clear p2
      try clear c3
      try clear c4
      try clear c9
      try clear c11
      try clear c12
      try clear c13
      try clear c14
      try clear c22
      try clear hcz10_0
      try clear hcz10_1
      try clear hcz12_0
      try clear hcz12_1
      try clear hcz17_0
      try clear hcz17_1
      try clear hcz23_0
      try clear hcz23_1
      try clear hcz23_2
      try clear hcz23_3
      try clear hfz10_0
      try clear hfz10_1
      try clear hfz12_0
      try clear hfz12_1
      try clear hfz17_0
      try clear hfz17_1
      try clear hfz23_0
      try clear hfz23_1
      try clear hfz23_2
      try clear hfz23_3
      try clear p2
      obtain ⟨x7_2, x8_2, rfl, rfl, HA, HK2, BK228, BK240, HB⟩ := hrel
      cases gk with
      | zero => exact absurd HA.out (by simp [gazetteerlaw14_AtlasOwns.l0])
      | succ k2 =>
       have H := HA.out
       clear HA
       simp only [gazetteerlaw14_AtlasOwns.l0] at H
       by_cases c24 : x8_2 < (l0_1.length : Int)
       ·
        rw [if_pos c24] at H
        have c24b0 : decide (x8_2 < (l0_1.length : Int)) = true := decide_eq_true c24
        clear c24
        by_cases c25 : 0 ≤ x8_2
        ·
         rw [if_pos c25] at H
         have c25b0 : decide (0 ≤ x8_2) = true := decide_eq_true c25
         clear c25
         replace H := Option.bind_eq_some_iff.mp H
         obtain ⟨t242, A260, H⟩ := H
         replace H : (if t242 = true then (gazetteerlaw14_AtlasOwns.l0 k2 a1 t239 (wrap64 (x7_2 + 1)) (wrap64 (x8_2 + 1)) a0_0 l0_1 t235 t236 t237 t238) else (gazetteerlaw14_AtlasOwns.l0 k2 a1 t239 x7_2 (wrap64 (x8_2 + 1)) a0_0 l0_1 t235 t236 t237 t238)) = some r := H
         have A26 := Aside0.mk A260
         clear A260
         by_cases c27 : t242 = true
         ·
          subst c27
          have H1 : (gazetteerlaw14_AtlasOwns.l0 k2 a1 t239 (wrap64 (x7_2 + 1)) (wrap64 (x8_2 + 1)) a0_0 l0_1 t235 t236 t237 t238) = some r := by rw [if_pos rfl] at H; exact H
          clear H
          have H := H1
          clear H1
          have H' := Aside0.mk H
          clear H
          have hnb28 := NB228_240.out
          have hnc28 := NB240_228.out
          have hcz29_0 : wr.cell? ⟨gb228, 0, none⟩ = some (.int .i64 a0_0) := (blk_cell BK228.out 0).trans rfl
          have hcz29_1 : wr.cell? ⟨gb228, 1, none⟩ = some (.slice A0_1 l0_1.length c0_1) := (blk_cell BK228.out 1).trans rfl
          have hfz29_0 := blk_frozen BK228.out 0
          have hfz29_1 := blk_frozen BK228.out 1
          have p241 : 0 ≤ (x8_2 : Int) := of_decide_eq_true (by first | (with_reducible assumption) | assumption)
          have q241 : x8_2 < (l0_1.length : Int) := of_decide_eq_true (by first | (with_reducible assumption) | assumption)
          obtain ⟨ad241, e241, hx241_0, hx241_1, hx241_2, hx241_3⟩ := at_T38 HR0_1.out x8_2 p241 q241
          cases e241
          replace hx241_0 := (HB.out.cell (World.block_lt_of_cell? w _ hx241_0)).trans hx241_0
          replace hx241_1 := (HB.out.cell (World.block_lt_of_cell? w _ hx241_1)).trans hx241_1
          replace hx241_2 := (HB.out.cell (World.block_lt_of_cell? w _ hx241_2)).trans hx241_2
          replace hx241_3 := (HB.out.cell (World.block_lt_of_cell? w _ hx241_3)).trans hx241_3
          replace p241 := eq_true p241
          replace q241 := eq_true q241
          go_wp2_with (first | ((with_reducible refine gate_callee (f := 15) rfl ?_); refine goesL_ (some 40) rfl rfl Try.func15 (by kernel_rfl) rfl #[.agg #[.string ((rd_T38 l0_1 x8_2).f0.f0), .string ((rd_T38 l0_1 x8_2).f0.f1)], .string a1] rfl (by (try simp only [List.map_toArray, List.map_cons, List.map_nil]); first | done | rfl | (simp only [List.length_drop, List.length_take]; done) | (simp only [List.length_drop, List.length_take]; rfl)) ?_; (with_reducible refine (gazetteerref5_Has.calls ((rd_T38 l0_1 x8_2).f0.f0) ((rd_T38 l0_1 x8_2).f0.f1) a1 true _ A26.out).mono ?_); rintro e w30 ⟨rfl, hb⟩; refine ⟨_, rfl, ?_⟩; have n0_ := Aside0.mk (blk_below (g := gb228) (o := .cells #[.int .i64 a0_0, .slice (some ad241) l0_1.length c0_1] 24 (0, 0)) (by (with_reducible repeat (first | refine blk_drewN ?_ _ | refine blk_drew ?_ | refine blk_alloc ?_ _)); exact BK228.out) hb); have n1_ := Aside0.mk (blk_below (g := gb240) (o := .cells #[.string t235, .string t236, .int .i64 t237, .int .i64 t238] 30 (0, 0)) (by (with_reducible repeat (first | refine blk_drewN ?_ _ | refine blk_drew ?_ | refine blk_alloc ?_ _)); exact BK240.out) hb); have n2_ := Aside0.mk (below_step (by repeat (first | (with_reducible first | exact HB.out | apply below_alloc | apply pw_below_drewN | apply below_drew1 | refine below_set ?_ GE228.out | refine below_set ?_ GE240.out) | exact HB.out)) hb); clear BK228; clear BK240; clear HB; have BK228 := n0_; have BK240 := n1_; have HB := n2_; clear n0_ n1_ n2_; (try clear hb); (try clear hb2); (try clear hk); (try clear hi)))
          go_roundg k2
          case measure => have := HJ4.out; have := HK2.out; omega
          case rel => exact ⟨(wrap64 (x7_2 + 1)), (wrap64 (x8_2 + 1)), (by first | rfl | (simp; done) | (simp [*]; done)), (by first | rfl | (simp; done) | (simp [*]; done)), H', ⟨by have := HJ4.out; have := HK2.out; omega⟩, ⟨by (with_reducible repeat (first | refine blk_drewN ?_ _ | refine blk_drew ?_ | refine blk_alloc ?_ _)); exact BK228.out⟩, ⟨by (with_reducible repeat (first | refine blk_drewN ?_ _ | refine blk_drew ?_ | refine blk_alloc ?_ _)); exact BK240.out⟩, ⟨by repeat (first | (with_reducible first | exact HB.out | apply below_alloc | apply pw_below_drewN | apply below_drew1 | refine below_set ?_ GE228.out | refine below_set ?_ GE240.out) | exact HB.out)⟩⟩
         ·
          replace c27 := Bool.eq_false_iff.mpr c27
          subst c27
          have H1 : (gazetteerlaw14_AtlasOwns.l0 k2 a1 t239 x7_2 (wrap64 (x8_2 + 1)) a0_0 l0_1 t235 t236 t237 t238) = some r := by rw [if_neg (show ¬ (false = true) by decide)] at H; exact H
          clear H
          have H := H1
          clear H1
          have H' := Aside0.mk H
          clear H
          have hnb31 := NB228_240.out
          have hnc31 := NB240_228.out
          have hcz32_0 : wr.cell? ⟨gb228, 0, none⟩ = some (.int .i64 a0_0) := (blk_cell BK228.out 0).trans rfl
          have hcz32_1 : wr.cell? ⟨gb228, 1, none⟩ = some (.slice A0_1 l0_1.length c0_1) := (blk_cell BK228.out 1).trans rfl
          have hfz32_0 := blk_frozen BK228.out 0
          have hfz32_1 := blk_frozen BK228.out 1
          have p241 : 0 ≤ (x8_2 : Int) := of_decide_eq_true (by first | (with_reducible assumption) | assumption)
          have q241 : x8_2 < (l0_1.length : Int) := of_decide_eq_true (by first | (with_reducible assumption) | assumption)
          obtain ⟨ad241, e241, hx241_0, hx241_1, hx241_2, hx241_3⟩ := at_T38 HR0_1.out x8_2 p241 q241
          cases e241
          replace hx241_0 := (HB.out.cell (World.block_lt_of_cell? w _ hx241_0)).trans hx241_0
          replace hx241_1 := (HB.out.cell (World.block_lt_of_cell? w _ hx241_1)).trans hx241_1
          replace hx241_2 := (HB.out.cell (World.block_lt_of_cell? w _ hx241_2)).trans hx241_2
          replace hx241_3 := (HB.out.cell (World.block_lt_of_cell? w _ hx241_3)).trans hx241_3
          replace p241 := eq_true p241
          replace q241 := eq_true q241
          go_wp2_with (first | ((with_reducible refine gate_callee (f := 15) rfl ?_); refine goesL_ (some 40) rfl rfl Try.func15 (by kernel_rfl) rfl #[.agg #[.string ((rd_T38 l0_1 x8_2).f0.f0), .string ((rd_T38 l0_1 x8_2).f0.f1)], .string a1] rfl (by (try simp only [List.map_toArray, List.map_cons, List.map_nil]); first | done | rfl | (simp only [List.length_drop, List.length_take]; done) | (simp only [List.length_drop, List.length_take]; rfl)) ?_; (with_reducible refine (gazetteerref5_Has.calls ((rd_T38 l0_1 x8_2).f0.f0) ((rd_T38 l0_1 x8_2).f0.f1) a1 false _ A26.out).mono ?_); rintro e w33 ⟨rfl, hb⟩; refine ⟨_, rfl, ?_⟩; have n0_ := Aside0.mk (blk_below (g := gb228) (o := .cells #[.int .i64 a0_0, .slice (some ad241) l0_1.length c0_1] 24 (0, 0)) (by (with_reducible repeat (first | refine blk_drewN ?_ _ | refine blk_drew ?_ | refine blk_alloc ?_ _)); exact BK228.out) hb); have n1_ := Aside0.mk (blk_below (g := gb240) (o := .cells #[.string t235, .string t236, .int .i64 t237, .int .i64 t238] 30 (0, 0)) (by (with_reducible repeat (first | refine blk_drewN ?_ _ | refine blk_drew ?_ | refine blk_alloc ?_ _)); exact BK240.out) hb); have n2_ := Aside0.mk (below_step (by repeat (first | (with_reducible first | exact HB.out | apply below_alloc | apply pw_below_drewN | apply below_drew1 | refine below_set ?_ GE228.out | refine below_set ?_ GE240.out) | exact HB.out)) hb); clear BK228; clear BK240; clear HB; have BK228 := n0_; have BK240 := n1_; have HB := n2_; clear n0_ n1_ n2_; (try clear hb); (try clear hb2); (try clear hk); (try clear hi)))
          go_roundg k2
          case measure => have := HJ4.out; have := HK2.out; omega
          case rel => exact ⟨(x7_2), (wrap64 (x8_2 + 1)), (by first | rfl | (simp; done) | (simp [*]; done)), (by first | rfl | (simp; done) | (simp [*]; done)), H', ⟨by have := HJ4.out; have := HK2.out; omega⟩, ⟨by (with_reducible repeat (first | refine blk_drewN ?_ _ | refine blk_drew ?_ | refine blk_alloc ?_ _)); exact BK228.out⟩, ⟨by (with_reducible repeat (first | refine blk_drewN ?_ _ | refine blk_drew ?_ | refine blk_alloc ?_ _)); exact BK240.out⟩, ⟨by repeat (first | (with_reducible first | exact HB.out | apply below_alloc | apply pw_below_drewN | apply below_drew1 | refine below_set ?_ GE228.out | refine below_set ?_ GE240.out) | exact HB.out)⟩⟩
        ·
         rw [if_neg c25] at H
         exact absurd H (by simp)
       ·
        rw [if_neg c24] at H
        have c24b0 : decide (x8_2 < (l0_1.length : Int)) = false := decide_eq_false c24
        clear c24
        replace H := Option.bind_eq_some_iff.mp H
        obtain ⟨t243, A340, H⟩ := H
        replace H : (if t243 = true then (if t239 = true then (if x7_2 = 1 then ((gazetteerref5_Has.f t235 t236 a1).bind fun t244 => (if t244 = true then (if t237 ≥ 1 then (some (decide (t237 ≤ 5))) else (some false)) else (some false))) else (some false)) else (some false)) else (some (t239 == (decide (x7_2 > 0))))) = some r := H
        have A34 := Aside0.mk A340
        clear A340
        by_cases c35 : t243 = true
        ·
         subst c35
         have H1 : (if t239 = true then (if x7_2 = 1 then ((gazetteerref5_Has.f t235 t236 a1).bind fun t244 => (if t244 = true then (if t237 ≥ 1 then (some (decide (t237 ≤ 5))) else (some false)) else (some false))) else (some false)) else (some false)) = some r := by rw [if_pos rfl] at H; exact H
         clear H
         have H := H1
         clear H1
         by_cases c36 : t239 = true
         ·
          subst c36
          have H1 : (if x7_2 = 1 then ((gazetteerref5_Has.f t235 t236 a1).bind fun t244 => (if t244 = true then (if t237 ≥ 1 then (some (decide (t237 ≤ 5))) else (some false)) else (some false))) else (some false)) = some r := by rw [if_pos rfl] at H; exact H
          clear H
          have H := H1
          clear H1
          by_cases c37 : x7_2 = 1
          ·
           rw [if_pos c37] at H
           have c37b0 : (x7_2 == 1) = true := beq_iff_eq.mpr c37
           have c37b1 : (x7_2 != 1) = false := bne_eq_false_iff_eq.mpr c37
           clear c37
           replace H := Option.bind_eq_some_iff.mp H
           obtain ⟨t244, A380, H⟩ := H
           replace H : (if t244 = true then (if t237 ≥ 1 then (some (decide (t237 ≤ 5))) else (some false)) else (some false)) = some r := H
           have A38 := Aside0.mk A380
           clear A380
           by_cases c39 : t244 = true
           ·
            subst c39
            have H1 : (if t237 ≥ 1 then (some (decide (t237 ≤ 5))) else (some false)) = some r := by rw [if_pos rfl] at H; exact H
            clear H
            have H := H1
            clear H1
            by_cases c40 : t237 ≥ 1
            ·
             rw [if_pos c40] at H
             have c40b0 : decide (1 ≤ t237) = true := decide_eq_true c40
             clear c40
             obtain rfl := Option.some.inj H
             have hnb41 := NB228_240.out
             have hnc41 := NB240_228.out
             have hcz42_0 : wr.cell? ⟨gb228, 0, none⟩ = some (.int .i64 a0_0) := (blk_cell BK228.out 0).trans rfl
             have hcz42_1 : wr.cell? ⟨gb228, 1, none⟩ = some (.slice A0_1 l0_1.length c0_1) := (blk_cell BK228.out 1).trans rfl
             have hfz42_0 := blk_frozen BK228.out 0
             have hfz42_1 := blk_frozen BK228.out 1
             go_wp2_with (first | ((with_reducible refine gate_callee (f := 16) rfl ?_); refine goesL_ (some 44) rfl rfl Try.func16 (by kernel_rfl) rfl #[.agg #[.int .i64 a0_0, .slice A0_1 l0_1.length c0_1], .int .i64 5] rfl (by (try simp only [List.map_toArray, List.map_cons, List.map_nil]); first | done | rfl | (simp only [List.length_drop, List.length_take]; done) | (simp only [List.length_drop, List.length_take]; rfl)) ?_; (with_reducible refine (gazetteerref5_AtlasMay.calls k2 a0_0 _ _ l0_1 5 true _ ?side1 ?side2 A34.out).mono ?_); (case side1 => repeat (first | exact (Kd.C_below HR0_1.out HB.out) | (with_reducible refine Kd.C_alloc ?_ _) | (with_reducible refine Kd.C_drewN ?_ _) | (with_reducible refine Kd.C_drew ?_))); (case side2 => exact HC0_1.out); rintro e w43 ⟨rfl, hb⟩; refine ⟨_, rfl, ?_⟩; have n0_ := Aside0.mk (blk_below (g := gb228) (o := .cells #[.int .i64 a0_0, .slice A0_1 l0_1.length c0_1] 24 (0, 0)) (by (with_reducible repeat (first | refine blk_drewN ?_ _ | refine blk_drew ?_ | refine blk_alloc ?_ _)); exact BK228.out) hb); have n1_ := Aside0.mk (blk_below (g := gb240) (o := .cells #[.string t235, .string t236, .int .i64 t237, .int .i64 t238] 30 (0, 0)) (by (with_reducible repeat (first | refine blk_drewN ?_ _ | refine blk_drew ?_ | refine blk_alloc ?_ _)); exact BK240.out) hb); have n2_ := Aside0.mk (below_step (by repeat (first | (with_reducible first | exact HB.out | apply below_alloc | apply pw_below_drewN | apply below_drew1 | refine below_set ?_ GE228.out | refine below_set ?_ GE240.out) | exact HB.out)) hb); clear BK228; clear BK240; clear HB; have BK228 := n0_; have BK240 := n1_; have HB := n2_; clear n0_ n1_ n2_; (try clear hb); (try clear hb2); (try clear hk); (try clear hi); have hcz44_0 : w43.cell? ⟨gb240, 0, none⟩ = some (.string t235) := (blk_cell BK240.out 0).trans rfl; have hcz44_1 : w43.cell? ⟨gb240, 1, none⟩ = some (.string t236) := (blk_cell BK240.out 1).trans rfl; have hcz44_2 : w43.cell? ⟨gb240, 2, none⟩ = some (.int .i64 t237) := (blk_cell BK240.out 2).trans rfl; have hcz44_3 : w43.cell? ⟨gb240, 3, none⟩ = some (.int .i64 t238) := (blk_cell BK240.out 3).trans rfl; have hfz44_0 := blk_frozen BK240.out 0; have hfz44_1 := blk_frozen BK240.out 1; have hfz44_2 := blk_frozen BK240.out 2; have hfz44_3 := blk_frozen BK240.out 3) | (go_at_call 15; (with_reducible refine (gazetteerref5_Has.calls t235 t236 a1 true _ A38.out).mono ?_); rintro e w45 ⟨rfl, hb⟩; have n0_ := Aside0.mk (blk_below (g := gb228) (o := .cells #[.int .i64 a0_0, .slice A0_1 l0_1.length c0_1] 24 (0, 0)) (by (with_reducible repeat (first | refine blk_drewN ?_ _ | refine blk_drew ?_ | refine blk_alloc ?_ _)); exact BK228.out) hb); have n1_ := Aside0.mk (blk_below (g := gb240) (o := .cells #[.string t235, .string t236, .int .i64 t237, .int .i64 t238] 30 (0, 0)) (by (with_reducible repeat (first | refine blk_drewN ?_ _ | refine blk_drew ?_ | refine blk_alloc ?_ _)); exact BK240.out) hb); have n2_ := Aside0.mk (below_step (by repeat (first | (with_reducible first | exact HB.out | apply below_alloc | apply pw_below_drewN | apply below_drew1 | refine below_set ?_ GE228.out | refine below_set ?_ GE240.out) | exact HB.out)) hb); clear BK228; clear BK240; clear HB; have BK228 := n0_; have BK240 := n1_; have HB := n2_; clear n0_ n1_ n2_; (try clear hb); (try clear hb2); (try clear hk); (try clear hi); have hcz46_0 : w45.cell? ⟨gb240, 0, none⟩ = some (.string t235) := (blk_cell BK240.out 0).trans rfl; have hcz46_1 : w45.cell? ⟨gb240, 1, none⟩ = some (.string t236) := (blk_cell BK240.out 1).trans rfl; have hcz46_2 : w45.cell? ⟨gb240, 2, none⟩ = some (.int .i64 t237) := (blk_cell BK240.out 2).trans rfl; have hcz46_3 : w45.cell? ⟨gb240, 3, none⟩ = some (.int .i64 t238) := (blk_cell BK240.out 3).trans rfl; have hfz46_0 := blk_frozen BK240.out 0; have hfz46_1 := blk_frozen BK240.out 1; have hfz46_2 := blk_frozen BK240.out 2; have hfz46_3 := blk_frozen BK240.out 3))
             go_ret
             exact ⟨by first | rfl | (simp [errW_none, errW_some] <;> rfl) | (simp [*, errW_none, errW_some] <;> rfl), by repeat (first | (with_reducible first | exact HB.out | apply below_alloc | apply pw_below_drewN | apply below_drew1 | refine below_set ?_ GE228.out | refine below_set ?_ GE240.out) | exact HB.out)⟩
            ·
             rw [if_neg c40] at H
             have c40b0 : decide (1 ≤ t237) = false := decide_eq_false c40
             clear c40
             exact absurd H (by rw [HLT.out]; repeat' first | (with_reducible exact dead_none) | (with_reducible exact dead_false) | (with_reducible refine dead_ite ?_ ?_) | (with_reducible refine dead_bind (fun _ => ?_)) | (refine dead_ite ?_ ?_) | (refine dead_bind (fun _ => ?_)) | (simp; done))
           ·
            replace c39 := Bool.eq_false_iff.mpr c39
            subst c39
            have H1 : (some false) = some r := by rw [if_neg (show ¬ (false = true) by decide)] at H; exact H
            clear H
            have H := H1
            clear H1
            exact absurd H (by rw [HLT.out]; repeat' first | (with_reducible exact dead_none) | (with_reducible exact dead_false) | (with_reducible refine dead_ite ?_ ?_) | (with_reducible refine dead_bind (fun _ => ?_)) | (refine dead_ite ?_ ?_) | (refine dead_bind (fun _ => ?_)) | (simp; done))
          ·
           rw [if_neg c37] at H
           have c37b0 : (x7_2 == 1) = false := beq_eq_false_iff_ne.mpr c37
           have c37b1 : (x7_2 != 1) = true := bne_iff_ne.mpr c37
           exact absurd H (by rw [HLT.out]; repeat' first | (with_reducible exact dead_none) | (with_reducible exact dead_false) | (with_reducible refine dead_ite ?_ ?_) | (with_reducible refine dead_bind (fun _ => ?_)) | (refine dead_ite ?_ ?_) | (refine dead_bind (fun _ => ?_)) | (simp; done))
         ·
          replace c36 := Bool.eq_false_iff.mpr c36
          subst c36
          have H1 : (some false) = some r := by rw [if_neg (show ¬ (false = true) by decide)] at H; exact H
          clear H
          have H := H1
          clear H1
          exact absurd H (by rw [HLT.out]; repeat' first | (with_reducible exact dead_none) | (with_reducible exact dead_false) | (with_reducible refine dead_ite ?_ ?_) | (with_reducible refine dead_bind (fun _ => ?_)) | (refine dead_ite ?_ ?_) | (refine dead_bind (fun _ => ?_)) | (simp; done))
        ·
         replace c35 := Bool.eq_false_iff.mpr c35
         subst c35
         have H1 : (some (t239 == (decide (x7_2 > 0)))) = some r := by rw [if_neg (show ¬ (false = true) by decide)] at H; exact H
         clear H
         have H := H1
         clear H1
         obtain rfl := Option.some.inj H
         have hnb47 := NB228_240.out
         have hnc47 := NB240_228.out
         have hcz48_0 : wr.cell? ⟨gb228, 0, none⟩ = some (.int .i64 a0_0) := (blk_cell BK228.out 0).trans rfl
         have hcz48_1 : wr.cell? ⟨gb228, 1, none⟩ = some (.slice A0_1 l0_1.length c0_1) := (blk_cell BK228.out 1).trans rfl
         have hfz48_0 := blk_frozen BK228.out 0
         have hfz48_1 := blk_frozen BK228.out 1
         go_wp2_with (first | ((with_reducible refine gate_callee (f := 16) rfl ?_); refine goesL_ (some 44) rfl rfl Try.func16 (by kernel_rfl) rfl #[.agg #[.int .i64 a0_0, .slice A0_1 l0_1.length c0_1], .int .i64 5] rfl (by (try simp only [List.map_toArray, List.map_cons, List.map_nil]); first | done | rfl | (simp only [List.length_drop, List.length_take]; done) | (simp only [List.length_drop, List.length_take]; rfl)) ?_; (with_reducible refine (gazetteerref5_AtlasMay.calls k2 a0_0 _ _ l0_1 5 false _ ?side1 ?side2 A34.out).mono ?_); (case side1 => repeat (first | exact (Kd.C_below HR0_1.out HB.out) | (with_reducible refine Kd.C_alloc ?_ _) | (with_reducible refine Kd.C_drewN ?_ _) | (with_reducible refine Kd.C_drew ?_))); (case side2 => exact HC0_1.out); rintro e w49 ⟨rfl, hb⟩; refine ⟨_, rfl, ?_⟩; have n0_ := Aside0.mk (blk_below (g := gb228) (o := .cells #[.int .i64 a0_0, .slice A0_1 l0_1.length c0_1] 24 (0, 0)) (by (with_reducible repeat (first | refine blk_drewN ?_ _ | refine blk_drew ?_ | refine blk_alloc ?_ _)); exact BK228.out) hb); have n1_ := Aside0.mk (blk_below (g := gb240) (o := .cells #[.string t235, .string t236, .int .i64 t237, .int .i64 t238] 30 (0, 0)) (by (with_reducible repeat (first | refine blk_drewN ?_ _ | refine blk_drew ?_ | refine blk_alloc ?_ _)); exact BK240.out) hb); have n2_ := Aside0.mk (below_step (by repeat (first | (with_reducible first | exact HB.out | apply below_alloc | apply pw_below_drewN | apply below_drew1 | refine below_set ?_ GE228.out | refine below_set ?_ GE240.out) | exact HB.out)) hb); clear BK228; clear BK240; clear HB; have BK228 := n0_; have BK240 := n1_; have HB := n2_; clear n0_ n1_ n2_; (try clear hb); (try clear hb2); (try clear hk); (try clear hi)))
         go_ret
         exact ⟨by first | rfl | (simp [errW_none, errW_some] <;> rfl) | (simp [*, errW_none, errW_some] <;> rfl), by repeat (first | (with_reducible first | exact HB.out | apply below_alloc | apply pw_below_drewN | apply below_drew1 | refine below_set ?_ GE228.out | refine below_set ?_ GE240.out) | exact HB.out)⟩
 ·
  replace c4 := Bool.eq_false_iff.mpr c4
  subst c4
  have H1 : (some false) = some r := by rw [if_neg (show ¬ (false = true) by decide)] at H; exact H
  clear H
  have H := H1
  clear H1
  exact absurd H (by rw [HLT.out]; repeat' first | (with_reducible exact dead_none) | (with_reducible exact dead_false) | (with_reducible refine dead_ite ?_ ?_) | (with_reducible refine dead_bind (fun _ => ?_)) | (refine dead_ite ?_ ?_) | (refine dead_bind (fun _ => ?_)) | (simp; done))

end Go.Proofs.Ytbajekndbamcmaa.PAtlasOwns

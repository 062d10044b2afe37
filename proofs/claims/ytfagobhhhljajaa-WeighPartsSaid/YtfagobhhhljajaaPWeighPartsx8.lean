-- printed by a program of this session (wip/tools), a turned form of the kit's print
import Derived.Test.YtfagobhhhljajaaPWeighPartsx0
import Derived.Test.YtfagobhhhljajaaPWeighPartsx1
import Derived.Test.YtfagobhhhljajaaPWeighPartsx5
import Derived.Test.YtfagobhhhljajaaPWeighPartsx6
import Derived.Test.YtfagobhhhljajaaPWeighPartsx7
namespace Go.Proofs.Ytfagobhhhljajaa.PWeighParts
open Go.RowKit Go.Proofs.YtfagobhhhljajaaW.PrintWords Go.Proofs.YtfagobhhhljajaaW.PrintLast Go.Proofs.YtfagobhhhljajaaW.PrintMore
attribute [local go_sem] max2_int min2_int max_two min_two max_three min_three max_four min_four max2_str min2_str str_geq str_leq str_gtr   -- for this text's walks alone
set_option linter.unusedVariables false
set_option linter.unusedSimpArgs false

attribute [local go_sem high] eqA39
/-! ### gazetteerlaw3_Same: function 13 -/
def gazetteerlaw3_Same.l0 : Nat → List (S39) → List (S39) → Int → Option (Bool)
 | 0, _, _, _ => none
 | k + 1, x0, x1, x5 => if x5 < (x0.length : Int) then (if 0 ≤ x5 then (if x5 < (x1.length : Int) then (if (!(((rd_T39 x0 x5).f0) == ((rd_T39 x1 x5).f0)) || (!(((rd_T39 x0 x5).f1) == ((rd_T39 x1 x5).f1)) || (!(((rd_T39 x0 x5).f2) == ((rd_T39 x1 x5).f2))))) = true then (some false) else (gazetteerlaw3_Same.l0 k x0 x1 (wrap64 (x5 + 1)))) else (none)) else (none)) else (some true)
def gazetteerlaw3_Same.f (k : Nat) (l0 : List (S39)) (l1 : List (S39)) : Option (Bool) := if (l0.length : Int) = (l1.length : Int) then (gazetteerlaw3_Same.l0 k l0 l1 0) else (some false)
theorem gazetteerlaw3_Same.mono_l : ∀ k, (∀ y0 y1 y2, LeO (gazetteerlaw3_Same.l0 k y0 y1 y2) (gazetteerlaw3_Same.l0 (k + 1) y0 y1 y2))
 | 0 => fun _ _ _ r h => by simp [gazetteerlaw3_Same.l0] at h
 | k + 1 => by
  have ih0 := gazetteerlaw3_Same.mono_l k
  ·
   intro y0 y1 y2
   unfold gazetteerlaw3_Same.l0
   repeat' first
   | (with_reducible exact ih0 _ _ _)
   | (with_reducible exact LeO.refl _)
   | (with_reducible exact LeO.none _)
   | (with_reducible refine LeO.ite ?_ ?_)
   | (with_reducible refine LeO.bind ?_ (fun _ => ?_))
   | exact ih0 _ _ _
   | exact LeO.none _
   | refine LeO.ite ?_ ?_
   | refine LeO.bind ?_ (fun _ => ?_)
theorem gazetteerlaw3_Same.mono : ∀ a0 a1 k, LeO (gazetteerlaw3_Same.f k a0 a1) (gazetteerlaw3_Same.f (k + 1) a0 a1) := by
 intro a0 a1 k
 have ih0 := gazetteerlaw3_Same.mono_l k
 unfold gazetteerlaw3_Same.f
 repeat' first
   | (with_reducible exact ih0 _ _ _)
   | (with_reducible exact LeO.refl _)
   | (with_reducible exact LeO.none _)
   | (with_reducible refine LeO.ite ?_ ?_)
   | (with_reducible refine LeO.bind ?_ (fun _ => ?_))
   | exact ih0 _ _ _
   | exact LeO.none _
   | refine LeO.ite ?_ ?_
   | refine LeO.bind ?_ (fun _ => ?_)
set_option maxHeartbeats 8000000 in
set_option maxRecDepth 100000 in
theorem gazetteerlaw3_Same.calls (k : Nat) (A0 : Option Addr) (c0 : Nat) (l0 : List (S39)) (A1 : Option Addr) (c1 : Nat) (l1 : List (S39)) (r : Bool) (w : World) (hr0 : Kd.C k39 w A0 l0.length l0) (hc0 : l0.length ≤ c0) (hr1 : Kd.C k39 w A1 l1.length l1) (hc1 : l1.length ≤ c1) (h : gazetteerlaw3_Same.f k l0 l1 = some r) :
  Calls Try.prog 13 #[.slice A0 l0.length c0, .slice A1 l1.length c1] w fun e w' => e = .returned (.bool r) ∧ Drawn0 w w' := by
 have hu39 := Try.underlying39
 have HR0 := Aside0.mk hr0
 have HC0 := Aside0.mk hc0
 clear hr0 hc0
 have HR1 := Aside0.mk hr1
 have HC1 := Aside0.mk hc1
 clear hr1 hc1
 have H : (if (l0.length : Int) = (l1.length : Int) then (gazetteerlaw3_Same.l0 k l0 l1 0) else (some false)) = some r := h
 clear h
 by_cases c3 : (l0.length : Int) = (l1.length : Int)
 ·
  rw [if_pos c3] at H
  have c3b0 : ((l0.length : Int) == (l1.length : Int)) = true := beq_iff_eq.mpr c3
  have c3b1 : ((l0.length : Int) != (l1.length : Int)) = false := bne_eq_false_iff_eq.mpr c3
  have c3b2 : (l0.length == l1.length) = true := by first | simpa using c3 | (simp at c3 ⊢; omega)
  clear c3
  have H' := Aside0.mk H
  clear H
  go_enter Try.func13, Try.ntmps13
  go_wp2
  repeat (go_quiet (fail); try go_wp2)
  go_loopg [5] k (fun kq v5 w' => ∃ (x5_1 : Int), v5 = .int .i64 x5_1 ∧ Aside0 (gazetteerlaw3_Same.l0 kq l0 l1 x5_1 = some r) ∧ Aside0 (kq ≤ k) ∧ Drawn0 w w')
  case atStart => exact ⟨(0), (by first | rfl | (simp; done) | (simp [*]; done)), H', ⟨Nat.le_refl _⟩, by repeat (first | exact Drawn0.refl _ | apply Drawn0.step)⟩
  case round =>
   clear H'
   try clear c1
   try clear p2
   try clear c3
   try clear c3b0
   try clear c3b1
   try clear c3b2
   obtain ⟨x5_1, rfl, HA, HK1, ⟨m1, rfl⟩⟩ := hrel
   cases gk with
   | zero => exact absurd HA.out (by simp [gazetteerlaw3_Same.l0])
   | succ k1 =>
    have H := HA.out
    clear HA
    simp only [gazetteerlaw3_Same.l0] at H
    by_cases c4 : x5_1 < (l0.length : Int)
    ·
     rw [if_pos c4] at H
     have c4b0 : decide (x5_1 < (l0.length : Int)) = true := decide_eq_true c4
     clear c4
     by_cases c5 : 0 ≤ x5_1
     ·
      rw [if_pos c5] at H
      have c5b0 : decide (0 ≤ x5_1) = true := decide_eq_true c5
      clear c5
      by_cases c6 : x5_1 < (l1.length : Int)
      ·
       rw [if_pos c6] at H
       have c6b0 : decide (x5_1 < (l1.length : Int)) = true := decide_eq_true c6
       clear c6
       by_cases c7 : (!(((rd_T39 l0 x5_1).f0) == ((rd_T39 l1 x5_1).f0)) || (!(((rd_T39 l0 x5_1).f1) == ((rd_T39 l1 x5_1).f1)) || (!(((rd_T39 l0 x5_1).f2) == ((rd_T39 l1 x5_1).f2))))) = true
       ·
        rw [if_pos c7] at H
        have c7b0 : (!(((rd_T39 l0 x5_1).f0) == ((rd_T39 l1 x5_1).f0)) || (!(((rd_T39 l0 x5_1).f1) == ((rd_T39 l1 x5_1).f1)) || (!(((rd_T39 l0 x5_1).f2) == ((rd_T39 l1 x5_1).f2))))) = true := c7
        clear c7
        obtain rfl := Option.some.inj H
        have p154 : 0 ≤ (x5_1 : Int) := of_decide_eq_true (by first | (with_reducible assumption) | assumption)
        have q154 : x5_1 < (l0.length : Int) := of_decide_eq_true (by first | (with_reducible assumption) | assumption)
        obtain ⟨ad154, e154, hx154_0, hx154_1, hx154_2⟩ := at_T39 HR0.out x5_1 p154 q154
        cases e154
        replace p154 := eq_true p154
        replace q154 := eq_true q154
        have p155 : 0 ≤ (x5_1 : Int) := of_decide_eq_true (by first | (with_reducible assumption) | assumption)
        have q155 : x5_1 < (l1.length : Int) := of_decide_eq_true (by first | (with_reducible assumption) | assumption)
        obtain ⟨ad155, e155, hx155_0, hx155_1, hx155_2⟩ := at_T39 HR1.out x5_1 p155 q155
        cases e155
        replace p155 := eq_true p155
        replace q155 := eq_true q155
        go_wp2
        repeat (go_quiet (fail); try go_wp2)
        go_ret
        exact ⟨by first | rfl | (simp; done) | (simp [*]; done), by repeat (first | exact Drawn0.refl _ | apply Drawn0.step)⟩
       ·
        rw [if_neg c7] at H
        have c7b0 : (!(((rd_T39 l0 x5_1).f0) == ((rd_T39 l1 x5_1).f0)) || (!(((rd_T39 l0 x5_1).f1) == ((rd_T39 l1 x5_1).f1)) || (!(((rd_T39 l0 x5_1).f2) == ((rd_T39 l1 x5_1).f2))))) = false := by simpa using c7
        clear c7
        have H' := Aside0.mk H
        clear H
        have p154 : 0 ≤ (x5_1 : Int) := of_decide_eq_true (by first | (with_reducible assumption) | assumption)
        have q154 : x5_1 < (l0.length : Int) := of_decide_eq_true (by first | (with_reducible assumption) | assumption)
        obtain ⟨ad154, e154, hx154_0, hx154_1, hx154_2⟩ := at_T39 HR0.out x5_1 p154 q154
        cases e154
        replace p154 := eq_true p154
        replace q154 := eq_true q154
        have p155 : 0 ≤ (x5_1 : Int) := of_decide_eq_true (by first | (with_reducible assumption) | assumption)
        have q155 : x5_1 < (l1.length : Int) := of_decide_eq_true (by first | (with_reducible assumption) | assumption)
        obtain ⟨ad155, e155, hx155_0, hx155_1, hx155_2⟩ := at_T39 HR1.out x5_1 p155 q155
        cases e155
        replace p155 := eq_true p155
        replace q155 := eq_true q155
        go_wp2
        repeat (go_quiet (fail); try go_wp2)
        go_roundg k1
        case measure => have := HK1.out; omega
        case rel => exact ⟨(wrap64 (x5_1 + 1)), (by first | rfl | (simp; done) | (simp [*]; done)), H', ⟨by have := HK1.out; omega⟩, by repeat (first | exact Drawn0.refl _ | apply Drawn0.step)⟩
      ·
       rw [if_neg c6] at H
       exact absurd H (by simp)
     ·
      rw [if_neg c5] at H
      exact absurd H (by simp)
    ·
     rw [if_neg c4] at H
     have c4b0 : decide (x5_1 < (l0.length : Int)) = false := decide_eq_false c4
     clear c4
     obtain rfl := Option.some.inj H
     go_wp2
     repeat (go_quiet (fail); try go_wp2)
     go_ret
     exact ⟨by first | rfl | (simp; done) | (simp [*]; done), by repeat (first | exact Drawn0.refl _ | apply Drawn0.step)⟩
 ·
  rw [if_neg c3] at H
  have c3b0 : ((l0.length : Int) == (l1.length : Int)) = false := beq_eq_false_iff_ne.mpr c3
  have c3b1 : ((l0.length : Int) != (l1.length : Int)) = true := bne_iff_ne.mpr c3
  have c3b2 : (l0.length == l1.length) = false := by first | simpa using c3 | (simp at c3 ⊢; omega)
  obtain rfl := Option.some.inj H
  go_enter Try.func13, Try.ntmps13
  go_wp2
  repeat (go_quiet (fail); try go_wp2)
  go_ret
  exact ⟨by first | rfl | (simp; done) | (simp [*]; done), by repeat (first | exact Drawn0.refl _ | apply Drawn0.step)⟩

/-! ### gazetteerref1_Implied: function 21 -/
def gazetteerref1_Implied.f (a0 : Int) : Option (Int × Int × Int × Int × Int × Int) := some (wrap64 (64000 + (wrap64 (Int.tdiv (wrap64 (a0)) 3999))), 32, 2, wrap64 (60001 + (Int.tmod (wrap64 (a0)) 3999)), 0, 0)
set_option maxHeartbeats 8000000 in
set_option maxRecDepth 100000 in
theorem gazetteerref1_Implied.calls (a0 : Int) (r1 : Int) (r2 : Int) (r3 : Int) (r4 : Int) (r5 : Int) (r6 : Int) (w : World) (h : gazetteerref1_Implied.f a0 = some (r1, r2, r3, r4, r5, r6)) :
  Calls Try.prog 21 #[.int .i32 a0] w fun e w' => e = .returned (.agg #[.int .i64 r1, .int .i64 r2, .int .i64 r3, .int .i64 r4, .int .i64 r5, .int .i64 r6]) ∧ Below w.heap.size w w' := by
 have hu46 := Try.underlying46
 have hu39 := Try.underlying39
 have HB := Aside0.mk (Below.refl w.heap.size w)
 have H : (some (wrap64 (64000 + (wrap64 (Int.tdiv (wrap64 (a0)) 3999))), 32, 2, wrap64 (60001 + (Int.tmod (wrap64 (a0)) 3999)), 0, 0)) = some (r1, r2, r3, r4, r5, r6) := h
 clear h
 simp only [Option.some.injEq, Prod.mk.injEq] at H
 obtain ⟨rfl, rfl, rfl, rfl, rfl, rfl⟩ := H
 go_enter Try.func21, Try.ntmps21
 go_wp2_with (first | ((with_reducible refine gate_dst (N := 2) rfl ?_); refine box_event ?hg (N := 2) ?hd (cs := #[.int .i64 0, .int .i64 0, .int .i64 0, .int .i64 0, .int .i64 0, .int .i64 0]) (t := 46) ?hr ?_; (case hd => rfl); (case hg => rfl); (case hr => first | (go_simp; done) | (go_simp; rfl)); intro gb156 hg w2 hbox hb; have n0_ := Aside0.mk (below_step (by repeat (first | (with_reducible first | exact HB.out | apply below_alloc | apply pw_below_drewN | apply below_drew1) | exact HB.out)) hb); have n1_ := Aside0.mk (hbox); have n2_ := Aside0.mk ((by rw [hg]; exact (below_size (by repeat (first | (with_reducible first | exact HB.out | apply below_alloc | apply pw_below_drewN | apply below_drew1) | exact HB.out))) : w.heap.size ≤ gb156)); have n3_ := Aside0.mk ((by rw [hg]; exact (below_size (by repeat (first | (with_reducible first | exact HB.out | apply below_alloc | apply pw_below_drewN | apply below_drew1) | exact HB.out))) : w.heap.size ≤ gb156)); clear HB; have HB := n0_; have BK156 := n1_; have GW156 := n2_; have GE156 := n3_; clear n0_ n1_ n2_ n3_; clear hb hbox hg; have hcz3_0 : w2.cell? ⟨gb156, 0, none⟩ = some (.int .i64 0) := (blk_cell BK156.out 0).trans rfl; have hcz3_1 : w2.cell? ⟨gb156, 1, none⟩ = some (.int .i64 0) := (blk_cell BK156.out 1).trans rfl; have hcz3_2 : w2.cell? ⟨gb156, 2, none⟩ = some (.int .i64 0) := (blk_cell BK156.out 2).trans rfl; have hcz3_3 : w2.cell? ⟨gb156, 3, none⟩ = some (.int .i64 0) := (blk_cell BK156.out 3).trans rfl; have hcz3_4 : w2.cell? ⟨gb156, 4, none⟩ = some (.int .i64 0) := (blk_cell BK156.out 4).trans rfl; have hcz3_5 : w2.cell? ⟨gb156, 5, none⟩ = some (.int .i64 0) := (blk_cell BK156.out 5).trans rfl; have hfz3_0 := blk_frozen BK156.out 0; have hfz3_1 := blk_frozen BK156.out 1; have hfz3_2 := blk_frozen BK156.out 2; have hfz3_3 := blk_frozen BK156.out 3; have hfz3_4 := blk_frozen BK156.out 4; have hfz3_5 := blk_frozen BK156.out 5))
 refine bodyPost_ret (results_cell_row rfl _ _ gb156 46 #[.int .i64 (wrap64 (64000 + (wrap64 (Int.tdiv (wrap64 (a0)) 3999)))), .int .i64 32, .int .i64 2, .int .i64 (wrap64 (60001 + (Int.tmod (wrap64 (a0)) 3999))), .int .i64 0, .int .i64 0] (0, 0) _ rfl (by (with_reducible repeat (first | refine blk_drewN ?_ _ | refine blk_drew ?_ | refine blk_alloc ?_ _)); refine blk_put (cs := #[.int .i64 (wrap64 (64000 + (wrap64 (Int.tdiv (wrap64 (a0)) 3999)))), .int .i64 32, .int .i64 2, .int .i64 (wrap64 (60001 + (Int.tmod (wrap64 (a0)) 3999))), .int .i64 0, .int .i64 0]) ?_ 5 _ rfl; (with_reducible repeat (first | refine blk_drewN ?_ _ | refine blk_drew ?_ | refine blk_alloc ?_ _)); refine blk_put (cs := #[.int .i64 (wrap64 (64000 + (wrap64 (Int.tdiv (wrap64 (a0)) 3999)))), .int .i64 32, .int .i64 2, .int .i64 (wrap64 (60001 + (Int.tmod (wrap64 (a0)) 3999))), .int .i64 0, .int .i64 0]) ?_ 4 _ rfl; (with_reducible repeat (first | refine blk_drewN ?_ _ | refine blk_drew ?_ | refine blk_alloc ?_ _)); refine blk_put (cs := #[.int .i64 (wrap64 (64000 + (wrap64 (Int.tdiv (wrap64 (a0)) 3999)))), .int .i64 32, .int .i64 2, .int .i64 0, .int .i64 0, .int .i64 0]) ?_ 3 _ rfl; (with_reducible repeat (first | refine blk_drewN ?_ _ | refine blk_drew ?_ | refine blk_alloc ?_ _)); refine blk_put (cs := #[.int .i64 (wrap64 (64000 + (wrap64 (Int.tdiv (wrap64 (a0)) 3999)))), .int .i64 32, .int .i64 0, .int .i64 0, .int .i64 0, .int .i64 0]) ?_ 2 _ rfl; (with_reducible repeat (first | refine blk_drewN ?_ _ | refine blk_drew ?_ | refine blk_alloc ?_ _)); refine blk_put (cs := #[.int .i64 (wrap64 (64000 + (wrap64 (Int.tdiv (wrap64 (a0)) 3999)))), .int .i64 0, .int .i64 0, .int .i64 0, .int .i64 0, .int .i64 0]) ?_ 1 _ rfl; (with_reducible repeat (first | refine blk_drewN ?_ _ | refine blk_drew ?_ | refine blk_alloc ?_ _)); refine blk_put (cs := #[.int .i64 0, .int .i64 0, .int .i64 0, .int .i64 0, .int .i64 0, .int .i64 0]) ?_ 0 _ rfl; (with_reducible repeat (first | refine blk_drewN ?_ _ | refine blk_drew ?_ | refine blk_alloc ?_ _)); exact BK156.out) Try.underlying46 rfl (by kernel_rfl)) rfl ?_
 exact ⟨by first | rfl | (simp [errW_none, errW_some] <;> rfl) | (simp [*, errW_none, errW_some] <;> rfl), by repeat (first | (with_reducible first | exact HB.out | apply below_alloc | apply pw_below_drewN | apply below_drew1 | refine below_set ?_ GE156.out) | exact HB.out)⟩

/-! ### gazetteerlaw3_awake: function 9 -/
def gazetteerlaw3_awake.f : Option Bool := some true
open Go.Proofs.YtfagobhhhljajaaW.PrintReg
theorem rune1C {w : World} {g t : Nat} {a : Int} (h : w.heap[g]? = some (.cells #[.int .i32 a] t (0, 0))) : Kd.C (Kd.int .i32) w (some ⟨g, 0, none⟩) 1 [a] :=
 blkC (Kd.int .i32) [[.int .i32 a]] h rfl rfl (by intro c hc; simp at hc; subst hc; rfl) (by simp) (fun j x c hx hc => by match j with | 0 => (obtain rfl := Option.some.inj hx; obtain rfl := Option.some.inj hc; rfl) | j + 1 => simp at hx)
theorem rune2C {w : World} {g t : Nat} {a b : Int} (h : w.heap[g]? = some (.cells #[.int .i32 a, .int .i32 b] t (0, 0))) : Kd.C (Kd.int .i32) w (some ⟨g, 0, none⟩) 2 [a, b] :=
 blkC (Kd.int .i32) [[.int .i32 a], [.int .i32 b]] h rfl rfl (by intro c hc; simp at hc; rcases hc with rfl | rfl <;> rfl) (by simp) (fun j x c hx hc => by match j with | 0 => (obtain rfl := Option.some.inj hx; obtain rfl := Option.some.inj hc; rfl) | 1 => (obtain rfl := Option.some.inj hx; obtain rfl := Option.some.inj hc; rfl) | j + 2 => simp at hx)
theorem el1C {w : World} {g t : Nat} {a b c : Int} (h : w.heap[g]? = some (.cells #[.int .i64 a, .int .i64 b, .int .i64 c] t (0, 0))) : Kd.C k39 w (some ⟨g, 0, none⟩) 1 [⟨a, b, c⟩] :=
 blkC k39 [[.int .i64 a, .int .i64 b, .int .i64 c]] h rfl rfl (by intro c hc; simp at hc; subst hc; rfl) (by simp) (fun j x c hx hc => by match j with | 0 => (obtain rfl := Option.some.inj hx; obtain rfl := Option.some.inj hc; exact ⟨[_], [_, _], rfl, rfl, [_], [_], rfl, rfl, rfl⟩) | j + 1 => simp at hx)
theorem el3C {w : World} {g t : Nat} {a b c d e f x y z : Int} (h : w.heap[g]? = some (.cells #[.int .i64 a, .int .i64 b, .int .i64 c, .int .i64 d, .int .i64 e, .int .i64 f, .int .i64 x, .int .i64 y, .int .i64 z] t (0, 0))) : Kd.C k39 w (some ⟨g, 0, none⟩) 3 [⟨a, b, c⟩, ⟨d, e, f⟩, ⟨x, y, z⟩] :=
 blkC k39 [[.int .i64 a, .int .i64 b, .int .i64 c], [.int .i64 d, .int .i64 e, .int .i64 f], [.int .i64 x, .int .i64 y, .int .i64 z]] h rfl rfl (by intro c hc; simp at hc; rcases hc with rfl | rfl | rfl <;> rfl) (by simp) (fun j x c hx hc => by match j with | 0 => (obtain rfl := Option.some.inj hx; obtain rfl := Option.some.inj hc; exact ⟨[_], [_, _], rfl, rfl, [_], [_], rfl, rfl, rfl⟩) | 1 => (obtain rfl := Option.some.inj hx; obtain rfl := Option.some.inj hc; exact ⟨[_], [_, _], rfl, rfl, [_], [_], rfl, rfl, rfl⟩) | 2 => (obtain rfl := Option.some.inj hx; obtain rfl := Option.some.inj hc; exact ⟨[_], [_, _], rfl, rfl, [_], [_], rfl, rfl, rfl⟩) | j + 3 => simp at hx)
theorem row1C {w : World} {g t : Nat} {A B : Option Addr} {ca cb : Nat} {x : S44} (h : w.heap[g]? = some (.cells #[.slice A x.f0.length ca, .slice B x.f1.length cb] t (0, 0))) (ha : x.f0.length ≤ ca) (hA : Kd.C (Kd.int .i32) w A x.f0.length x.f0) (hb : x.f1.length ≤ cb) (hB : Kd.C k39 w B x.f1.length x.f1) : Kd.C k44 w (some ⟨g, 0, none⟩) 1 [x] :=
 blkC k44 [[.slice A x.f0.length ca, .slice B x.f1.length cb]] h rfl rfl (by intro c hc; simp at hc; subst hc; rfl) (by simp) (fun j y c hx hc => by match j with | 0 => (obtain rfl := Option.some.inj hx; obtain rfl := Option.some.inj hc; exact ⟨[_], [_], rfl, ⟨A, ca, rfl, ha, hA⟩, ⟨B, cb, rfl, hb, hB⟩⟩) | j + 1 => simp at hx)
set_option maxRecDepth 100000 in
theorem awake_els : weigh_Elements.f [] [⟨[97], [⟨1, 1, 1⟩]⟩] 0 false [97, 98] = some ([⟨1, 1, 1⟩, ⟨64000, 32, 2⟩, ⟨60099, 0, 0⟩], 0) := by kernel_rfl
set_option maxRecDepth 100000 in
theorem awake_may : weigh_May.f [] [⟨[97], [⟨1, 1, 1⟩]⟩] 0 false = some true := by kernel_rfl
theorem eqW (d : Nat) (w : World) (x0 y0 : Int) (x1 y1 : Int) (x2 y2 : Int) (x3 y3 : Int) (x4 y4 : Int) (x5 y5 : Int) :
  (Op.equalIn (d + 3) 46 (.agg #[.int .i64 x0, .int .i64 x1, .int .i64 x2, .int .i64 x3, .int .i64 x4, .int .i64 x5]) (.agg #[.int .i64 y0, .int .i64 y1, .int .i64 y2, .int .i64 y3, .int .i64 y4, .int .i64 y5])).run Try.prog w = .ok ((x0 == y0 && (x1 == y1 && (x2 == y2))) && ((x3 == y3 && (x4 == y4 && (x5 == y5))))) w := by
 refine eqArr_of (c := 3) Try.underlying46 Try.underlying39 (by kernel_rfl) rfl ?_
 refine eqi_cons (by go_simp) (by go_simp) (eqA39 (d + 0) w _ _ _ _ _ _) ?_
 exact eqi_last (by go_simp) (by go_simp) (eqA39 (d + 0) w _ _ _ _ _ _)
attribute [local go_sem high] eqW
set_option maxHeartbeats 8000000 in
set_option maxRecDepth 100000 in
theorem gazetteerlaw3_awake.calls  (r : Bool) (w : World) (h : gazetteerlaw3_awake.f  = some r) :
  Calls Try.prog 9 #[] w fun e w' => e = .returned (.bool r) ∧ Below w.heap.size w w' := by
 obtain rfl := Option.some.inj h
 clear h
 go_enter Try.func9, Try.ntmps9
 obtain ⟨w1, hw1⟩ : ∃ w1, w1 = w.alloc (.cells #[.int .i32 97] 21) := ⟨_, rfl⟩
 obtain ⟨w2, hw2⟩ : ∃ w2, w2 = w1.alloc (.cells #[.int .i64 1, .int .i64 1, .int .i64 1] 39) := ⟨_, rfl⟩
 obtain ⟨w3, hw3⟩ : ∃ w3, w3 = w2.alloc (.cells #[.slice (some ⟨w.heap.size, 0, none⟩) 1 1, .slice (some ⟨w.heap.size + 1, 0, none⟩) 1 1] 44) := ⟨_, rfl⟩
 obtain ⟨w4, hw4⟩ : ∃ w4, w4 = w3.alloc (.cells #[.slice none 0 0, .slice (some ⟨w.heap.size + 1 + 1, 0, none⟩) 1 1, .int .i64 0, .bool false] 25) := ⟨_, rfl⟩
 obtain ⟨w5, hw5⟩ : ∃ w5, w5 = w4.alloc (.cells #[.int .i32 97, .int .i32 98] 21) := ⟨_, rfl⟩
 have s1 : w1.heap.size = w.heap.size + 1 := by rw [hw1, size_alloc]
 have s2 : w2.heap.size = w.heap.size + 1 + 1 := by rw [hw2, size_alloc, s1]
 have s3 : w3.heap.size = w.heap.size + 1 + 1 + 1 := by rw [hw3, size_alloc, s2]
 have s4 : w4.heap.size = w.heap.size + 1 + 1 + 1 + 1 := by rw [hw4, size_alloc, s3]
 have b1 : Below w.heap.size w w1 := by rw [hw1]; exact below_alloc (Below.refl _ _) _
 have b2 : Below w1.heap.size w1 w2 := by rw [hw2]; exact below_alloc (Below.refl _ _) _
 have b3 : Below w2.heap.size w2 w3 := by rw [hw3]; exact below_alloc (Below.refl _ _) _
 have b4 : Below w3.heap.size w3 w4 := by rw [hw4]; exact below_alloc (Below.refl _ _) _
 have b5 : Below w4.heap.size w4 w5 := by rw [hw5]; exact below_alloc (Below.refl _ _) _
 have g1 : w5.heap[w.heap.size]? = some (.cells #[.int .i32 97] 21 (0, 0)) := blk_below (blk_below (blk_below (blk_below (by rw [hw1]; exact blk_new w _) b2) b3) b4) b5
 have g2 : w5.heap[w.heap.size + 1]? = some (.cells #[.int .i64 1, .int .i64 1, .int .i64 1] 39 (0, 0)) := blk_below (blk_below (blk_below (by rw [← s1, hw2]; exact blk_new w1 _) b3) b4) b5
 have g3 : w5.heap[w.heap.size + 1 + 1]? = some (.cells #[.slice (some ⟨w.heap.size, 0, none⟩) 1 1, .slice (some ⟨w.heap.size + 1, 0, none⟩) 1 1] 44 (0, 0)) := blk_below (blk_below (by rw [← s2, hw3]; exact blk_new w2 _) b4) b5
 have g4 : w5.heap[w.heap.size + 1 + 1 + 1]? = some (.cells #[.slice none 0 0, .slice (some ⟨w.heap.size + 1 + 1, 0, none⟩) 1 1, .int .i64 0, .bool false] 25 (0, 0)) := blk_below (by rw [← s3, hw4]; exact blk_new w3 _) b5
 have g5 : w5.heap[w.heap.size + 1 + 1 + 1 + 1]? = some (.cells #[.int .i32 97, .int .i32 98] 21 (0, 0)) := by rw [← s4, hw5]; exact blk_new w4 _
 have HROW : Aside0 (Kd.C k44 w5 (some ⟨w.heap.size + 1 + 1, 0, none⟩) 1 [⟨[97], [⟨1, 1, 1⟩]⟩]) := ⟨row1C (x := ⟨[97], [⟨1, 1, 1⟩]⟩) g3 (Nat.le_refl _) (rune1C g1) (Nat.le_refl _) (el1C g2)⟩
 have FE := Aside0.mk (weigh_Elements.calls none 0 [] (some ⟨w.heap.size + 1 + 1, 0, none⟩) 1 [⟨[97], [⟨1, 1, 1⟩]⟩] 0 false (some ⟨w.heap.size + 1 + 1 + 1 + 1, 0, none⟩) 2 [97, 98] _ _ w5 (Kd.C_nil _ _) (Nat.le_refl _) HROW.out (Nat.le_refl _) (rune2C g5) (Nat.le_refl _) awake_els)
 have FMY := Aside0.mk (fun (W' : World) (hb : Below w5.heap.size w5 W') => weigh_May.calls none 0 [] (some ⟨w.heap.size + 1 + 1, 0, none⟩) 1 [⟨[97], [⟨1, 1, 1⟩]⟩] 0 false true W' (Kd.C_nil _ _) (Nat.le_refl _) (Kd.C_below HROW.out hb) (Nat.le_refl _) awake_may)
 have HB5 := Aside0.mk (below_step (below_step (below_step (below_step b1 b2) b3) b4) b5)
 have G4 := Aside0.mk g4
 clear s1 s2 s3 s4 b1 b2 b3 b4 b5 g1 g2 g3 g4 g5
 go_wp2_with fail
 rw [← hw1, ← hw2, ← hw3, ← hw4, ← hw5]
 clear hw1 hw2 hw3 hw4 hw5
 refine FE.out.mono ?_
 rintro e w6 ⟨v0, rfl, ho, hb⟩
 obtain ⟨A0, c0, rfl, hc0, hC⟩ := Kd.R_reads ho
 have HB6 := Aside0.mk (below_step HB5.out hb)
 have HBW := Aside0.mk hb
 have HC6 := Aside0.mk (And.intro hC hc0)
 clear ho hb hC hc0 FE
 go_wp2_with fail
 refine (weigh_Implied.calls 98 64000 32 2 60099 0 0 w6 (by kernel_rfl)).mono ?_
 rintro e w7 ⟨rfl, hb⟩
 have HB7 := Aside0.mk (below_step HB6.out hb)
 have HBX := Aside0.mk (below_step HBW.out hb)
 have HC7 := Aside0.mk (And.intro (Kd.C_below HC6.out.1 hb) HC6.out.2)
 clear hb
 go_wp2_with fail
 obtain ⟨w9, hw9⟩ : ∃ w9, w9 = w7.alloc (.cells #[.int .i64 64000, .int .i64 32, .int .i64 2, .int .i64 60099, .int .i64 0, .int .i64 0] 46) := ⟨_, rfl⟩
 obtain ⟨gx, hgx⟩ : ∃ gx, gx = w7.heap.size := ⟨_, rfl⟩
 rw [← hw9, ← hgx]
 have hb79 : Below w7.heap.size w7 w9 := by rw [hw9]; exact below_alloc (Below.refl _ _) _
 have X9 : Aside0 (w9.heap[gx]? = some (.cells #[.int .i64 64000, .int .i64 32, .int .i64 2, .int .i64 60099, .int .i64 0, .int .i64 0] 46 (0, 0))) := ⟨by rw [hw9, hgx]; exact blk_new w7 _⟩
 have HB9 := Aside0.mk (below_step HB7.out hb79)
 have HB59 := Aside0.mk (below_step HBX.out hb79)
 have HC9 := Aside0.mk (And.intro (Kd.C_below HC7.out.1 hb79) HC7.out.2)
 have G9 := Aside0.mk (blk_below G4.out HB59.out)
 clear hw9 hgx hb79
 refine wp_reg 22 rfl rfl (by kernel_rfl) (fun z => z 0 :: .pointer (some ⟨w.heap.size + 1 + 1 + 1, 0, none⟩) :: .slice A0 3 c0 :: .int .i64 0 :: .pointer (some ⟨gx, 0, none⟩) :: .slice (some ⟨w.heap.size, 0, none⟩) 1 1 :: .agg #[.int .i64 1, .int .i64 1, .int .i64 1] :: .slice (some ⟨w.heap.size + 1, 0, none⟩) 1 1 :: .agg #[.slice (some ⟨w.heap.size, 0, none⟩) 1 1, .slice (some ⟨w.heap.size + 1, 0, none⟩) 1 1] :: .slice (some ⟨w.heap.size + 1 + 1, 0, none⟩) 1 1 :: .agg #[.slice none 0 0, .slice (some ⟨w.heap.size + 1 + 1, 0, none⟩) 1 1, .int .i64 0, .bool false] :: .tuple #[.slice A0 3 c0, .int .i64 0] :: .agg #[.slice none 0 0, .slice (some ⟨w.heap.size + 1 + 1, 0, none⟩) 1 1, .int .i64 0, .bool false] :: .slice (some ⟨w.heap.size + 1 + 1 + 1 + 1, 0, none⟩) 2 2 :: .tuple #[.slice A0 3 c0, .int .i64 0] :: .slice A0 3 c0 :: .int .i64 0 :: .agg #[.int .i64 64000, .int .i64 32, .int .i64 2, .int .i64 60099, .int .i64 0, .int .i64 0] :: z 18 :: z 19 :: z 20 :: z 21 :: z 22 :: z 23 :: z 24 :: z 25 :: z 26 :: z 27 :: z 28 :: z 29 :: z 30 :: z 31 :: z 32 :: z 33 :: z 34 :: z 35 :: z 36 :: z 37 :: z 38 :: []) (fun (gg : Nat) => [(0, 18, .int .i64 0), (1, 19, .bool true), (2, 20, .bool true), (3, 21, .agg #[.slice none 0 0, .slice (some ⟨w.heap.size + 1 + 1, 0, none⟩) 1 1, .int .i64 0, .bool false]), (4, 22, .bool true), (5, 23, .bool true), (6, 24, .bool true), (7, 25, .slice A0 3 c0), (8, 26, .agg #[.int .i64 1, .int .i64 1, .int .i64 1]), (9, 27, .pointer (some ⟨gx, 0, none⟩)), (10, 28, .agg #[.int .i64 64000, .int .i64 32, .int .i64 2]), (11, 29, .pointer (some ⟨gx, 3, none⟩)), (12, 30, .agg #[.int .i64 60099, .int .i64 0, .int .i64 0]), (13, 31, .slice (some ⟨gg, 0, none⟩) 3 3), (14, 32, .bool true), (15, 33, .bool true), (16, 34, .bool true), (17, 35, .agg #[.int .i64 64000, .int .i64 32, .int .i64 2, .int .i64 60099, .int .i64 0, .int .i64 0]), (18, 36, .agg #[.int .i64 64000, .int .i64 32, .int .i64 2, .int .i64 60099, .int .i64 0, .int .i64 0]), (19, 37, .bool true), (20, 38, .bool true), (21, 0, .bool true)]) (fun LL gg z wx => Aside0 (Below w9.heap.size w9 wx) ∧ Aside0 (LL 13 = true → wx.heap[gg]? = some (.cells #[.int .i64 1, .int .i64 1, .int .i64 1, .int .i64 64000, .int .i64 32, .int .i64 2, .int .i64 60099, .int .i64 0, .int .i64 0] 39 (0, 0)))) 0 (zz [(0, .bool false), (18, undef), (19, undef), (20, undef), (21, undef), (22, undef), (23, undef), (24, undef), (25, undef), (26, undef), (27, undef), (28, undef), (29, undef), (30, undef), (31, undef), (32, undef), (33, undef), (34, undef), (35, undef), (36, undef), (37, undef), (38, undef)]) rfl rfl ⟨⟨below_drew (Below.refl _ _)⟩, ⟨fun h => absurd h (by decide)⟩⟩ ?_ ?_
 ·
  refine Steps.cons ?_ (Steps.cons ?_ (Steps.cons ?_ (Steps.cons ?_ (Steps.cons ?_ (Steps.cons ?_ (Steps.cons ?_ (Steps.cons ?_ (Steps.cons ?_ (Steps.cons ?_ (Steps.cons ?_ (Steps.cons ?_ (Steps.cons ?_ (Steps.cons ?_ (Steps.cons ?_ (Steps.cons ?_ (Steps.cons ?_ (Steps.cons ?_ (Steps.cons ?_ (Steps.cons ?_ (Steps.cons ?_ (Steps.cons ?_ (Steps.nil))))))))))))))))))))))
  ·
   exact V0 0
  ·
   exact V1 1 0
  ·
   exact V1 2 1
  ·
   refine V1 3 2 (h := fun LL gg z wx hl hLk eg K hK => ?_)
   obtain ⟨⟨hb, h31⟩⟩ := hl
   have q0_ : wx.cell? ⟨w.heap.size + 1 + 1 + 1, 0, none⟩ = some (.slice none 0 0) := (blk_cell (blk_below G9.out hb.out) 0).trans rfl
   have q1_ : wx.cell? ⟨w.heap.size + 1 + 1 + 1, 1, none⟩ = some (.slice (some ⟨w.heap.size + 1 + 1, 0, none⟩) 1 1) := (blk_cell (blk_below G9.out hb.out) 1).trans rfl
   have q2_ : wx.cell? ⟨w.heap.size + 1 + 1 + 1, 2, none⟩ = some (.int .i64 0) := (blk_cell (blk_below G9.out hb.out) 2).trans rfl
   have q3_ : wx.cell? ⟨w.heap.size + 1 + 1 + 1, 3, none⟩ = some (.bool false) := (blk_cell (blk_below G9.out hb.out) 3).trans rfl
   dsimp only [FA]
   refine wantd (by rw [eg]; rfl) ?_
   go_simp
   exact hK.out
  ·
   refine CD 4 (fun _ => rfl) (fun _ => rfl) fun LL gg z wx hl hLk hd hI K hK => ?_
   obtain ⟨⟨hb, h31⟩⟩ := hl
   have e3 := hI.at 3 rfl (hd 3 rfl)
   dsimp only [FA]
   have eg := hI.at 2 rfl (hd 2 rfl)
   refine wantd (by rw [eg]; rfl) ?_
   go_simp
   refine (FMY.out wx (below_step HB59.out hb.out)).mono ?_
   rintro e w' ⟨rfl, hb1⟩
   exact hK gg _ _ (sm2 eg e3) rfl rfl ⟨⟨below_step hb.out hb1⟩, ⟨fun a => blk_below (h31.out a) hb1⟩⟩
  ·
   exact V2 5 2 4
  ·
   exact V1 6 5
  ·
   exact V1 7 6
  ·
   exact V1 8 6
  ·
   exact V1 9 6
  ·
   refine V2 10 6 9 (h := fun LL gg z wx hl hLk eg e9 K hK => ?_)
   obtain ⟨⟨hb, h31⟩⟩ := hl
   have x0_ : wx.cell? ⟨gx, 0, none⟩ = some (.int .i64 64000) := (blk_cell (blk_below X9.out hb.out) 0).trans rfl
   have x1_ : wx.cell? ⟨gx, 1, none⟩ = some (.int .i64 32) := (blk_cell (blk_below X9.out hb.out) 1).trans rfl
   have x2_ : wx.cell? ⟨gx, 2, none⟩ = some (.int .i64 2) := (blk_cell (blk_below X9.out hb.out) 2).trans rfl
   dsimp only [FA]
   refine wantd (by rw [eg]; rfl) ?_
   go_simp
   exact hK.out
  ·
   exact V1 11 6
  ·
   refine V2 12 6 11 (h := fun LL gg z wx hl hLk eg e11 K hK => ?_)
   obtain ⟨⟨hb, h31⟩⟩ := hl
   have x3_ : wx.cell? ⟨gx, 3, none⟩ = some (.int .i64 60099) := (blk_cell (blk_below X9.out hb.out) 3).trans rfl
   have x4_ : wx.cell? ⟨gx, 4, none⟩ = some (.int .i64 0) := (blk_cell (blk_below X9.out hb.out) 4).trans rfl
   have x5_ : wx.cell? ⟨gx, 5, none⟩ = some (.int .i64 0) := (blk_cell (blk_below X9.out hb.out) 5).trans rfl
   dsimp only [FA]
   refine wantd (by rw [eg]; rfl) ?_
   go_simp
   exact hK.out
  ·
   refine CD 13 (fun _ => rfl) (fun _ => rfl) fun LL gg z wx hl hLk hd hI K hK => ?_
   obtain ⟨⟨hb, h31⟩⟩ := hl
   have e8 := hI.at 8 rfl (hd 8 rfl)
   have e10 := hI.at 10 rfl (hd 10 rfl)
   have e12 := hI.at 12 rfl (hd 12 rfl)
   dsimp only [FA]
   have eg := hI.at 6 rfl (hd 6 rfl)
   refine wantd (by rw [eg]; rfl) ?_
   go_simp
   exact hK wx.heap.size _ _ (sm4 eg e8 e10 e12) rfl rfl ⟨⟨below_alloc hb.out _⟩, ⟨fun _ => blk_new wx _⟩⟩
  ·
   refine CD 14 (fun _ => rfl) (fun _ => rfl) fun LL gg z wx hl hLk hd hI K hK => ?_
   obtain ⟨⟨hb, h31⟩⟩ := hl
   have e7 := hI.at 7 rfl (hd 7 rfl)
   have e13 := hI.at 13 rfl (hd 13 rfl)
   dsimp only [FA]
   have eg := hI.at 6 rfl (hd 6 rfl)
   refine wantd (by rw [eg]; rfl) ?_
   go_simp
   refine (gazetteerlaw3_Same.calls 100 A0 c0 [⟨1, 1, 1⟩, ⟨64000, 32, 2⟩, ⟨60099, 0, 0⟩] (some ⟨gg, 0, none⟩) 3 [⟨1, 1, 1⟩, ⟨64000, 32, 2⟩, ⟨60099, 0, 0⟩] true wx (Kd.C_below HC9.out.1 hb.out) HC9.out.2 (el3C (h31.out (hd 13 rfl))) (Nat.le_refl _) (by kernel_rfl)).mono ?_
   rintro e w' ⟨rfl, hb0⟩
   have hb1 := hb0.below
   exact hK gg _ _ (sm3 eg e7 e13) rfl rfl ⟨⟨below_step hb.out hb1⟩, ⟨fun a => blk_below (h31.out a) hb1⟩⟩
  ·
   exact V2 15 6 14
  ·
   exact V1 16 15
  ·
   refine V1 17 16 (h := fun LL gg z wx hl hLk eg K hK => ?_)
   obtain ⟨⟨hb, h31⟩⟩ := hl
   have x0_ : wx.cell? ⟨gx, 0, none⟩ = some (.int .i64 64000) := (blk_cell (blk_below X9.out hb.out) 0).trans rfl
   have x1_ : wx.cell? ⟨gx, 1, none⟩ = some (.int .i64 32) := (blk_cell (blk_below X9.out hb.out) 1).trans rfl
   have x2_ : wx.cell? ⟨gx, 2, none⟩ = some (.int .i64 2) := (blk_cell (blk_below X9.out hb.out) 2).trans rfl
   have x3_ : wx.cell? ⟨gx, 3, none⟩ = some (.int .i64 60099) := (blk_cell (blk_below X9.out hb.out) 3).trans rfl
   have x4_ : wx.cell? ⟨gx, 4, none⟩ = some (.int .i64 0) := (blk_cell (blk_below X9.out hb.out) 4).trans rfl
   have x5_ : wx.cell? ⟨gx, 5, none⟩ = some (.int .i64 0) := (blk_cell (blk_below X9.out hb.out) 5).trans rfl
   dsimp only [FA]
   refine wantd (by rw [eg]; rfl) ?_
   go_simp
   exact hK.out
  ·
   refine CD 18 (fun _ => rfl) (fun _ => rfl) fun LL gg z wx hl hLk hd hI K hK => ?_
   obtain ⟨⟨hb, h31⟩⟩ := hl
   dsimp only [FA]
   have eg := hI.at 16 rfl (hd 16 rfl)
   refine wantd (by rw [eg]; rfl) ?_
   go_simp
   refine (gazetteerref1_Implied.calls 98 64000 32 2 60099 0 0 wx (by kernel_rfl)).mono ?_
   rintro e w' ⟨rfl, hb1⟩
   exact hK gg _ _ (sm1 eg) rfl rfl ⟨⟨below_step hb.out hb1⟩, ⟨fun a => blk_below (h31.out a) hb1⟩⟩
  ·
   exact V3 19 16 17 18
  ·
   exact V2 20 16 19
  ·
   exact V1 21 20
 ·
  intro LL g31 z wc hall hI hl
  obtain ⟨⟨hb, h31⟩⟩ := hl
  have e21 := hI.at 21 rfl (hall 21 (by decide))
  dsimp only [FA] at ⊢
  rw [e21]
  have HBC := hb
  clear hI hb h31 e21 hall
  go_wp2_with fail
  go_ret
  exact ⟨rfl, below_step HB9.out HBC.out⟩


/-! ### gazetteerlaw3_Few: function 10 -/
mutual
def gazetteerlaw3_Few.l0 : Nat → List Int → Int → Int → List (S42) → List (S44) → Int → Bool → Option (Bool)
 | 0, _, _, _, _, _, _, _ => none
 | k + 1, x1, x5, x6, x158000, x158001, x158002, x158003 => if x6 < (x158001.length : Int) then (if 0 ≤ x6 then (gazetteerlaw3_Few.l0 k x1 (wrap64 ((wrap64 (x5 + (((rd_T44 x158001 x6).f0).length : Int))) + (((rd_T44 x158001 x6).f1).length : Int))) (wrap64 (x6 + 1)) x158000 x158001 x158002 x158003) else (none)) else (gazetteerlaw3_Few.l1 k x1 x5 0 x158000 x158001 x158002 x158003)
def gazetteerlaw3_Few.l1 : Nat → List Int → Int → Int → List (S42) → List (S44) → Int → Bool → Option (Bool)
 | 0, _, _, _, _, _, _, _ => none
 | k + 1, x1, x5, x7, x158000, x158001, x158002, x158003 => if x7 < (x158000.length : Int) then (if 0 ≤ x7 then (gazetteerlaw3_Few.l1 k x1 (wrap64 (x5 + (((rd_T42 x158000 x7).f2).length : Int))) (wrap64 (x7 + 1)) x158000 x158001 x158002 x158003) else (none)) else (if (x158001.length : Int) ≤ 100 then (if (x158000.length : Int) ≤ 100 then (if x5 ≤ 1000 then (some (decide ((x1.length : Int) ≤ 200))) else (some false)) else (some false)) else (some false))
end
def gazetteerlaw3_Few.f (k : Nat) (l0_0 : List (S42)) (l0_1 : List (S44)) (a0_2 : Int) (a0_3 : Bool) (l1 : List Int) : Option (Bool) := gazetteerlaw3_Few.l0 k l1 0 0 l0_0 l0_1 a0_2 a0_3
theorem gazetteerlaw3_Few.mono_l : ∀ k, (∀ y0 y1 y2 y3 y4 y5 y6, LeO (gazetteerlaw3_Few.l0 k y0 y1 y2 y3 y4 y5 y6) (gazetteerlaw3_Few.l0 (k + 1) y0 y1 y2 y3 y4 y5 y6)) ∧ (∀ y0 y1 y2 y3 y4 y5 y6, LeO (gazetteerlaw3_Few.l1 k y0 y1 y2 y3 y4 y5 y6) (gazetteerlaw3_Few.l1 (k + 1) y0 y1 y2 y3 y4 y5 y6))
 | 0 => ⟨fun _ _ _ _ _ _ _ r h => by simp [gazetteerlaw3_Few.l0] at h, fun _ _ _ _ _ _ _ r h => by simp [gazetteerlaw3_Few.l1] at h⟩
 | k + 1 => by
  obtain ⟨ih0, ih1⟩ := gazetteerlaw3_Few.mono_l k
  refine ⟨?_, ?_⟩
  ·
   intro y0 y1 y2 y3 y4 y5 y6
   unfold gazetteerlaw3_Few.l0
   repeat' first
   | (with_reducible exact ih0 _ _ _ _ _ _ _)
   | (with_reducible exact ih1 _ _ _ _ _ _ _)
   | (with_reducible exact LeO.refl _)
   | (with_reducible exact LeO.none _)
   | (with_reducible refine LeO.ite ?_ ?_)
   | (with_reducible refine LeO.bind ?_ (fun _ => ?_))
   | exact ih0 _ _ _ _ _ _ _
   | exact ih1 _ _ _ _ _ _ _
   | exact LeO.none _
   | refine LeO.ite ?_ ?_
   | refine LeO.bind ?_ (fun _ => ?_)
  ·
   intro y0 y1 y2 y3 y4 y5 y6
   unfold gazetteerlaw3_Few.l1
   repeat' first
   | (with_reducible exact ih0 _ _ _ _ _ _ _)
   | (with_reducible exact ih1 _ _ _ _ _ _ _)
   | (with_reducible exact LeO.refl _)
   | (with_reducible exact LeO.none _)
   | (with_reducible refine LeO.ite ?_ ?_)
   | (with_reducible refine LeO.bind ?_ (fun _ => ?_))
   | exact ih0 _ _ _ _ _ _ _
   | exact ih1 _ _ _ _ _ _ _
   | exact LeO.none _
   | refine LeO.ite ?_ ?_
   | refine LeO.bind ?_ (fun _ => ?_)
theorem gazetteerlaw3_Few.mono : ∀ a0 a1 a2 a3 a4 k, LeO (gazetteerlaw3_Few.f k a0 a1 a2 a3 a4) (gazetteerlaw3_Few.f (k + 1) a0 a1 a2 a3 a4) := by
 intro a0 a1 a2 a3 a4 k
 obtain ⟨ih0, ih1⟩ := gazetteerlaw3_Few.mono_l k
 unfold gazetteerlaw3_Few.f
 repeat' first
   | (with_reducible exact ih0 _ _ _ _ _ _ _)
   | (with_reducible exact ih1 _ _ _ _ _ _ _)
   | (with_reducible exact LeO.refl _)
   | (with_reducible exact LeO.none _)
   | (with_reducible refine LeO.ite ?_ ?_)
   | (with_reducible refine LeO.bind ?_ (fun _ => ?_))
   | exact ih0 _ _ _ _ _ _ _
   | exact ih1 _ _ _ _ _ _ _
   | exact LeO.none _
   | refine LeO.ite ?_ ?_
   | refine LeO.bind ?_ (fun _ => ?_)
set_option maxHeartbeats 8000000 in
set_option maxRecDepth 100000 in
theorem gazetteerlaw3_Few.calls (k : Nat) (A0_0 : Option Addr) (c0_0 : Nat) (l0_0 : List (S42)) (A0_1 : Option Addr) (c0_1 : Nat) (l0_1 : List (S44)) (a0_2 : Int) (a0_3 : Bool) (A1 : Option Addr) (c1 : Nat) (l1 : List Int) (r : Bool) (w : World) (hr0_0 : Kd.C k42 w A0_0 l0_0.length l0_0) (hc0_0 : l0_0.length ≤ c0_0) (hr0_1 : Kd.C k44 w A0_1 l0_1.length l0_1) (hc0_1 : l0_1.length ≤ c0_1) (hr1 : Kd.C (Kd.int .i32) w A1 l1.length l1) (hc1 : l1.length ≤ c1) (h : gazetteerlaw3_Few.f k l0_0 l0_1 a0_2 a0_3 l1 = some r) :
  Calls Try.prog 10 #[.agg #[.slice A0_0 l0_0.length c0_0, .slice A0_1 l0_1.length c0_1, .int .i64 a0_2, .bool a0_3], .slice A1 l1.length c1] w fun e w' => e = .returned (.bool r) ∧ Below w.heap.size w w' := by
 have hu25 := Try.underlying25
 have HR0_0 := Aside0.mk hr0_0
 have HC0_0 := Aside0.mk hc0_0
 clear hr0_0 hc0_0
 have HR0_1 := Aside0.mk hr0_1
 have HC0_1 := Aside0.mk hc0_1
 clear hr0_1 hc0_1
 have HR1 := Aside0.mk hr1
 have HC1 := Aside0.mk hc1
 clear hr1 hc1
 have HB := Aside0.mk (Below.refl w.heap.size w)
 have H : (gazetteerlaw3_Few.l0 k l1 0 0 l0_0 l0_1 a0_2 a0_3) = some r := h
 clear h
 have H' := Aside0.mk H
 clear H
 go_enter Try.func10, Try.ntmps10
 go_wp2_with (first | ((with_reducible refine gate_dst (N := 2) rfl ?_); (try (refine gate_guard (by rfl) ?_; dsimp only)); refine box_event ?hg (N := 2) ?hd (cs := #[.slice A0_0 l0_0.length c0_0, .slice A0_1 l0_1.length c0_1, .int .i64 a0_2, .bool a0_3]) (t := 25) ?hr ?_; (case hd => rfl); (case hg => rfl); (case hr => first | (go_simp; done) | (go_simp; rfl)); intro gb157 hg w3 hbox hb; have n0_ := Aside0.mk (below_step (by repeat (first | (with_reducible first | exact HB.out | apply below_alloc | apply pw_below_drewN | apply below_drew1) | exact HB.out)) hb); have n1_ := Aside0.mk (hbox); have n2_ := Aside0.mk ((by rw [hg]; exact (below_size (by repeat (first | (with_reducible first | exact HB.out | apply below_alloc | apply pw_below_drewN | apply below_drew1) | exact HB.out))) : w.heap.size ≤ gb157)); have n3_ := Aside0.mk ((by rw [hg]; exact (below_size (by repeat (first | (with_reducible first | exact HB.out | apply below_alloc | apply pw_below_drewN | apply below_drew1) | exact HB.out))) : w.heap.size ≤ gb157)); clear HB; have HB := n0_; have BK157 := n1_; have GW157 := n2_; have GE157 := n3_; clear n0_ n1_ n2_ n3_; clear hb hbox hg))
 repeat (go_quiet (first | ((with_reducible refine gate_dst (N := 2) rfl ?_); (try (refine gate_guard (by rfl) ?_; dsimp only)); refine box_event ?hg (N := 2) ?hd (cs := #[.slice A0_0 l0_0.length c0_0, .slice A0_1 l0_1.length c0_1, .int .i64 a0_2, .bool a0_3]) (t := 25) ?hr ?_; (case hd => rfl); (case hg => rfl); (case hr => first | (go_simp; done) | (go_simp; rfl)); intro gb157 hg w3 hbox hb; have n0_ := Aside0.mk (below_step (by repeat (first | (with_reducible first | exact HB.out | apply below_alloc | apply pw_below_drewN | apply below_drew1) | exact HB.out)) hb); have n1_ := Aside0.mk (hbox); have n2_ := Aside0.mk ((by rw [hg]; exact (below_size (by repeat (first | (with_reducible first | exact HB.out | apply below_alloc | apply pw_below_drewN | apply below_drew1) | exact HB.out))) : w.heap.size ≤ gb157)); have n3_ := Aside0.mk ((by rw [hg]; exact (below_size (by repeat (first | (with_reducible first | exact HB.out | apply below_alloc | apply pw_below_drewN | apply below_drew1) | exact HB.out))) : w.heap.size ≤ gb157)); clear HB; have HB := n0_; have BK157 := n1_; have GW157 := n2_; have GE157 := n3_; clear n0_ n1_ n2_ n3_; clear hb hbox hg)); try go_wp2_with (first | ((with_reducible refine gate_dst (N := 2) rfl ?_); (try (refine gate_guard (by rfl) ?_; dsimp only)); refine box_event ?hg (N := 2) ?hd (cs := #[.slice A0_0 l0_0.length c0_0, .slice A0_1 l0_1.length c0_1, .int .i64 a0_2, .bool a0_3]) (t := 25) ?hr ?_; (case hd => rfl); (case hg => rfl); (case hr => first | (go_simp; done) | (go_simp; rfl)); intro gb157 hg w3 hbox hb; have n0_ := Aside0.mk (below_step (by repeat (first | (with_reducible first | exact HB.out | apply below_alloc | apply pw_below_drewN | apply below_drew1) | exact HB.out)) hb); have n1_ := Aside0.mk (hbox); have n2_ := Aside0.mk ((by rw [hg]; exact (below_size (by repeat (first | (with_reducible first | exact HB.out | apply below_alloc | apply pw_below_drewN | apply below_drew1) | exact HB.out))) : w.heap.size ≤ gb157)); have n3_ := Aside0.mk ((by rw [hg]; exact (below_size (by repeat (first | (with_reducible first | exact HB.out | apply below_alloc | apply pw_below_drewN | apply below_drew1) | exact HB.out))) : w.heap.size ≤ gb157)); clear HB; have HB := n0_; have BK157 := n1_; have GW157 := n2_; have GE157 := n3_; clear n0_ n1_ n2_ n3_; clear hb hbox hg)))
 go_loopg [5, 6] k (fun kq v5 v6 w' => ∃ (x5_1 : Int) (x6_1 : Int), v5 = .int .i64 x5_1 ∧ v6 = .int .i64 x6_1 ∧ Aside0 (gazetteerlaw3_Few.l0 kq l1 x5_1 x6_1 l0_0 l0_1 a0_2 a0_3 = some r) ∧ Aside0 (kq ≤ k) ∧ Aside0 (w'.heap[gb157]? = some (.cells #[(.slice A0_0 l0_0.length c0_0), (.slice A0_1 l0_1.length c0_1), .int .i64 a0_2, .bool a0_3] 25 (0, 0))) ∧ Aside0 (Below w.heap.size w w'))
 case atStart => exact ⟨(0), (0), (by first | rfl | (simp; done) | (simp [*]; done)), (by first | rfl | (simp; done) | (simp [*]; done)), H', ⟨Nat.le_refl _⟩, ⟨by (with_reducible repeat (first | refine blk_drewN ?_ _ | refine blk_drew ?_ | refine blk_alloc ?_ _)); exact BK157.out⟩, ⟨by repeat (first | (with_reducible first | exact HB.out | apply below_alloc | apply pw_below_drewN | apply below_drew1 | refine below_set ?_ GE157.out) | exact HB.out)⟩⟩
 case round =>
  clear H'
  try clear c1
  try clear p2
  obtain ⟨x5_1, x6_1, rfl, rfl, HA, HK1, BK157, HB⟩ := hrel
  cases gk with
  | zero => exact absurd HA.out (by simp [gazetteerlaw3_Few.l0])
  | succ k1 =>
   have H := HA.out
   clear HA
   simp only [gazetteerlaw3_Few.l0] at H
   by_cases c4 : x6_1 < (l0_1.length : Int)
   ·
    rw [if_pos c4] at H
    have c4b0 : decide (x6_1 < (l0_1.length : Int)) = true := decide_eq_true c4
    clear c4
    by_cases c5 : 0 ≤ x6_1
    ·
     rw [if_pos c5] at H
     have c5b0 : decide (0 ≤ x6_1) = true := decide_eq_true c5
     clear c5
     have H' := Aside0.mk H
     clear H
     have hcz6_0 : wr.cell? ⟨gb157, 0, none⟩ = some (.slice A0_0 l0_0.length c0_0) := (blk_cell BK157.out 0).trans rfl
     have hcz6_1 : wr.cell? ⟨gb157, 1, none⟩ = some (.slice A0_1 l0_1.length c0_1) := (blk_cell BK157.out 1).trans rfl
     have hcz6_2 : wr.cell? ⟨gb157, 2, none⟩ = some (.int .i64 a0_2) := (blk_cell BK157.out 2).trans rfl
     have hcz6_3 : wr.cell? ⟨gb157, 3, none⟩ = some (.bool a0_3) := (blk_cell BK157.out 3).trans rfl
     have hfz6_0 := blk_frozen BK157.out 0
     have hfz6_1 := blk_frozen BK157.out 1
     have hfz6_2 := blk_frozen BK157.out 2
     have hfz6_3 := blk_frozen BK157.out 3
     have p158 : 0 ≤ (x6_1 : Int) := of_decide_eq_true (by first | (with_reducible assumption) | assumption)
     have q158 : x6_1 < (l0_1.length : Int) := of_decide_eq_true (by first | (with_reducible assumption) | assumption)
     obtain ⟨ad158, A158_0, c158_0, A158_1, c158_1, e158, hx158_0, hx158_1, hl158_0, hi158_0, hl158_1, hi158_1⟩ := at_T44 HR0_1.out x6_1 p158 q158
     cases e158
     replace hx158_0 := (HB.out.cell (World.block_lt_of_cell? w _ hx158_0)).trans hx158_0
     replace hx158_1 := (HB.out.cell (World.block_lt_of_cell? w _ hx158_1)).trans hx158_1
     have HR158_0 := Aside0.mk hi158_0
     have HC158_0 := Aside0.mk hl158_0
     clear hi158_0 hl158_0
     have HR158_1 := Aside0.mk hi158_1
     have HC158_1 := Aside0.mk hl158_1
     clear hi158_1 hl158_1
     replace p158 := eq_true p158
     replace q158 := eq_true q158
     have p159 : 0 ≤ (x6_1 : Int) := of_decide_eq_true (by first | (with_reducible assumption) | assumption)
     have q159 : x6_1 < (l0_1.length : Int) := of_decide_eq_true (by first | (with_reducible assumption) | assumption)
     obtain ⟨ad159, A159_0, c159_0, A159_1, c159_1, e159, hx159_0, hx159_1, hl159_0, hi159_0, hl159_1, hi159_1⟩ := at_T44 HR0_1.out x6_1 p159 q159
     obtain rfl : ad158 = ad159 := (by injection e159)
     replace hx159_0 := (HB.out.cell (World.block_lt_of_cell? w _ hx159_0)).trans hx159_0
     replace hx159_1 := (HB.out.cell (World.block_lt_of_cell? w _ hx159_1)).trans hx159_1
     have HR159_0 := Aside0.mk hi159_0
     have HC159_0 := Aside0.mk hl159_0
     clear hi159_0 hl159_0
     have HR159_1 := Aside0.mk hi159_1
     have HC159_1 := Aside0.mk hl159_1
     clear hi159_1 hl159_1
     replace p159 := eq_true p159
     replace q159 := eq_true q159
     have ea_ := Option.some.inj (hx158_0.symm.trans hx159_0)
     injection ea_ with ea_ en_ ec_
     subst ea_
     subst ec_
     clear en_
     have ea_ := Option.some.inj (hx158_1.symm.trans hx159_1)
     injection ea_ with ea_ en_ ec_
     subst ea_
     subst ec_
     clear en_
     go_wp2
     repeat (go_quiet (fail); try go_wp2)
     go_roundg k1
     case measure => have := HK1.out; omega
     case rel => exact ⟨(wrap64 ((wrap64 (x5_1 + (((rd_T44 l0_1 x6_1).f0).length : Int))) + (((rd_T44 l0_1 x6_1).f1).length : Int))), (wrap64 (x6_1 + 1)), (by first | rfl | (simp; done) | (simp [*]; done)), (by first | rfl | (simp; done) | (simp [*]; done)), H', ⟨by have := HK1.out; omega⟩, ⟨by (with_reducible repeat (first | refine blk_drewN ?_ _ | refine blk_drew ?_ | refine blk_alloc ?_ _)); exact BK157.out⟩, ⟨by repeat (first | (with_reducible first | exact HB.out | apply below_alloc | apply pw_below_drewN | apply below_drew1 | refine below_set ?_ GE157.out) | exact HB.out)⟩⟩
    ·
     rw [if_neg c5] at H
     exact absurd H (by simp)
   ·
    rw [if_neg c4] at H
    have c4b0 : decide (x6_1 < (l0_1.length : Int)) = false := decide_eq_false c4
    clear c4
    have H' := Aside0.mk H
    clear H
    have hcz7_0 : wr.cell? ⟨gb157, 0, none⟩ = some (.slice A0_0 l0_0.length c0_0) := (blk_cell BK157.out 0).trans rfl
    have hcz7_1 : wr.cell? ⟨gb157, 1, none⟩ = some (.slice A0_1 l0_1.length c0_1) := (blk_cell BK157.out 1).trans rfl
    have hcz7_2 : wr.cell? ⟨gb157, 2, none⟩ = some (.int .i64 a0_2) := (blk_cell BK157.out 2).trans rfl
    have hcz7_3 : wr.cell? ⟨gb157, 3, none⟩ = some (.bool a0_3) := (blk_cell BK157.out 3).trans rfl
    have hfz7_0 := blk_frozen BK157.out 0
    have hfz7_1 := blk_frozen BK157.out 1
    have hfz7_2 := blk_frozen BK157.out 2
    have hfz7_3 := blk_frozen BK157.out 3
    go_wp2
    repeat (go_quiet (fail); try go_wp2)
    go_loopg [5, 7] k1 (fun kq v5 v7 w' => ∃ (x5_2 : Int) (x7_2 : Int), v5 = .int .i64 x5_2 ∧ v7 = .int .i64 x7_2 ∧ Aside0 (gazetteerlaw3_Few.l1 kq l1 x5_2 x7_2 l0_0 l0_1 a0_2 a0_3 = some r) ∧ Aside0 (kq ≤ k1) ∧ Aside0 (w'.heap[gb157]? = some (.cells #[(.slice A0_0 l0_0.length c0_0), (.slice A0_1 l0_1.length c0_1), .int .i64 a0_2, .bool a0_3] 25 (0, 0))) ∧ Aside0 (Below w.heap.size w w'))
    case atStart => exact ⟨(x5_1), (0), (by first | rfl | (simp; done) | (simp [*]; done)), (by first | rfl | (simp; done) | (simp [*]; done)), H', ⟨Nat.le_refl _⟩, ⟨by (with_reducible repeat (first | refine blk_drewN ?_ _ | refine blk_drew ?_ | refine blk_alloc ?_ _)); exact BK157.out⟩, ⟨by repeat (first | (with_reducible first | exact HB.out | apply below_alloc | apply pw_below_drewN | apply below_drew1 | refine below_set ?_ GE157.out) | exact HB.out)⟩⟩
    case round =>
     clear H'
     try clear c1
     try clear p1
     try clear q1
     try clear hx1
     try clear p2
     try clear c4
     try clear c4b0
     try clear c5
     try clear c5b0
     try clear p6
     try clear hcz6_0
     try clear hcz6_1
     try clear hcz6_2
     try clear hcz6_3
     try clear hcz7_0
     try clear hcz7_1
     try clear hcz7_2
     try clear hcz7_3
     try clear hfz6_0
     try clear hfz6_1
     try clear hfz6_2
     try clear hfz6_3
     try clear hfz7_0
     try clear hfz7_1
     try clear hfz7_2
     try clear hfz7_3
     try clear hx158_0
     try clear hx158_1
     try clear hx159_0
     try clear hx159_1
     try clear p158
     try clear p159
     try clear p2
     try clear q158
     try clear q159
     obtain ⟨x5_2, x7_2, rfl, rfl, HA, HK2, BK157, HB⟩ := hrel
     cases gk with
     | zero => exact absurd HA.out (by simp [gazetteerlaw3_Few.l1])
     | succ k2 =>
      have H := HA.out
      clear HA
      simp only [gazetteerlaw3_Few.l1] at H
      by_cases c8 : x7_2 < (l0_0.length : Int)
      ·
       rw [if_pos c8] at H
       have c8b0 : decide (x7_2 < (l0_0.length : Int)) = true := decide_eq_true c8
       clear c8
       by_cases c9 : 0 ≤ x7_2
       ·
        rw [if_pos c9] at H
        have c9b0 : decide (0 ≤ x7_2) = true := decide_eq_true c9
        clear c9
        have H' := Aside0.mk H
        clear H
        have hcz10_0 : wr.cell? ⟨gb157, 0, none⟩ = some (.slice A0_0 l0_0.length c0_0) := (blk_cell BK157.out 0).trans rfl
        have hcz10_1 : wr.cell? ⟨gb157, 1, none⟩ = some (.slice A0_1 l0_1.length c0_1) := (blk_cell BK157.out 1).trans rfl
        have hcz10_2 : wr.cell? ⟨gb157, 2, none⟩ = some (.int .i64 a0_2) := (blk_cell BK157.out 2).trans rfl
        have hcz10_3 : wr.cell? ⟨gb157, 3, none⟩ = some (.bool a0_3) := (blk_cell BK157.out 3).trans rfl
        have hfz10_0 := blk_frozen BK157.out 0
        have hfz10_1 := blk_frozen BK157.out 1
        have hfz10_2 := blk_frozen BK157.out 2
        have hfz10_3 := blk_frozen BK157.out 3
        have p160 : 0 ≤ (x7_2 : Int) := of_decide_eq_true (by first | (with_reducible assumption) | assumption)
        have q160 : x7_2 < (l0_0.length : Int) := of_decide_eq_true (by first | (with_reducible assumption) | assumption)
        obtain ⟨ad160, A160_2, c160_2, e160, hx160_0, hx160_1, hx160_2, hl160_2, hi160_2⟩ := at_T42 HR0_0.out x7_2 p160 q160
        cases e160
        replace hx160_0 := (HB.out.cell (World.block_lt_of_cell? w _ hx160_0)).trans hx160_0
        replace hx160_1 := (HB.out.cell (World.block_lt_of_cell? w _ hx160_1)).trans hx160_1
        replace hx160_2 := (HB.out.cell (World.block_lt_of_cell? w _ hx160_2)).trans hx160_2
        have HR160_2 := Aside0.mk hi160_2
        have HC160_2 := Aside0.mk hl160_2
        clear hi160_2 hl160_2
        replace p160 := eq_true p160
        replace q160 := eq_true q160
        go_wp2
        repeat (go_quiet (fail); try go_wp2)
        go_roundg k2
        case measure => have := HK1.out; have := HK2.out; omega
        case rel => exact ⟨(wrap64 (x5_2 + (((rd_T42 l0_0 x7_2).f2).length : Int))), (wrap64 (x7_2 + 1)), (by first | rfl | (simp; done) | (simp [*]; done)), (by first | rfl | (simp; done) | (simp [*]; done)), H', ⟨by have := HK1.out; have := HK2.out; omega⟩, ⟨by (with_reducible repeat (first | refine blk_drewN ?_ _ | refine blk_drew ?_ | refine blk_alloc ?_ _)); exact BK157.out⟩, ⟨by repeat (first | (with_reducible first | exact HB.out | apply below_alloc | apply pw_below_drewN | apply below_drew1 | refine below_set ?_ GE157.out) | exact HB.out)⟩⟩
       ·
        rw [if_neg c9] at H
        exact absurd H (by simp)
      ·
       rw [if_neg c8] at H
       have c8b0 : decide (x7_2 < (l0_0.length : Int)) = false := decide_eq_false c8
       clear c8
       by_cases c11 : (l0_1.length : Int) ≤ 100
       ·
        rw [if_pos c11] at H
        have c11b0 : decide ((l0_1.length : Int) ≤ 100) = true := decide_eq_true c11
        have c11b1 : decide (l0_1.length ≤ 100) = true := decide_eq_true (by omega)
        clear c11
        by_cases c12 : (l0_0.length : Int) ≤ 100
        ·
         rw [if_pos c12] at H
         have c12b0 : decide ((l0_0.length : Int) ≤ 100) = true := decide_eq_true c12
         have c12b1 : decide (l0_0.length ≤ 100) = true := decide_eq_true (by omega)
         clear c12
         by_cases c13 : x5_2 ≤ 1000
         ·
          rw [if_pos c13] at H
          have c13b0 : decide (x5_2 ≤ 1000) = true := decide_eq_true c13
          clear c13
          obtain rfl := Option.some.inj H
          have hcz14_0 : wr.cell? ⟨gb157, 0, none⟩ = some (.slice A0_0 l0_0.length c0_0) := (blk_cell BK157.out 0).trans rfl
          have hcz14_1 : wr.cell? ⟨gb157, 1, none⟩ = some (.slice A0_1 l0_1.length c0_1) := (blk_cell BK157.out 1).trans rfl
          have hcz14_2 : wr.cell? ⟨gb157, 2, none⟩ = some (.int .i64 a0_2) := (blk_cell BK157.out 2).trans rfl
          have hcz14_3 : wr.cell? ⟨gb157, 3, none⟩ = some (.bool a0_3) := (blk_cell BK157.out 3).trans rfl
          have hfz14_0 := blk_frozen BK157.out 0
          have hfz14_1 := blk_frozen BK157.out 1
          have hfz14_2 := blk_frozen BK157.out 2
          have hfz14_3 := blk_frozen BK157.out 3
          go_wp2
          repeat (go_quiet (fail); try go_wp2)
          go_ret
          exact ⟨by first | rfl | (simp [errW_none, errW_some] <;> rfl) | (simp [*, errW_none, errW_some] <;> rfl), by repeat (first | (with_reducible first | exact HB.out | apply below_alloc | apply pw_below_drewN | apply below_drew1 | refine below_set ?_ GE157.out) | exact HB.out)⟩
         ·
          rw [if_neg c13] at H
          have c13b0 : decide (x5_2 ≤ 1000) = false := decide_eq_false c13
          clear c13
          obtain rfl := Option.some.inj H
          have hcz15_0 : wr.cell? ⟨gb157, 0, none⟩ = some (.slice A0_0 l0_0.length c0_0) := (blk_cell BK157.out 0).trans rfl
          have hcz15_1 : wr.cell? ⟨gb157, 1, none⟩ = some (.slice A0_1 l0_1.length c0_1) := (blk_cell BK157.out 1).trans rfl
          have hcz15_2 : wr.cell? ⟨gb157, 2, none⟩ = some (.int .i64 a0_2) := (blk_cell BK157.out 2).trans rfl
          have hcz15_3 : wr.cell? ⟨gb157, 3, none⟩ = some (.bool a0_3) := (blk_cell BK157.out 3).trans rfl
          have hfz15_0 := blk_frozen BK157.out 0
          have hfz15_1 := blk_frozen BK157.out 1
          have hfz15_2 := blk_frozen BK157.out 2
          have hfz15_3 := blk_frozen BK157.out 3
          go_wp2
          repeat (go_quiet (fail); try go_wp2)
          go_ret
          exact ⟨by first | rfl | (simp [errW_none, errW_some] <;> rfl) | (simp [*, errW_none, errW_some] <;> rfl), by repeat (first | (with_reducible first | exact HB.out | apply below_alloc | apply pw_below_drewN | apply below_drew1 | refine below_set ?_ GE157.out) | exact HB.out)⟩
        ·
         rw [if_neg c12] at H
         have c12b0 : decide ((l0_0.length : Int) ≤ 100) = false := decide_eq_false c12
         have c12b1 : decide (l0_0.length ≤ 100) = false := decide_eq_false (by omega)
         clear c12
         obtain rfl := Option.some.inj H
         have hcz16_0 : wr.cell? ⟨gb157, 0, none⟩ = some (.slice A0_0 l0_0.length c0_0) := (blk_cell BK157.out 0).trans rfl
         have hcz16_1 : wr.cell? ⟨gb157, 1, none⟩ = some (.slice A0_1 l0_1.length c0_1) := (blk_cell BK157.out 1).trans rfl
         have hcz16_2 : wr.cell? ⟨gb157, 2, none⟩ = some (.int .i64 a0_2) := (blk_cell BK157.out 2).trans rfl
         have hcz16_3 : wr.cell? ⟨gb157, 3, none⟩ = some (.bool a0_3) := (blk_cell BK157.out 3).trans rfl
         have hfz16_0 := blk_frozen BK157.out 0
         have hfz16_1 := blk_frozen BK157.out 1
         have hfz16_2 := blk_frozen BK157.out 2
         have hfz16_3 := blk_frozen BK157.out 3
         go_wp2
         repeat (go_quiet (fail); try go_wp2)
         go_ret
         exact ⟨by first | rfl | (simp [errW_none, errW_some] <;> rfl) | (simp [*, errW_none, errW_some] <;> rfl), by repeat (first | (with_reducible first | exact HB.out | apply below_alloc | apply pw_below_drewN | apply below_drew1 | refine below_set ?_ GE157.out) | exact HB.out)⟩
       ·
        rw [if_neg c11] at H
        have c11b0 : decide ((l0_1.length : Int) ≤ 100) = false := decide_eq_false c11
        have c11b1 : decide (l0_1.length ≤ 100) = false := decide_eq_false (by omega)
        clear c11
        obtain rfl := Option.some.inj H
        have hcz17_0 : wr.cell? ⟨gb157, 0, none⟩ = some (.slice A0_0 l0_0.length c0_0) := (blk_cell BK157.out 0).trans rfl
        have hcz17_1 : wr.cell? ⟨gb157, 1, none⟩ = some (.slice A0_1 l0_1.length c0_1) := (blk_cell BK157.out 1).trans rfl
        have hcz17_2 : wr.cell? ⟨gb157, 2, none⟩ = some (.int .i64 a0_2) := (blk_cell BK157.out 2).trans rfl
        have hcz17_3 : wr.cell? ⟨gb157, 3, none⟩ = some (.bool a0_3) := (blk_cell BK157.out 3).trans rfl
        have hfz17_0 := blk_frozen BK157.out 0
        have hfz17_1 := blk_frozen BK157.out 1
        have hfz17_2 := blk_frozen BK157.out 2
        have hfz17_3 := blk_frozen BK157.out 3
        go_wp2
        repeat (go_quiet (fail); try go_wp2)
        go_ret
        exact ⟨by first | rfl | (simp [errW_none, errW_some] <;> rfl) | (simp [*, errW_none, errW_some] <;> rfl), by repeat (first | (with_reducible first | exact HB.out | apply below_alloc | apply pw_below_drewN | apply below_drew1 | refine below_set ?_ GE157.out) | exact HB.out)⟩

/-! ### gazetteerref1_May: function 20 -/
def gazetteerref1_May.f (a0 : Int) : Option (Bool) := if a0 ≥ 0 then (if a0 ≤ 1114111 then (if a0 < 55296 then (some true) else (some (decide (a0 > 57343)))) else (some false)) else (some false)
set_option maxHeartbeats 8000000 in
set_option maxRecDepth 100000 in
theorem gazetteerref1_May.calls (a0 : Int) (r : Bool) (w : World) (h : gazetteerref1_May.f a0 = some r) :
  Calls Try.prog 20 #[.int .i32 a0] w fun e w' => e = .returned (.bool r) ∧ Drawn0 w w' := by
 have H : (if a0 ≥ 0 then (if a0 ≤ 1114111 then (if a0 < 55296 then (some true) else (some (decide (a0 > 57343)))) else (some false)) else (some false)) = some r := h
 clear h
 by_cases c2 : a0 ≥ 0
 ·
  rw [if_pos c2] at H
  have c2b0 : decide (0 ≤ a0) = true := decide_eq_true c2
  clear c2
  by_cases c3 : a0 ≤ 1114111
  ·
   rw [if_pos c3] at H
   have c3b0 : decide (a0 ≤ 1114111) = true := decide_eq_true c3
   clear c3
   by_cases c4 : a0 < 55296
   ·
    rw [if_pos c4] at H
    have c4b0 : decide (a0 < 55296) = true := decide_eq_true c4
    clear c4
    obtain rfl := Option.some.inj H
    go_enter Try.func20, Try.ntmps20
    go_wp2
    go_ret
    exact ⟨by first | rfl | (simp; done) | (simp [*]; done), by repeat (first | exact Drawn0.refl _ | apply Drawn0.step)⟩
   ·
    rw [if_neg c4] at H
    have c4b0 : decide (a0 < 55296) = false := decide_eq_false c4
    clear c4
    obtain rfl := Option.some.inj H
    go_enter Try.func20, Try.ntmps20
    go_wp2
    go_ret
    exact ⟨by first | rfl | (simp; done) | (simp [*]; done), by repeat (first | exact Drawn0.refl _ | apply Drawn0.step)⟩
  ·
   rw [if_neg c3] at H
   have c3b0 : decide (a0 ≤ 1114111) = false := decide_eq_false c3
   clear c3
   obtain rfl := Option.some.inj H
   go_enter Try.func20, Try.ntmps20
   go_wp2
   go_ret
   exact ⟨by first | rfl | (simp; done) | (simp [*]; done), by repeat (first | exact Drawn0.refl _ | apply Drawn0.step)⟩
 ·
  rw [if_neg c2] at H
  have c2b0 : decide (0 ≤ a0) = false := decide_eq_false c2
  clear c2
  obtain rfl := Option.some.inj H
  go_enter Try.func20, Try.ntmps20
  go_wp2
  go_ret
  exact ⟨by first | rfl | (simp; done) | (simp [*]; done), by repeat (first | exact Drawn0.refl _ | apply Drawn0.step)⟩

end Go.Proofs.Ytfagobhhhljajaa.PWeighParts

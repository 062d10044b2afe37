-- printed by a program of this session (wip/tools), a turned form of the kit's print
import Derived.Test.YtbfllekkbmeibaaPSpanFindsx0
import Derived.Test.YtbfllekkbmeibaaPSpanFindsx1
import Derived.Test.YtbfllekkbmeibaaPSpanFindsx2
namespace Go.Proofs.Ytbfllekkbmeibaa.PSpanFinds
open Go.RowKit Go.Proofs.YtbfllekkbmeibaaW.PrintWords Go.Proofs.YtbfllekkbmeibaaW.PrintLast Go.Proofs.YtbfllekkbmeibaaW.PrintMore
attribute [local go_sem] max2_int min2_int max_two min_two max_three min_three max_four min_four max2_str min2_str str_geq str_leq str_gtr   -- for this text's walks alone
set_option linter.unusedVariables false
set_option linter.unusedSimpArgs false

/-! ### gazetteerlaw5_awake: function 15 -/
def gazetteerlaw5_awake.f (k : Nat)  : Option (Bool) := (span_Has.f (⟨#[98]⟩ : ByteArray) (⟨#[100]⟩ : ByteArray) (⟨#[99]⟩ : ByteArray)).bind fun t112 => (if t112 = true then ((span_Has.f (⟨#[98]⟩ : ByteArray) (⟨#[100]⟩ : ByteArray) (⟨#[100]⟩ : ByteArray)).bind fun t113 => (if t113 = true then (some false) else ((span_Whole.f k (([(⟨(⟨#[]⟩ : ByteArray), (⟨#[98]⟩ : ByteArray)⟩ : S38), (⟨(⟨#[98]⟩ : ByteArray), (⟨#[]⟩ : ByteArray)⟩ : S38)] : List (S38)))).bind fun t117 => (if t117 = true then ((span_Empty.f (⟨#[98]⟩ : ByteArray) (⟨#[100]⟩ : ByteArray)).bind fun t118 => (if t118 = true then (some false) else ((span_Within.f (⟨#[98]⟩ : ByteArray) (⟨#[100]⟩ : ByteArray) (⟨#[97]⟩ : ByteArray) (⟨#[]⟩ : ByteArray)).bind fun t119 => (some t119)))) else (some false))))) else (some false))
theorem gazetteerlaw5_awake.mono : ∀ k, LeO (gazetteerlaw5_awake.f k ) (gazetteerlaw5_awake.f (k + 1) ) := by
  intro  k
  unfold gazetteerlaw5_awake.f
  repeat' first
      | (with_reducible exact span_Whole.mono _ _)
      | (with_reducible exact LeO.refl _)
      | (with_reducible exact LeO.none _)
      | (with_reducible refine LeO.ite ?_ ?_)
      | (with_reducible refine LeO.bind ?_ (fun _ => ?_))
      | exact span_Whole.mono _ _
      | exact LeO.none _
      | refine LeO.ite ?_ ?_
      | refine LeO.bind ?_ (fun _ => ?_)
set_option maxHeartbeats 8000000 in
set_option maxRecDepth 100000 in
theorem gazetteerlaw5_awake.calls (k : Nat)  (r : Bool) (w : World) (h : gazetteerlaw5_awake.f k  = some r) :
    Calls Try.prog 15 #[] w fun e w' => e = .returned (.bool r) ∧ Below w.heap.size w w' := by
  have hu38 := Try.underlying38
  have HB := Aside0.mk (Below.refl w.heap.size w)
  have H : ((span_Has.f (⟨#[98]⟩ : ByteArray) (⟨#[100]⟩ : ByteArray) (⟨#[99]⟩ : ByteArray)).bind fun t112 => (if t112 = true then ((span_Has.f (⟨#[98]⟩ : ByteArray) (⟨#[100]⟩ : ByteArray) (⟨#[100]⟩ : ByteArray)).bind fun t113 => (if t113 = true then (some false) else ((span_Whole.f k (([(⟨(⟨#[]⟩ : ByteArray), (⟨#[98]⟩ : ByteArray)⟩ : S38), (⟨(⟨#[98]⟩ : ByteArray), (⟨#[]⟩ : ByteArray)⟩ : S38)] : List (S38)))).bind fun t117 => (if t117 = true then ((span_Empty.f (⟨#[98]⟩ : ByteArray) (⟨#[100]⟩ : ByteArray)).bind fun t118 => (if t118 = true then (some false) else ((span_Within.f (⟨#[98]⟩ : ByteArray) (⟨#[100]⟩ : ByteArray) (⟨#[97]⟩ : ByteArray) (⟨#[]⟩ : ByteArray)).bind fun t119 => (some t119)))) else (some false))))) else (some false))) = some r := h
  clear h
  replace H := Option.bind_eq_some_iff.mp H
  obtain ⟨t112, A10, H⟩ := H
  replace H : (if t112 = true then ((span_Has.f (⟨#[98]⟩ : ByteArray) (⟨#[100]⟩ : ByteArray) (⟨#[100]⟩ : ByteArray)).bind fun t113 => (if t113 = true then (some false) else ((span_Whole.f k (([(⟨(⟨#[]⟩ : ByteArray), (⟨#[98]⟩ : ByteArray)⟩ : S38), (⟨(⟨#[98]⟩ : ByteArray), (⟨#[]⟩ : ByteArray)⟩ : S38)] : List (S38)))).bind fun t117 => (if t117 = true then ((span_Empty.f (⟨#[98]⟩ : ByteArray) (⟨#[100]⟩ : ByteArray)).bind fun t118 => (if t118 = true then (some false) else ((span_Within.f (⟨#[98]⟩ : ByteArray) (⟨#[100]⟩ : ByteArray) (⟨#[97]⟩ : ByteArray) (⟨#[]⟩ : ByteArray)).bind fun t119 => (some t119)))) else (some false))))) else (some false)) = some r := H
  have A1 := Aside0.mk A10
  clear A10
  by_cases c2 : t112 = true
  · subst c2
    have H1 : ((span_Has.f (⟨#[98]⟩ : ByteArray) (⟨#[100]⟩ : ByteArray) (⟨#[100]⟩ : ByteArray)).bind fun t113 => (if t113 = true then (some false) else ((span_Whole.f k (([(⟨(⟨#[]⟩ : ByteArray), (⟨#[98]⟩ : ByteArray)⟩ : S38), (⟨(⟨#[98]⟩ : ByteArray), (⟨#[]⟩ : ByteArray)⟩ : S38)] : List (S38)))).bind fun t117 => (if t117 = true then ((span_Empty.f (⟨#[98]⟩ : ByteArray) (⟨#[100]⟩ : ByteArray)).bind fun t118 => (if t118 = true then (some false) else ((span_Within.f (⟨#[98]⟩ : ByteArray) (⟨#[100]⟩ : ByteArray) (⟨#[97]⟩ : ByteArray) (⟨#[]⟩ : ByteArray)).bind fun t119 => (some t119)))) else (some false))))) = some r := by rw [if_pos rfl] at H; exact H
    clear H
    have H := H1
    clear H1
    replace H := Option.bind_eq_some_iff.mp H
    obtain ⟨t113, A30, H⟩ := H
    replace H : (if t113 = true then (some false) else ((span_Whole.f k (([(⟨(⟨#[]⟩ : ByteArray), (⟨#[98]⟩ : ByteArray)⟩ : S38), (⟨(⟨#[98]⟩ : ByteArray), (⟨#[]⟩ : ByteArray)⟩ : S38)] : List (S38)))).bind fun t117 => (if t117 = true then ((span_Empty.f (⟨#[98]⟩ : ByteArray) (⟨#[100]⟩ : ByteArray)).bind fun t118 => (if t118 = true then (some false) else ((span_Within.f (⟨#[98]⟩ : ByteArray) (⟨#[100]⟩ : ByteArray) (⟨#[97]⟩ : ByteArray) (⟨#[]⟩ : ByteArray)).bind fun t119 => (some t119)))) else (some false)))) = some r := H
    have A3 := Aside0.mk A30
    clear A30
    by_cases c4 : t113 = true
    · subst c4
      have H1 : (some false) = some r := by rw [if_pos rfl] at H; exact H
      clear H
      have H := H1
      clear H1
      obtain rfl := Option.some.inj H
      go_enter Try.func15, Try.ntmps15
      go_wp2_with (first | ((with_reducible refine gate_dst (N := 1) rfl ?_); (try (refine gate_guard (by rfl) ?_; dsimp only)); refine box_event ?hg (N := 1) ?hd (cs := #[.string (⟨#[]⟩ : ByteArray), .string (⟨#[]⟩ : ByteArray)]) (t := 38) ?hr ?_; (case hd => rfl); (case hg => rfl); (case hr => first | (go_simp; done) | (go_simp; rfl)); intro gb111 hg w5 hbox hb; have n0_ := Aside0.mk (below_step (by repeat (first | (with_reducible first | exact HB.out | apply below_alloc | apply pw_below_drewN | apply below_drew1) | exact HB.out)) hb); have n1_ := Aside0.mk (hbox); have n2_ := Aside0.mk ((by rw [hg]; exact (below_size (by repeat (first | (with_reducible first | exact HB.out | apply below_alloc | apply pw_below_drewN | apply below_drew1) | exact HB.out))) : w.heap.size ≤ gb111)); have n3_ := Aside0.mk ((by rw [hg]; exact (below_size (by repeat (first | (with_reducible first | exact HB.out | apply below_alloc | apply pw_below_drewN | apply below_drew1) | exact HB.out))) : w.heap.size ≤ gb111)); clear HB; have HB := n0_; have BK111 := n1_; have GW111 := n2_; have GE111 := n3_; clear n0_ n1_ n2_ n3_; clear hb hbox hg; have hcz6_0 : w5.cell? ⟨gb111, 0, none⟩ = some (.string (⟨#[]⟩ : ByteArray)) := (blk_cell BK111.out 0).trans rfl; have hcz6_1 : w5.cell? ⟨gb111, 1, none⟩ = some (.string (⟨#[]⟩ : ByteArray)) := (blk_cell BK111.out 1).trans rfl; have hfz6_0 := blk_frozen BK111.out 0; have hfz6_1 := blk_frozen BK111.out 1) | ((with_reducible refine gate_callee (f := 17) rfl ?_); refine goesL_ (some 4) rfl rfl Try.func17 (by kernel_rfl) rfl #[.agg #[.string (⟨#[98]⟩ : ByteArray), .string (⟨#[100]⟩ : ByteArray)], .string (⟨#[99]⟩ : ByteArray)] rfl (by (try simp only [List.map_toArray, List.map_cons, List.map_nil]); first | done | rfl | (simp only [List.length_drop, List.length_take]; done) | (simp only [List.length_drop, List.length_take]; rfl)) ?_; (with_reducible refine (span_Has.calls (⟨#[98]⟩ : ByteArray) (⟨#[100]⟩ : ByteArray) (⟨#[99]⟩ : ByteArray) true _ A1.out).mono ?_); rintro e w7 ⟨rfl, hb⟩; refine ⟨_, rfl, ?_⟩; have n0_ := Aside0.mk (blk_below (g := gb111) (o := .cells #[.string (⟨#[98]⟩ : ByteArray), .string (⟨#[100]⟩ : ByteArray)] 38 (0, 0)) (by (with_reducible repeat (first | refine blk_drewN ?_ _ | refine blk_drew ?_ | refine blk_alloc ?_ _)); refine blk_put (cs := #[.string (⟨#[98]⟩ : ByteArray), .string (⟨#[]⟩ : ByteArray)]) ?_ 1 _ rfl; (with_reducible repeat (first | refine blk_drewN ?_ _ | refine blk_drew ?_ | refine blk_alloc ?_ _)); refine blk_put (cs := #[.string (⟨#[]⟩ : ByteArray), .string (⟨#[]⟩ : ByteArray)]) ?_ 0 _ rfl; (with_reducible repeat (first | refine blk_drewN ?_ _ | refine blk_drew ?_ | refine blk_alloc ?_ _)); exact BK111.out) hb); have n1_ := Aside0.mk (below_step (by repeat (first | (with_reducible first | exact HB.out | apply below_alloc | apply pw_below_drewN | apply below_drew1 | refine below_set ?_ GE111.out) | exact HB.out)) hb); clear BK111; clear HB; have BK111 := n0_; have HB := n1_; clear n0_ n1_; (try clear hb); (try clear hb2); (try clear hk); (try clear hi); have hcz8_0 : w7.cell? ⟨gb111, 0, none⟩ = some (.string (⟨#[98]⟩ : ByteArray)) := (blk_cell BK111.out 0).trans rfl; have hcz8_1 : w7.cell? ⟨gb111, 1, none⟩ = some (.string (⟨#[100]⟩ : ByteArray)) := (blk_cell BK111.out 1).trans rfl; have hfz8_0 := blk_frozen BK111.out 0; have hfz8_1 := blk_frozen BK111.out 1) | (go_at_call 17; (with_reducible refine (span_Has.calls (⟨#[98]⟩ : ByteArray) (⟨#[100]⟩ : ByteArray) (⟨#[100]⟩ : ByteArray) true _ A3.out).mono ?_); rintro e w9 ⟨rfl, hb⟩; have n0_ := Aside0.mk (blk_below (g := gb111) (o := .cells #[.string (⟨#[98]⟩ : ByteArray), .string (⟨#[100]⟩ : ByteArray)] 38 (0, 0)) (by (with_reducible repeat (first | refine blk_drewN ?_ _ | refine blk_drew ?_ | refine blk_alloc ?_ _)); exact BK111.out) hb); have n1_ := Aside0.mk (below_step (by repeat (first | (with_reducible first | exact HB.out | apply below_alloc | apply pw_below_drewN | apply below_drew1 | refine below_set ?_ GE111.out) | exact HB.out)) hb); clear BK111; clear HB; have BK111 := n0_; have HB := n1_; clear n0_ n1_; (try clear hb); (try clear hb2); (try clear hk); (try clear hi)))
      go_ret
      exact ⟨by first | rfl | (simp [errW_none, errW_some] <;> rfl) | (simp [*, errW_none, errW_some] <;> rfl), by repeat (first | (with_reducible first | exact HB.out | apply below_alloc | apply pw_below_drewN | apply below_drew1 | refine below_set ?_ GE111.out) | exact HB.out)⟩
    · replace c4 := Bool.eq_false_iff.mpr c4
      subst c4
      have H1 : ((span_Whole.f k (([(⟨(⟨#[]⟩ : ByteArray), (⟨#[98]⟩ : ByteArray)⟩ : S38), (⟨(⟨#[98]⟩ : ByteArray), (⟨#[]⟩ : ByteArray)⟩ : S38)] : List (S38)))).bind fun t117 => (if t117 = true then ((span_Empty.f (⟨#[98]⟩ : ByteArray) (⟨#[100]⟩ : ByteArray)).bind fun t118 => (if t118 = true then (some false) else ((span_Within.f (⟨#[98]⟩ : ByteArray) (⟨#[100]⟩ : ByteArray) (⟨#[97]⟩ : ByteArray) (⟨#[]⟩ : ByteArray)).bind fun t119 => (some t119)))) else (some false))) = some r := by rw [if_neg (show ¬ (false = true) by decide)] at H; exact H
      clear H
      have H := H1
      clear H1
      obtain ⟨y114, hy114⟩ : ∃ y_ : List (S38), y_ = (([(⟨(⟨#[]⟩ : ByteArray), (⟨#[98]⟩ : ByteArray)⟩ : S38), (⟨(⟨#[98]⟩ : ByteArray), (⟨#[]⟩ : ByteArray)⟩ : S38)] : List (S38))) := ⟨_, rfl⟩
      replace H : ((span_Whole.f k y114).bind fun t117 => (if t117 = true then ((span_Empty.f (⟨#[98]⟩ : ByteArray) (⟨#[100]⟩ : ByteArray)).bind fun t118 => (if t118 = true then (some false) else ((span_Within.f (⟨#[98]⟩ : ByteArray) (⟨#[100]⟩ : ByteArray) (⟨#[97]⟩ : ByteArray) (⟨#[]⟩ : ByteArray)).bind fun t119 => (some t119)))) else (some false))) = some r := by first | (rw [hy114]; with_reducible exact H) | (have H2_ := (Option.bind_some _ _).symm.trans H; rw [hy114]; with_reducible exact H2_) | (have H2_ := (Option.bind_some _ _).symm.trans H; with_reducible exact H2_) | with_reducible exact H | (rw [hy114]; exact H) | exact H
      have Ny114 := Aside0.mk hy114
      clear hy114
      replace H := Option.bind_eq_some_iff.mp H
      obtain ⟨t117, A100, H⟩ := H
      replace H : (if t117 = true then ((span_Empty.f (⟨#[98]⟩ : ByteArray) (⟨#[100]⟩ : ByteArray)).bind fun t118 => (if t118 = true then (some false) else ((span_Within.f (⟨#[98]⟩ : ByteArray) (⟨#[100]⟩ : ByteArray) (⟨#[97]⟩ : ByteArray) (⟨#[]⟩ : ByteArray)).bind fun t119 => (some t119)))) else (some false)) = some r := H
      have A10 := Aside0.mk A100
      clear A100
      by_cases c11 : t117 = true
      · subst c11
        have H1 : ((span_Empty.f (⟨#[98]⟩ : ByteArray) (⟨#[100]⟩ : ByteArray)).bind fun t118 => (if t118 = true then (some false) else ((span_Within.f (⟨#[98]⟩ : ByteArray) (⟨#[100]⟩ : ByteArray) (⟨#[97]⟩ : ByteArray) (⟨#[]⟩ : ByteArray)).bind fun t119 => (some t119)))) = some r := by rw [if_pos rfl] at H; exact H
        clear H
        have H := H1
        clear H1
        replace H := Option.bind_eq_some_iff.mp H
        obtain ⟨t118, A120, H⟩ := H
        replace H : (if t118 = true then (some false) else ((span_Within.f (⟨#[98]⟩ : ByteArray) (⟨#[100]⟩ : ByteArray) (⟨#[97]⟩ : ByteArray) (⟨#[]⟩ : ByteArray)).bind fun t119 => (some t119))) = some r := H
        have A12 := Aside0.mk A120
        clear A120
        by_cases c13 : t118 = true
        · subst c13
          have H1 : (some false) = some r := by rw [if_pos rfl] at H; exact H
          clear H
          have H := H1
          clear H1
          obtain rfl := Option.some.inj H
          go_enter Try.func15, Try.ntmps15
          go_wp2_with (first | ((with_reducible refine gate_dst (N := 1) rfl ?_); (try (refine gate_guard (by rfl) ?_; dsimp only)); refine box_event ?hg (N := 1) ?hd (cs := #[.string (⟨#[]⟩ : ByteArray), .string (⟨#[]⟩ : ByteArray)]) (t := 38) ?hr ?_; (case hd => rfl); (case hg => rfl); (case hr => first | (go_simp; done) | (go_simp; rfl)); intro gb111 hg w14 hbox hb; have n0_ := Aside0.mk (below_step (by repeat (first | (with_reducible first | exact HB.out | apply below_alloc | apply pw_below_drewN | apply below_drew1) | exact HB.out)) hb); have n1_ := Aside0.mk (hbox); have n2_ := Aside0.mk ((by rw [hg]; exact (below_size (by repeat (first | (with_reducible first | exact HB.out | apply below_alloc | apply pw_below_drewN | apply below_drew1) | exact HB.out))) : w.heap.size ≤ gb111)); have n3_ := Aside0.mk ((by rw [hg]; exact (below_size (by repeat (first | (with_reducible first | exact HB.out | apply below_alloc | apply pw_below_drewN | apply below_drew1) | exact HB.out))) : w.heap.size ≤ gb111)); clear HB; have HB := n0_; have BK111 := n1_; have GW111 := n2_; have GE111 := n3_; clear n0_ n1_ n2_ n3_; clear hb hbox hg; have hcz15_0 : w14.cell? ⟨gb111, 0, none⟩ = some (.string (⟨#[]⟩ : ByteArray)) := (blk_cell BK111.out 0).trans rfl; have hcz15_1 : w14.cell? ⟨gb111, 1, none⟩ = some (.string (⟨#[]⟩ : ByteArray)) := (blk_cell BK111.out 1).trans rfl; have hfz15_0 := blk_frozen BK111.out 0; have hfz15_1 := blk_frozen BK111.out 1) | ((with_reducible refine gate_callee (f := 17) rfl ?_); refine goesL_ (some 4) rfl rfl Try.func17 (by kernel_rfl) rfl #[.agg #[.string (⟨#[98]⟩ : ByteArray), .string (⟨#[100]⟩ : ByteArray)], .string (⟨#[99]⟩ : ByteArray)] rfl (by (try simp only [List.map_toArray, List.map_cons, List.map_nil]); first | done | rfl | (simp only [List.length_drop, List.length_take]; done) | (simp only [List.length_drop, List.length_take]; rfl)) ?_; (with_reducible refine (span_Has.calls (⟨#[98]⟩ : ByteArray) (⟨#[100]⟩ : ByteArray) (⟨#[99]⟩ : ByteArray) true _ A1.out).mono ?_); rintro e w16 ⟨rfl, hb⟩; refine ⟨_, rfl, ?_⟩; have n0_ := Aside0.mk (blk_below (g := gb111) (o := .cells #[.string (⟨#[98]⟩ : ByteArray), .string (⟨#[100]⟩ : ByteArray)] 38 (0, 0)) (by (with_reducible repeat (first | refine blk_drewN ?_ _ | refine blk_drew ?_ | refine blk_alloc ?_ _)); refine blk_put (cs := #[.string (⟨#[98]⟩ : ByteArray), .string (⟨#[]⟩ : ByteArray)]) ?_ 1 _ rfl; (with_reducible repeat (first | refine blk_drewN ?_ _ | refine blk_drew ?_ | refine blk_alloc ?_ _)); refine blk_put (cs := #[.string (⟨#[]⟩ : ByteArray), .string (⟨#[]⟩ : ByteArray)]) ?_ 0 _ rfl; (with_reducible repeat (first | refine blk_drewN ?_ _ | refine blk_drew ?_ | refine blk_alloc ?_ _)); exact BK111.out) hb); have n1_ := Aside0.mk (below_step (by repeat (first | (with_reducible first | exact HB.out | apply below_alloc | apply pw_below_drewN | apply below_drew1 | refine below_set ?_ GE111.out) | exact HB.out)) hb); clear BK111; clear HB; have BK111 := n0_; have HB := n1_; clear n0_ n1_; (try clear hb); (try clear hb2); (try clear hk); (try clear hi); have hcz17_0 : w16.cell? ⟨gb111, 0, none⟩ = some (.string (⟨#[98]⟩ : ByteArray)) := (blk_cell BK111.out 0).trans rfl; have hcz17_1 : w16.cell? ⟨gb111, 1, none⟩ = some (.string (⟨#[100]⟩ : ByteArray)) := (blk_cell BK111.out 1).trans rfl; have hfz17_0 := blk_frozen BK111.out 0; have hfz17_1 := blk_frozen BK111.out 1) | (go_at_call 17; (with_reducible refine (span_Has.calls (⟨#[98]⟩ : ByteArray) (⟨#[100]⟩ : ByteArray) (⟨#[100]⟩ : ByteArray) false _ A3.out).mono ?_); rintro e w18 ⟨rfl, hb⟩; have n0_ := Aside0.mk (blk_below (g := gb111) (o := .cells #[.string (⟨#[98]⟩ : ByteArray), .string (⟨#[100]⟩ : ByteArray)] 38 (0, 0)) (by (with_reducible repeat (first | refine blk_drewN ?_ _ | refine blk_drew ?_ | refine blk_alloc ?_ _)); exact BK111.out) hb); have n1_ := Aside0.mk (below_step (by repeat (first | (with_reducible first | exact HB.out | apply below_alloc | apply pw_below_drewN | apply below_drew1 | refine below_set ?_ GE111.out) | exact HB.out)) hb); clear BK111; clear HB; have BK111 := n0_; have HB := n1_; clear n0_ n1_; (try clear hb); (try clear hb2); (try clear hk); (try clear hi)) | ((with_reducible refine gate_dst (N := 13) rfl ?_); (try (refine gate_guard (by rfl) ?_; dsimp only)); refine Kd.R_lit k38 _ 38 ?hg (N := 13) ?hd (xs := ([(⟨(⟨#[]⟩ : ByteArray), (⟨#[98]⟩ : ByteArray)⟩ : S38), (⟨(⟨#[98]⟩ : ByteArray), (⟨#[]⟩ : ByteArray)⟩ : S38)] : List (S38))) (inner := [.string (⟨#[]⟩ : ByteArray), .string (⟨#[98]⟩ : ByteArray), .string (⟨#[98]⟩ : ByteArray), .string (⟨#[]⟩ : ByteArray)]) (ok := fun _ => True) (okp := fun _ => True) ?hr ?hp (fun _ hk => hk) trivial (Below.refl _ _) (Nat.le_refl _) (by simp) ?_; (case hd => rfl); (case hg => rfl); (case hr => first | (go_simp; done) | (go_simp; rfl)); (case hp => exact (Reps.c2 (show Kd.M k38 _ _ _ (⟨(⟨#[]⟩ : ByteArray), (⟨#[98]⟩ : ByteArray)⟩ : S38) [.string (⟨#[]⟩ : ByteArray), .string (⟨#[98]⟩ : ByteArray)] from (k38_mkM _ _ _ (⟨(⟨#[]⟩ : ByteArray), (⟨#[98]⟩ : ByteArray)⟩ : S38) )) (Reps.c2 (show Kd.M k38 _ _ _ (⟨(⟨#[98]⟩ : ByteArray), (⟨#[]⟩ : ByteArray)⟩ : S38) [.string (⟨#[98]⟩ : ByteArray), .string (⟨#[]⟩ : ByteArray)] from (k38_mkM _ _ _ (⟨(⟨#[98]⟩ : ByteArray), (⟨#[]⟩ : ByteArray)⟩ : S38) )) (Reps.none _ _)))); intro v115 w19 ho20 hb hg_ hnew_; clear hg_ hnew_; (first | rw [← Ny114.out] at ho20 | (simp only [Int.reduceToNat] at ho20; rw [← Ny114.out] at ho20)); have n0_ := Aside0.mk (Kd.R_lower (Kd.R_newB ho20 (g := gb111) (o := .cells #[.string (⟨#[98]⟩ : ByteArray), .string (⟨#[100]⟩ : ByteArray)] 38 (0, 0)) (by (with_reducible repeat (first | refine blk_drewN ?_ _ | refine blk_drew ?_ | refine blk_alloc ?_ _)); exact BK111.out)) (below_size (by repeat (first | (with_reducible first | exact HB.out | apply below_alloc | apply pw_below_drewN | apply below_drew1 | refine below_set ?_ GE111.out) | exact HB.out)))); have n1_ := Aside0.mk (blk_below (g := gb111) (o := .cells #[.string (⟨#[98]⟩ : ByteArray), .string (⟨#[100]⟩ : ByteArray)] 38 (0, 0)) (by (with_reducible repeat (first | refine blk_drewN ?_ _ | refine blk_drew ?_ | refine blk_alloc ?_ _)); exact BK111.out) hb); have n2_ := Aside0.mk (below_step (by repeat (first | (with_reducible first | exact HB.out | apply below_alloc | apply pw_below_drewN | apply below_drew1 | refine below_set ?_ GE111.out) | exact HB.out)) hb); clear BK111; clear HB; have HO116 := n0_; have BK111 := n1_; have HB := n2_; clear n0_ n1_ n2_; clear hb ho20; obtain ⟨Ao21, co21, eo21⟩ := Kd.R_slice HO116.out; subst eo21) | (go_at_call 18; (with_reducible refine (span_Whole.calls k _ _ y114 true _ ?side1 ?side2 A10.out).mono ?_); (case side1 => repeat (first | exact (Kd.R_reads' HO116.out).2.2 | (with_reducible refine Kd.C_alloc ?_ _) | (with_reducible refine Kd.C_drewN ?_ _) | (with_reducible refine Kd.C_drew ?_))); (case side2 => exact (Kd.R_reads' HO116.out).2.1); rintro e w22 ⟨rfl, hb⟩; have n0_ := Aside0.mk (Kd.R_below (by (with_reducible repeat (first | apply Kd.R_alloc | apply Kd.R_drewN | apply Kd.R_drew)); exact HO116.out) hb); have n1_ := Aside0.mk (blk_below (g := gb111) (o := .cells #[.string (⟨#[98]⟩ : ByteArray), .string (⟨#[100]⟩ : ByteArray)] 38 (0, 0)) (by (with_reducible repeat (first | refine blk_drewN ?_ _ | refine blk_drew ?_ | refine blk_alloc ?_ _)); exact BK111.out) hb); have n2_ := Aside0.mk (below_step (by repeat (first | (with_reducible first | exact HB.out | apply below_alloc | apply pw_below_drewN | apply below_drew1 | refine below_set ?_ GE111.out) | exact HB.out)) hb); clear HO116; clear BK111; clear HB; have HO116 := n0_; have BK111 := n1_; have HB := n2_; clear n0_ n1_ n2_; (try clear hb); (try clear hb2); (try clear hk); (try clear hi); have hcz23_0 : w22.cell? ⟨gb111, 0, none⟩ = some (.string (⟨#[98]⟩ : ByteArray)) := (blk_cell BK111.out 0).trans rfl; have hcz23_1 : w22.cell? ⟨gb111, 1, none⟩ = some (.string (⟨#[100]⟩ : ByteArray)) := (blk_cell BK111.out 1).trans rfl; have hfz23_0 := blk_frozen BK111.out 0; have hfz23_1 := blk_frozen BK111.out 1) | (go_at_call 22; (with_reducible refine (span_Empty.calls (⟨#[98]⟩ : ByteArray) (⟨#[100]⟩ : ByteArray) true _ A12.out).mono ?_); rintro e w24 ⟨rfl, hb⟩; have n0_ := Aside0.mk (Kd.R_below (by (with_reducible repeat (first | apply Kd.R_alloc | apply Kd.R_drewN | apply Kd.R_drew)); exact HO116.out) hb); have n1_ := Aside0.mk (blk_below (g := gb111) (o := .cells #[.string (⟨#[98]⟩ : ByteArray), .string (⟨#[100]⟩ : ByteArray)] 38 (0, 0)) (by (with_reducible repeat (first | refine blk_drewN ?_ _ | refine blk_drew ?_ | refine blk_alloc ?_ _)); exact BK111.out) hb); have n2_ := Aside0.mk (below_step (by repeat (first | (with_reducible first | exact HB.out | apply below_alloc | apply pw_below_drewN | apply below_drew1 | refine below_set ?_ GE111.out) | exact HB.out)) hb); clear HO116; clear BK111; clear HB; have HO116 := n0_; have BK111 := n1_; have HB := n2_; clear n0_ n1_ n2_; (try clear hb); (try clear hb2); (try clear hk); (try clear hi)))
          go_ret
          exact ⟨by first | rfl | (simp [errW_none, errW_some] <;> rfl) | (simp [*, errW_none, errW_some] <;> rfl), by repeat (first | (with_reducible first | exact HB.out | apply below_alloc | apply pw_below_drewN | apply below_drew1 | refine below_set ?_ GE111.out) | exact HB.out)⟩
        · replace c13 := Bool.eq_false_iff.mpr c13
          subst c13
          have H1 : ((span_Within.f (⟨#[98]⟩ : ByteArray) (⟨#[100]⟩ : ByteArray) (⟨#[97]⟩ : ByteArray) (⟨#[]⟩ : ByteArray)).bind fun t119 => (some t119)) = some r := by rw [if_neg (show ¬ (false = true) by decide)] at H; exact H
          clear H
          have H := H1
          clear H1
          replace H := Option.bind_eq_some_iff.mp H
          obtain ⟨t119, A250, H⟩ := H
          replace H : (some t119) = some r := H
          have A25 := Aside0.mk A250
          clear A250
          obtain rfl := Option.some.inj H
          go_enter Try.func15, Try.ntmps15
          go_wp2_with (first | ((with_reducible refine gate_dst (N := 1) rfl ?_); (try (refine gate_guard (by rfl) ?_; dsimp only)); refine box_event ?hg (N := 1) ?hd (cs := #[.string (⟨#[]⟩ : ByteArray), .string (⟨#[]⟩ : ByteArray)]) (t := 38) ?hr ?_; (case hd => rfl); (case hg => rfl); (case hr => first | (go_simp; done) | (go_simp; rfl)); intro gb111 hg w26 hbox hb; have n0_ := Aside0.mk (below_step (by repeat (first | (with_reducible first | exact HB.out | apply below_alloc | apply pw_below_drewN | apply below_drew1) | exact HB.out)) hb); have n1_ := Aside0.mk (hbox); have n2_ := Aside0.mk ((by rw [hg]; exact (below_size (by repeat (first | (with_reducible first | exact HB.out | apply below_alloc | apply pw_below_drewN | apply below_drew1) | exact HB.out))) : w.heap.size ≤ gb111)); have n3_ := Aside0.mk ((by rw [hg]; exact (below_size (by repeat (first | (with_reducible first | exact HB.out | apply below_alloc | apply pw_below_drewN | apply below_drew1) | exact HB.out))) : w.heap.size ≤ gb111)); clear HB; have HB := n0_; have BK111 := n1_; have GW111 := n2_; have GE111 := n3_; clear n0_ n1_ n2_ n3_; clear hb hbox hg; have hcz27_0 : w26.cell? ⟨gb111, 0, none⟩ = some (.string (⟨#[]⟩ : ByteArray)) := (blk_cell BK111.out 0).trans rfl; have hcz27_1 : w26.cell? ⟨gb111, 1, none⟩ = some (.string (⟨#[]⟩ : ByteArray)) := (blk_cell BK111.out 1).trans rfl; have hfz27_0 := blk_frozen BK111.out 0; have hfz27_1 := blk_frozen BK111.out 1) | ((with_reducible refine gate_callee (f := 17) rfl ?_); refine goesL_ (some 4) rfl rfl Try.func17 (by kernel_rfl) rfl #[.agg #[.string (⟨#[98]⟩ : ByteArray), .string (⟨#[100]⟩ : ByteArray)], .string (⟨#[99]⟩ : ByteArray)] rfl (by (try simp only [List.map_toArray, List.map_cons, List.map_nil]); first | done | rfl | (simp only [List.length_drop, List.length_take]; done) | (simp only [List.length_drop, List.length_take]; rfl)) ?_; (with_reducible refine (span_Has.calls (⟨#[98]⟩ : ByteArray) (⟨#[100]⟩ : ByteArray) (⟨#[99]⟩ : ByteArray) true _ A1.out).mono ?_); rintro e w28 ⟨rfl, hb⟩; refine ⟨_, rfl, ?_⟩; have n0_ := Aside0.mk (blk_below (g := gb111) (o := .cells #[.string (⟨#[98]⟩ : ByteArray), .string (⟨#[100]⟩ : ByteArray)] 38 (0, 0)) (by (with_reducible repeat (first | refine blk_drewN ?_ _ | refine blk_drew ?_ | refine blk_alloc ?_ _)); refine blk_put (cs := #[.string (⟨#[98]⟩ : ByteArray), .string (⟨#[]⟩ : ByteArray)]) ?_ 1 _ rfl; (with_reducible repeat (first | refine blk_drewN ?_ _ | refine blk_drew ?_ | refine blk_alloc ?_ _)); refine blk_put (cs := #[.string (⟨#[]⟩ : ByteArray), .string (⟨#[]⟩ : ByteArray)]) ?_ 0 _ rfl; (with_reducible repeat (first | refine blk_drewN ?_ _ | refine blk_drew ?_ | refine blk_alloc ?_ _)); exact BK111.out) hb); have n1_ := Aside0.mk (below_step (by repeat (first | (with_reducible first | exact HB.out | apply below_alloc | apply pw_below_drewN | apply below_drew1 | refine below_set ?_ GE111.out) | exact HB.out)) hb); clear BK111; clear HB; have BK111 := n0_; have HB := n1_; clear n0_ n1_; (try clear hb); (try clear hb2); (try clear hk); (try clear hi); have hcz29_0 : w28.cell? ⟨gb111, 0, none⟩ = some (.string (⟨#[98]⟩ : ByteArray)) := (blk_cell BK111.out 0).trans rfl; have hcz29_1 : w28.cell? ⟨gb111, 1, none⟩ = some (.string (⟨#[100]⟩ : ByteArray)) := (blk_cell BK111.out 1).trans rfl; have hfz29_0 := blk_frozen BK111.out 0; have hfz29_1 := blk_frozen BK111.out 1) | (go_at_call 17; (with_reducible refine (span_Has.calls (⟨#[98]⟩ : ByteArray) (⟨#[100]⟩ : ByteArray) (⟨#[100]⟩ : ByteArray) false _ A3.out).mono ?_); rintro e w30 ⟨rfl, hb⟩; have n0_ := Aside0.mk (blk_below (g := gb111) (o := .cells #[.string (⟨#[98]⟩ : ByteArray), .string (⟨#[100]⟩ : ByteArray)] 38 (0, 0)) (by (with_reducible repeat (first | refine blk_drewN ?_ _ | refine blk_drew ?_ | refine blk_alloc ?_ _)); exact BK111.out) hb); have n1_ := Aside0.mk (below_step (by repeat (first | (with_reducible first | exact HB.out | apply below_alloc | apply pw_below_drewN | apply below_drew1 | refine below_set ?_ GE111.out) | exact HB.out)) hb); clear BK111; clear HB; have BK111 := n0_; have HB := n1_; clear n0_ n1_; (try clear hb); (try clear hb2); (try clear hk); (try clear hi)) | ((with_reducible refine gate_dst (N := 13) rfl ?_); (try (refine gate_guard (by rfl) ?_; dsimp only)); refine Kd.R_lit k38 _ 38 ?hg (N := 13) ?hd (xs := ([(⟨(⟨#[]⟩ : ByteArray), (⟨#[98]⟩ : ByteArray)⟩ : S38), (⟨(⟨#[98]⟩ : ByteArray), (⟨#[]⟩ : ByteArray)⟩ : S38)] : List (S38))) (inner := [.string (⟨#[]⟩ : ByteArray), .string (⟨#[98]⟩ : ByteArray), .string (⟨#[98]⟩ : ByteArray), .string (⟨#[]⟩ : ByteArray)]) (ok := fun _ => True) (okp := fun _ => True) ?hr ?hp (fun _ hk => hk) trivial (Below.refl _ _) (Nat.le_refl _) (by simp) ?_; (case hd => rfl); (case hg => rfl); (case hr => first | (go_simp; done) | (go_simp; rfl)); (case hp => exact (Reps.c2 (show Kd.M k38 _ _ _ (⟨(⟨#[]⟩ : ByteArray), (⟨#[98]⟩ : ByteArray)⟩ : S38) [.string (⟨#[]⟩ : ByteArray), .string (⟨#[98]⟩ : ByteArray)] from (k38_mkM _ _ _ (⟨(⟨#[]⟩ : ByteArray), (⟨#[98]⟩ : ByteArray)⟩ : S38) )) (Reps.c2 (show Kd.M k38 _ _ _ (⟨(⟨#[98]⟩ : ByteArray), (⟨#[]⟩ : ByteArray)⟩ : S38) [.string (⟨#[98]⟩ : ByteArray), .string (⟨#[]⟩ : ByteArray)] from (k38_mkM _ _ _ (⟨(⟨#[98]⟩ : ByteArray), (⟨#[]⟩ : ByteArray)⟩ : S38) )) (Reps.none _ _)))); intro v115 w31 ho32 hb hg_ hnew_; clear hg_ hnew_; (first | rw [← Ny114.out] at ho32 | (simp only [Int.reduceToNat] at ho32; rw [← Ny114.out] at ho32)); have n0_ := Aside0.mk (Kd.R_lower (Kd.R_newB ho32 (g := gb111) (o := .cells #[.string (⟨#[98]⟩ : ByteArray), .string (⟨#[100]⟩ : ByteArray)] 38 (0, 0)) (by (with_reducible repeat (first | refine blk_drewN ?_ _ | refine blk_drew ?_ | refine blk_alloc ?_ _)); exact BK111.out)) (below_size (by repeat (first | (with_reducible first | exact HB.out | apply below_alloc | apply pw_below_drewN | apply below_drew1 | refine below_set ?_ GE111.out) | exact HB.out)))); have n1_ := Aside0.mk (blk_below (g := gb111) (o := .cells #[.string (⟨#[98]⟩ : ByteArray), .string (⟨#[100]⟩ : ByteArray)] 38 (0, 0)) (by (with_reducible repeat (first | refine blk_drewN ?_ _ | refine blk_drew ?_ | refine blk_alloc ?_ _)); exact BK111.out) hb); have n2_ := Aside0.mk (below_step (by repeat (first | (with_reducible first | exact HB.out | apply below_alloc | apply pw_below_drewN | apply below_drew1 | refine below_set ?_ GE111.out) | exact HB.out)) hb); clear BK111; clear HB; have HO116 := n0_; have BK111 := n1_; have HB := n2_; clear n0_ n1_ n2_; clear hb ho32; obtain ⟨Ao33, co33, eo33⟩ := Kd.R_slice HO116.out; subst eo33) | (go_at_call 18; (with_reducible refine (span_Whole.calls k _ _ y114 true _ ?side1 ?side2 A10.out).mono ?_); (case side1 => repeat (first | exact (Kd.R_reads' HO116.out).2.2 | (with_reducible refine Kd.C_alloc ?_ _) | (with_reducible refine Kd.C_drewN ?_ _) | (with_reducible refine Kd.C_drew ?_))); (case side2 => exact (Kd.R_reads' HO116.out).2.1); rintro e w34 ⟨rfl, hb⟩; have n0_ := Aside0.mk (Kd.R_below (by (with_reducible repeat (first | apply Kd.R_alloc | apply Kd.R_drewN | apply Kd.R_drew)); exact HO116.out) hb); have n1_ := Aside0.mk (blk_below (g := gb111) (o := .cells #[.string (⟨#[98]⟩ : ByteArray), .string (⟨#[100]⟩ : ByteArray)] 38 (0, 0)) (by (with_reducible repeat (first | refine blk_drewN ?_ _ | refine blk_drew ?_ | refine blk_alloc ?_ _)); exact BK111.out) hb); have n2_ := Aside0.mk (below_step (by repeat (first | (with_reducible first | exact HB.out | apply below_alloc | apply pw_below_drewN | apply below_drew1 | refine below_set ?_ GE111.out) | exact HB.out)) hb); clear HO116; clear BK111; clear HB; have HO116 := n0_; have BK111 := n1_; have HB := n2_; clear n0_ n1_ n2_; (try clear hb); (try clear hb2); (try clear hk); (try clear hi); have hcz35_0 : w34.cell? ⟨gb111, 0, none⟩ = some (.string (⟨#[98]⟩ : ByteArray)) := (blk_cell BK111.out 0).trans rfl; have hcz35_1 : w34.cell? ⟨gb111, 1, none⟩ = some (.string (⟨#[100]⟩ : ByteArray)) := (blk_cell BK111.out 1).trans rfl; have hfz35_0 := blk_frozen BK111.out 0; have hfz35_1 := blk_frozen BK111.out 1) | (go_at_call 22; (with_reducible refine (span_Empty.calls (⟨#[98]⟩ : ByteArray) (⟨#[100]⟩ : ByteArray) false _ A12.out).mono ?_); rintro e w36 ⟨rfl, hb⟩; have n0_ := Aside0.mk (Kd.R_below (by (with_reducible repeat (first | apply Kd.R_alloc | apply Kd.R_drewN | apply Kd.R_drew)); exact HO116.out) hb); have n1_ := Aside0.mk (blk_below (g := gb111) (o := .cells #[.string (⟨#[98]⟩ : ByteArray), .string (⟨#[100]⟩ : ByteArray)] 38 (0, 0)) (by (with_reducible repeat (first | refine blk_drewN ?_ _ | refine blk_drew ?_ | refine blk_alloc ?_ _)); exact BK111.out) hb); have n2_ := Aside0.mk (below_step (by repeat (first | (with_reducible first | exact HB.out | apply below_alloc | apply pw_below_drewN | apply below_drew1 | refine below_set ?_ GE111.out) | exact HB.out)) hb); clear HO116; clear BK111; clear HB; have HO116 := n0_; have BK111 := n1_; have HB := n2_; clear n0_ n1_ n2_; (try clear hb); (try clear hb2); (try clear hk); (try clear hi); have hcz37_0 : w36.cell? ⟨gb111, 0, none⟩ = some (.string (⟨#[98]⟩ : ByteArray)) := (blk_cell BK111.out 0).trans rfl; have hcz37_1 : w36.cell? ⟨gb111, 1, none⟩ = some (.string (⟨#[100]⟩ : ByteArray)) := (blk_cell BK111.out 1).trans rfl; have hfz37_0 := blk_frozen BK111.out 0; have hfz37_1 := blk_frozen BK111.out 1) | (go_at_call 24; (with_reducible refine (span_Within.calls (⟨#[98]⟩ : ByteArray) (⟨#[100]⟩ : ByteArray) (⟨#[97]⟩ : ByteArray) (⟨#[]⟩ : ByteArray) t119 _ A25.out).mono ?_); rintro e w38 ⟨rfl, hb⟩; have n0_ := Aside0.mk (Kd.R_below (by (with_reducible repeat (first | apply Kd.R_alloc | apply Kd.R_drewN | apply Kd.R_drew)); exact HO116.out) hb); have n1_ := Aside0.mk (blk_below (g := gb111) (o := .cells #[.string (⟨#[98]⟩ : ByteArray), .string (⟨#[100]⟩ : ByteArray)] 38 (0, 0)) (by (with_reducible repeat (first | refine blk_drewN ?_ _ | refine blk_drew ?_ | refine blk_alloc ?_ _)); exact BK111.out) hb); have n2_ := Aside0.mk (below_step (by repeat (first | (with_reducible first | exact HB.out | apply below_alloc | apply pw_below_drewN | apply below_drew1 | refine below_set ?_ GE111.out) | exact HB.out)) hb); clear HO116; clear BK111; clear HB; have HO116 := n0_; have BK111 := n1_; have HB := n2_; clear n0_ n1_ n2_; (try clear hb); (try clear hb2); (try clear hk); (try clear hi)))
          go_ret
          exact ⟨by first | rfl | (simp [errW_none, errW_some] <;> rfl) | (simp [*, errW_none, errW_some] <;> rfl), by repeat (first | (with_reducible first | exact HB.out | apply below_alloc | apply pw_below_drewN | apply below_drew1 | refine below_set ?_ GE111.out) | exact HB.out)⟩
      · replace c11 := Bool.eq_false_iff.mpr c11
        subst c11
        have H1 : (some false) = some r := by rw [if_neg (show ¬ (false = true) by decide)] at H; exact H
        clear H
        have H := H1
        clear H1
        obtain rfl := Option.some.inj H
        go_enter Try.func15, Try.ntmps15
        go_wp2_with (first | ((with_reducible refine gate_dst (N := 1) rfl ?_); (try (refine gate_guard (by rfl) ?_; dsimp only)); refine box_event ?hg (N := 1) ?hd (cs := #[.string (⟨#[]⟩ : ByteArray), .string (⟨#[]⟩ : ByteArray)]) (t := 38) ?hr ?_; (case hd => rfl); (case hg => rfl); (case hr => first | (go_simp; done) | (go_simp; rfl)); intro gb111 hg w39 hbox hb; have n0_ := Aside0.mk (below_step (by repeat (first | (with_reducible first | exact HB.out | apply below_alloc | apply pw_below_drewN | apply below_drew1) | exact HB.out)) hb); have n1_ := Aside0.mk (hbox); have n2_ := Aside0.mk ((by rw [hg]; exact (below_size (by repeat (first | (with_reducible first | exact HB.out | apply below_alloc | apply pw_below_drewN | apply below_drew1) | exact HB.out))) : w.heap.size ≤ gb111)); have n3_ := Aside0.mk ((by rw [hg]; exact (below_size (by repeat (first | (with_reducible first | exact HB.out | apply below_alloc | apply pw_below_drewN | apply below_drew1) | exact HB.out))) : w.heap.size ≤ gb111)); clear HB; have HB := n0_; have BK111 := n1_; have GW111 := n2_; have GE111 := n3_; clear n0_ n1_ n2_ n3_; clear hb hbox hg; have hcz40_0 : w39.cell? ⟨gb111, 0, none⟩ = some (.string (⟨#[]⟩ : ByteArray)) := (blk_cell BK111.out 0).trans rfl; have hcz40_1 : w39.cell? ⟨gb111, 1, none⟩ = some (.string (⟨#[]⟩ : ByteArray)) := (blk_cell BK111.out 1).trans rfl; have hfz40_0 := blk_frozen BK111.out 0; have hfz40_1 := blk_frozen BK111.out 1) | ((with_reducible refine gate_callee (f := 17) rfl ?_); refine goesL_ (some 4) rfl rfl Try.func17 (by kernel_rfl) rfl #[.agg #[.string (⟨#[98]⟩ : ByteArray), .string (⟨#[100]⟩ : ByteArray)], .string (⟨#[99]⟩ : ByteArray)] rfl (by (try simp only [List.map_toArray, List.map_cons, List.map_nil]); first | done | rfl | (simp only [List.length_drop, List.length_take]; done) | (simp only [List.length_drop, List.length_take]; rfl)) ?_; (with_reducible refine (span_Has.calls (⟨#[98]⟩ : ByteArray) (⟨#[100]⟩ : ByteArray) (⟨#[99]⟩ : ByteArray) true _ A1.out).mono ?_); rintro e w41 ⟨rfl, hb⟩; refine ⟨_, rfl, ?_⟩; have n0_ := Aside0.mk (blk_below (g := gb111) (o := .cells #[.string (⟨#[98]⟩ : ByteArray), .string (⟨#[100]⟩ : ByteArray)] 38 (0, 0)) (by (with_reducible repeat (first | refine blk_drewN ?_ _ | refine blk_drew ?_ | refine blk_alloc ?_ _)); refine blk_put (cs := #[.string (⟨#[98]⟩ : ByteArray), .string (⟨#[]⟩ : ByteArray)]) ?_ 1 _ rfl; (with_reducible repeat (first | refine blk_drewN ?_ _ | refine blk_drew ?_ | refine blk_alloc ?_ _)); refine blk_put (cs := #[.string (⟨#[]⟩ : ByteArray), .string (⟨#[]⟩ : ByteArray)]) ?_ 0 _ rfl; (with_reducible repeat (first | refine blk_drewN ?_ _ | refine blk_drew ?_ | refine blk_alloc ?_ _)); exact BK111.out) hb); have n1_ := Aside0.mk (below_step (by repeat (first | (with_reducible first | exact HB.out | apply below_alloc | apply pw_below_drewN | apply below_drew1 | refine below_set ?_ GE111.out) | exact HB.out)) hb); clear BK111; clear HB; have BK111 := n0_; have HB := n1_; clear n0_ n1_; (try clear hb); (try clear hb2); (try clear hk); (try clear hi); have hcz42_0 : w41.cell? ⟨gb111, 0, none⟩ = some (.string (⟨#[98]⟩ : ByteArray)) := (blk_cell BK111.out 0).trans rfl; have hcz42_1 : w41.cell? ⟨gb111, 1, none⟩ = some (.string (⟨#[100]⟩ : ByteArray)) := (blk_cell BK111.out 1).trans rfl; have hfz42_0 := blk_frozen BK111.out 0; have hfz42_1 := blk_frozen BK111.out 1) | (go_at_call 17; (with_reducible refine (span_Has.calls (⟨#[98]⟩ : ByteArray) (⟨#[100]⟩ : ByteArray) (⟨#[100]⟩ : ByteArray) false _ A3.out).mono ?_); rintro e w43 ⟨rfl, hb⟩; have n0_ := Aside0.mk (blk_below (g := gb111) (o := .cells #[.string (⟨#[98]⟩ : ByteArray), .string (⟨#[100]⟩ : ByteArray)] 38 (0, 0)) (by (with_reducible repeat (first | refine blk_drewN ?_ _ | refine blk_drew ?_ | refine blk_alloc ?_ _)); exact BK111.out) hb); have n1_ := Aside0.mk (below_step (by repeat (first | (with_reducible first | exact HB.out | apply below_alloc | apply pw_below_drewN | apply below_drew1 | refine below_set ?_ GE111.out) | exact HB.out)) hb); clear BK111; clear HB; have BK111 := n0_; have HB := n1_; clear n0_ n1_; (try clear hb); (try clear hb2); (try clear hk); (try clear hi)) | ((with_reducible refine gate_dst (N := 13) rfl ?_); (try (refine gate_guard (by rfl) ?_; dsimp only)); refine Kd.R_lit k38 _ 38 ?hg (N := 13) ?hd (xs := ([(⟨(⟨#[]⟩ : ByteArray), (⟨#[98]⟩ : ByteArray)⟩ : S38), (⟨(⟨#[98]⟩ : ByteArray), (⟨#[]⟩ : ByteArray)⟩ : S38)] : List (S38))) (inner := [.string (⟨#[]⟩ : ByteArray), .string (⟨#[98]⟩ : ByteArray), .string (⟨#[98]⟩ : ByteArray), .string (⟨#[]⟩ : ByteArray)]) (ok := fun _ => True) (okp := fun _ => True) ?hr ?hp (fun _ hk => hk) trivial (Below.refl _ _) (Nat.le_refl _) (by simp) ?_; (case hd => rfl); (case hg => rfl); (case hr => first | (go_simp; done) | (go_simp; rfl)); (case hp => exact (Reps.c2 (show Kd.M k38 _ _ _ (⟨(⟨#[]⟩ : ByteArray), (⟨#[98]⟩ : ByteArray)⟩ : S38) [.string (⟨#[]⟩ : ByteArray), .string (⟨#[98]⟩ : ByteArray)] from (k38_mkM _ _ _ (⟨(⟨#[]⟩ : ByteArray), (⟨#[98]⟩ : ByteArray)⟩ : S38) )) (Reps.c2 (show Kd.M k38 _ _ _ (⟨(⟨#[98]⟩ : ByteArray), (⟨#[]⟩ : ByteArray)⟩ : S38) [.string (⟨#[98]⟩ : ByteArray), .string (⟨#[]⟩ : ByteArray)] from (k38_mkM _ _ _ (⟨(⟨#[98]⟩ : ByteArray), (⟨#[]⟩ : ByteArray)⟩ : S38) )) (Reps.none _ _)))); intro v115 w44 ho45 hb hg_ hnew_; clear hg_ hnew_; (first | rw [← Ny114.out] at ho45 | (simp only [Int.reduceToNat] at ho45; rw [← Ny114.out] at ho45)); have n0_ := Aside0.mk (Kd.R_lower (Kd.R_newB ho45 (g := gb111) (o := .cells #[.string (⟨#[98]⟩ : ByteArray), .string (⟨#[100]⟩ : ByteArray)] 38 (0, 0)) (by (with_reducible repeat (first | refine blk_drewN ?_ _ | refine blk_drew ?_ | refine blk_alloc ?_ _)); exact BK111.out)) (below_size (by repeat (first | (with_reducible first | exact HB.out | apply below_alloc | apply pw_below_drewN | apply below_drew1 | refine below_set ?_ GE111.out) | exact HB.out)))); have n1_ := Aside0.mk (blk_below (g := gb111) (o := .cells #[.string (⟨#[98]⟩ : ByteArray), .string (⟨#[100]⟩ : ByteArray)] 38 (0, 0)) (by (with_reducible repeat (first | refine blk_drewN ?_ _ | refine blk_drew ?_ | refine blk_alloc ?_ _)); exact BK111.out) hb); have n2_ := Aside0.mk (below_step (by repeat (first | (with_reducible first | exact HB.out | apply below_alloc | apply pw_below_drewN | apply below_drew1 | refine below_set ?_ GE111.out) | exact HB.out)) hb); clear BK111; clear HB; have HO116 := n0_; have BK111 := n1_; have HB := n2_; clear n0_ n1_ n2_; clear hb ho45; obtain ⟨Ao46, co46, eo46⟩ := Kd.R_slice HO116.out; subst eo46) | (go_at_call 18; (with_reducible refine (span_Whole.calls k _ _ y114 false _ ?side1 ?side2 A10.out).mono ?_); (case side1 => repeat (first | exact (Kd.R_reads' HO116.out).2.2 | (with_reducible refine Kd.C_alloc ?_ _) | (with_reducible refine Kd.C_drewN ?_ _) | (with_reducible refine Kd.C_drew ?_))); (case side2 => exact (Kd.R_reads' HO116.out).2.1); rintro e w47 ⟨rfl, hb⟩; have n0_ := Aside0.mk (Kd.R_below (by (with_reducible repeat (first | apply Kd.R_alloc | apply Kd.R_drewN | apply Kd.R_drew)); exact HO116.out) hb); have n1_ := Aside0.mk (blk_below (g := gb111) (o := .cells #[.string (⟨#[98]⟩ : ByteArray), .string (⟨#[100]⟩ : ByteArray)] 38 (0, 0)) (by (with_reducible repeat (first | refine blk_drewN ?_ _ | refine blk_drew ?_ | refine blk_alloc ?_ _)); exact BK111.out) hb); have n2_ := Aside0.mk (below_step (by repeat (first | (with_reducible first | exact HB.out | apply below_alloc | apply pw_below_drewN | apply below_drew1 | refine below_set ?_ GE111.out) | exact HB.out)) hb); clear HO116; clear BK111; clear HB; have HO116 := n0_; have BK111 := n1_; have HB := n2_; clear n0_ n1_ n2_; (try clear hb); (try clear hb2); (try clear hk); (try clear hi)))
        go_ret
        exact ⟨by first | rfl | (simp [errW_none, errW_some] <;> rfl) | (simp [*, errW_none, errW_some] <;> rfl), by repeat (first | (with_reducible first | exact HB.out | apply below_alloc | apply pw_below_drewN | apply below_drew1 | refine below_set ?_ GE111.out) | exact HB.out)⟩
  · replace c2 := Bool.eq_false_iff.mpr c2
    subst c2
    have H1 : (some false) = some r := by rw [if_neg (show ¬ (false = true) by decide)] at H; exact H
    clear H
    have H := H1
    clear H1
    obtain rfl := Option.some.inj H
    go_enter Try.func15, Try.ntmps15
    go_wp2_with (first | ((with_reducible refine gate_dst (N := 1) rfl ?_); (try (refine gate_guard (by rfl) ?_; dsimp only)); refine box_event ?hg (N := 1) ?hd (cs := #[.string (⟨#[]⟩ : ByteArray), .string (⟨#[]⟩ : ByteArray)]) (t := 38) ?hr ?_; (case hd => rfl); (case hg => rfl); (case hr => first | (go_simp; done) | (go_simp; rfl)); intro gb111 hg w48 hbox hb; have n0_ := Aside0.mk (below_step (by repeat (first | (with_reducible first | exact HB.out | apply below_alloc | apply pw_below_drewN | apply below_drew1) | exact HB.out)) hb); have n1_ := Aside0.mk (hbox); have n2_ := Aside0.mk ((by rw [hg]; exact (below_size (by repeat (first | (with_reducible first | exact HB.out | apply below_alloc | apply pw_below_drewN | apply below_drew1) | exact HB.out))) : w.heap.size ≤ gb111)); have n3_ := Aside0.mk ((by rw [hg]; exact (below_size (by repeat (first | (with_reducible first | exact HB.out | apply below_alloc | apply pw_below_drewN | apply below_drew1) | exact HB.out))) : w.heap.size ≤ gb111)); clear HB; have HB := n0_; have BK111 := n1_; have GW111 := n2_; have GE111 := n3_; clear n0_ n1_ n2_ n3_; clear hb hbox hg; have hcz49_0 : w48.cell? ⟨gb111, 0, none⟩ = some (.string (⟨#[]⟩ : ByteArray)) := (blk_cell BK111.out 0).trans rfl; have hcz49_1 : w48.cell? ⟨gb111, 1, none⟩ = some (.string (⟨#[]⟩ : ByteArray)) := (blk_cell BK111.out 1).trans rfl; have hfz49_0 := blk_frozen BK111.out 0; have hfz49_1 := blk_frozen BK111.out 1) | ((with_reducible refine gate_callee (f := 17) rfl ?_); refine goesL_ (some 4) rfl rfl Try.func17 (by kernel_rfl) rfl #[.agg #[.string (⟨#[98]⟩ : ByteArray), .string (⟨#[100]⟩ : ByteArray)], .string (⟨#[99]⟩ : ByteArray)] rfl (by (try simp only [List.map_toArray, List.map_cons, List.map_nil]); first | done | rfl | (simp only [List.length_drop, List.length_take]; done) | (simp only [List.length_drop, List.length_take]; rfl)) ?_; (with_reducible refine (span_Has.calls (⟨#[98]⟩ : ByteArray) (⟨#[100]⟩ : ByteArray) (⟨#[99]⟩ : ByteArray) false _ A1.out).mono ?_); rintro e w50 ⟨rfl, hb⟩; refine ⟨_, rfl, ?_⟩; have n0_ := Aside0.mk (blk_below (g := gb111) (o := .cells #[.string (⟨#[98]⟩ : ByteArray), .string (⟨#[100]⟩ : ByteArray)] 38 (0, 0)) (by (with_reducible repeat (first | refine blk_drewN ?_ _ | refine blk_drew ?_ | refine blk_alloc ?_ _)); refine blk_put (cs := #[.string (⟨#[98]⟩ : ByteArray), .string (⟨#[]⟩ : ByteArray)]) ?_ 1 _ rfl; (with_reducible repeat (first | refine blk_drewN ?_ _ | refine blk_drew ?_ | refine blk_alloc ?_ _)); refine blk_put (cs := #[.string (⟨#[]⟩ : ByteArray), .string (⟨#[]⟩ : ByteArray)]) ?_ 0 _ rfl; (with_reducible repeat (first | refine blk_drewN ?_ _ | refine blk_drew ?_ | refine blk_alloc ?_ _)); exact BK111.out) hb); have n1_ := Aside0.mk (below_step (by repeat (first | (with_reducible first | exact HB.out | apply below_alloc | apply pw_below_drewN | apply below_drew1 | refine below_set ?_ GE111.out) | exact HB.out)) hb); clear BK111; clear HB; have BK111 := n0_; have HB := n1_; clear n0_ n1_; (try clear hb); (try clear hb2); (try clear hk); (try clear hi)))
    go_ret
    exact ⟨by first | rfl | (simp [errW_none, errW_some] <;> rfl) | (simp [*, errW_none, errW_some] <;> rfl), by repeat (first | (with_reducible first | exact HB.out | apply below_alloc | apply pw_below_drewN | apply below_drew1 | refine below_set ?_ GE111.out) | exact HB.out)⟩

/-! ### gazetteerlaw5_Few: function 19 -/
def gazetteerlaw5_Few.l0 : Nat → List (S38) → Int → Int → Option (Bool)
  | 0, _, _, _ => none
  | k + 1, x0, x3, x4 => if x4 < (x0.length : Int) then (if 0 ≤ x4 then (gazetteerlaw5_Few.l0 k x0 (wrap64 ((wrap64 (x3 + (((rd_T38 x0 x4).f0).size : Int))) + (((rd_T38 x0 x4).f1).size : Int))) (wrap64 (x4 + 1))) else (none)) else (if (x0.length : Int) ≤ 60 then (some (decide (x3 ≤ 3000))) else (some false))
def gazetteerlaw5_Few.f (k : Nat) (l0 : List (S38)) : Option (Bool) := gazetteerlaw5_Few.l0 k l0 0 0
theorem gazetteerlaw5_Few.mono_l : ∀ k, (∀ y0 y1 y2, LeO (gazetteerlaw5_Few.l0 k y0 y1 y2) (gazetteerlaw5_Few.l0 (k + 1) y0 y1 y2))
  | 0 => fun _ _ _ r h => by simp [gazetteerlaw5_Few.l0] at h
  | k + 1 => by
    have ih0 := gazetteerlaw5_Few.mono_l k
    · intro y0 y1 y2
      unfold gazetteerlaw5_Few.l0
      repeat' first
      | (with_reducible exact ih0 _ _ _)
      | (with_reducible exact LeO.refl _)
      | (with_reducible exact LeO.none _)
      | (with_reducible refine LeO.ite ?_ ?_)
      | (with_reducible refine LeO.bind ?_ (fun _ => ?_))
      | exact ih0 _ _ _
      | exact LeO.none _
      | refine LeO.ite ?_ ?_
      | refine LeO.bind ?_ (fun _ => ?_)
theorem gazetteerlaw5_Few.mono : ∀ a0 k, LeO (gazetteerlaw5_Few.f k a0) (gazetteerlaw5_Few.f (k + 1) a0) := by
  intro a0 k
  have ih0 := gazetteerlaw5_Few.mono_l k
  unfold gazetteerlaw5_Few.f
  repeat' first
      | (with_reducible exact ih0 _ _ _)
      | (with_reducible exact LeO.refl _)
      | (with_reducible exact LeO.none _)
      | (with_reducible refine LeO.ite ?_ ?_)
      | (with_reducible refine LeO.bind ?_ (fun _ => ?_))
      | exact ih0 _ _ _
      | exact LeO.none _
      | refine LeO.ite ?_ ?_
      | refine LeO.bind ?_ (fun _ => ?_)
set_option maxHeartbeats 8000000 in
set_option maxRecDepth 100000 in
theorem gazetteerlaw5_Few.calls (k : Nat) (A0 : Option Addr) (c0 : Nat) (l0 : List (S38)) (r : Bool) (w : World) (hr0 : Kd.C k38 w A0 l0.length l0) (hc0 : l0.length ≤ c0) (h : gazetteerlaw5_Few.f k l0 = some r) :
    Calls Try.prog 19 #[.slice A0 l0.length c0] w fun e w' => e = .returned (.bool r) ∧ Drawn0 w w' := by
  have HR0 := Aside0.mk hr0
  have HC0 := Aside0.mk hc0
  clear hr0 hc0
  have H : (gazetteerlaw5_Few.l0 k l0 0 0) = some r := h
  clear h
  have H' := Aside0.mk H
  clear H
  go_enter Try.func19, Try.ntmps19
  go_wp2
  repeat (go_quiet (fail); try go_wp2)
  go_loopg [3, 4] k (fun kq v3 v4 w' => ∃ (x3_1 : Int) (x4_1 : Int), v3 = .int .i64 x3_1 ∧ v4 = .int .i64 x4_1 ∧ Aside0 (gazetteerlaw5_Few.l0 kq l0 x3_1 x4_1 = some r) ∧ Aside0 (kq ≤ k) ∧ Drawn0 w w')
  case atStart => exact ⟨(0), (0), (by first | rfl | (simp; done) | (simp [*]; done)), (by first | rfl | (simp; done) | (simp [*]; done)), H', ⟨Nat.le_refl _⟩, by repeat (first | exact Drawn0.refl _ | apply Drawn0.step)⟩
  case round =>
    clear H'
    try clear c1
    obtain ⟨x3_1, x4_1, rfl, rfl, HA, HK1, ⟨m1, rfl⟩⟩ := hrel
    cases gk with
    | zero => exact absurd HA.out (by simp [gazetteerlaw5_Few.l0])
    | succ k1 =>
      have H := HA.out
      clear HA
      simp only [gazetteerlaw5_Few.l0] at H
      by_cases c2 : x4_1 < (l0.length : Int)
      · rw [if_pos c2] at H
        have c2b0 : decide (x4_1 < (l0.length : Int)) = true := decide_eq_true c2
        clear c2
        by_cases c3 : 0 ≤ x4_1
        · rw [if_pos c3] at H
          have c3b0 : decide (0 ≤ x4_1) = true := decide_eq_true c3
          clear c3
          have H' := Aside0.mk H
          clear H
          have p120 : 0 ≤ (x4_1 : Int) := of_decide_eq_true (by first | (with_reducible assumption) | assumption)
          have q120 : x4_1 < (l0.length : Int) := of_decide_eq_true (by first | (with_reducible assumption) | assumption)
          obtain ⟨ad120, e120, hx120_0, hx120_1⟩ := at_T38 HR0.out x4_1 p120 q120
          cases e120
          replace p120 := eq_true p120
          replace q120 := eq_true q120
          have p121 : 0 ≤ (x4_1 : Int) := of_decide_eq_true (by first | (with_reducible assumption) | assumption)
          have q121 : x4_1 < (l0.length : Int) := of_decide_eq_true (by first | (with_reducible assumption) | assumption)
          obtain ⟨ad121, e121, hx121_0, hx121_1⟩ := at_T38 HR0.out x4_1 p121 q121
          obtain rfl : ad120 = ad121 := (by injection e121)
          replace p121 := eq_true p121
          replace q121 := eq_true q121
          go_wp2
          repeat (go_quiet (fail); try go_wp2)
          go_roundg k1
          case measure => have := HK1.out; omega
          case rel => exact ⟨(wrap64 ((wrap64 (x3_1 + (((rd_T38 l0 x4_1).f0).size : Int))) + (((rd_T38 l0 x4_1).f1).size : Int))), (wrap64 (x4_1 + 1)), (by first | rfl | (simp; done) | (simp [*]; done)), (by first | rfl | (simp; done) | (simp [*]; done)), H', ⟨by have := HK1.out; omega⟩, by repeat (first | exact Drawn0.refl _ | apply Drawn0.step)⟩
        · rw [if_neg c3] at H
          exact absurd H (by simp)
      · rw [if_neg c2] at H
        have c2b0 : decide (x4_1 < (l0.length : Int)) = false := decide_eq_false c2
        clear c2
        by_cases c4 : (l0.length : Int) ≤ 60
        · rw [if_pos c4] at H
          have c4b0 : decide ((l0.length : Int) ≤ 60) = true := decide_eq_true c4
          have c4b1 : decide (l0.length ≤ 60) = true := decide_eq_true (by omega)
          clear c4
          obtain rfl := Option.some.inj H
          go_wp2
          repeat (go_quiet (fail); try go_wp2)
          go_ret
          exact ⟨by first | rfl | (simp; done) | (simp [*]; done), by repeat (first | exact Drawn0.refl _ | apply Drawn0.step)⟩
        · rw [if_neg c4] at H
          have c4b0 : decide ((l0.length : Int) ≤ 60) = false := decide_eq_false c4
          have c4b1 : decide (l0.length ≤ 60) = false := decide_eq_false (by omega)
          clear c4
          obtain rfl := Option.some.inj H
          go_wp2
          repeat (go_quiet (fail); try go_wp2)
          go_ret
          exact ⟨by first | rfl | (simp; done) | (simp [*]; done), by repeat (first | exact Drawn0.refl _ | apply Drawn0.step)⟩

/-! ### gazetteerref5_Has: function 21 -/
def gazetteerref5_Has.f (a0_0 : ByteArray) (a0_1 : ByteArray) (a1 : ByteArray) : Option (Bool) := if ((Op.bytesLess a1.toList a0_0.toList) = true) then (some false) else (if (Op.bytesLess a1.toList a0_1.toList) = true then (some true) else (some (a0_1.toList == ([] : List UInt8))))
set_option maxHeartbeats 8000000 in
set_option maxRecDepth 100000 in
theorem gazetteerref5_Has.calls (a0_0 : ByteArray) (a0_1 : ByteArray) (a1 : ByteArray) (r : Bool) (w : World) (h : gazetteerref5_Has.f a0_0 a0_1 a1 = some r) :
    Calls Try.prog 21 #[.agg #[.string a0_0, .string a0_1], .string a1] w fun e w' => e = .returned (.bool r) ∧ Below w.heap.size w w' := by
  have hu38 := Try.underlying38
  have HB := Aside0.mk (Below.refl w.heap.size w)
  have H : (if ((Op.bytesLess a1.toList a0_0.toList) = true) then (some false) else (if (Op.bytesLess a1.toList a0_1.toList) = true then (some true) else (some (a0_1.toList == ([] : List UInt8))))) = some r := h
  clear h
  by_cases c3 : ((Op.bytesLess a1.toList a0_0.toList) = true)
  · rw [if_pos c3] at H
    have c3b0 : (Op.bytesLess a1.toList a0_0.toList) = true := c3
    clear c3
    obtain rfl := Option.some.inj H
    go_enter Try.func21, Try.ntmps21
    go_wp2_with (first | ((with_reducible refine gate_dst (N := 2) rfl ?_); refine box_event ?hg (N := 2) ?hd (cs := #[.string a0_0, .string a0_1]) (t := 38) ?hr ?_; (case hd => rfl); (case hg => rfl); (case hr => first | (go_simp; done) | (go_simp; rfl)); intro gb122 hg w4 hbox hb; have n0_ := Aside0.mk (below_step (by repeat (first | (with_reducible first | exact HB.out | apply below_alloc | apply pw_below_drewN | apply below_drew1) | exact HB.out)) hb); have n1_ := Aside0.mk (hbox); have n2_ := Aside0.mk ((by rw [hg]; exact (below_size (by repeat (first | (with_reducible first | exact HB.out | apply below_alloc | apply pw_below_drewN | apply below_drew1) | exact HB.out))) : w.heap.size ≤ gb122)); have n3_ := Aside0.mk ((by rw [hg]; exact (below_size (by repeat (first | (with_reducible first | exact HB.out | apply below_alloc | apply pw_below_drewN | apply below_drew1) | exact HB.out))) : w.heap.size ≤ gb122)); clear HB; have HB := n0_; have BK122 := n1_; have GW122 := n2_; have GE122 := n3_; clear n0_ n1_ n2_ n3_; clear hb hbox hg; have hcz5_0 : w4.cell? ⟨gb122, 0, none⟩ = some (.string a0_0) := (blk_cell BK122.out 0).trans rfl; have hcz5_1 : w4.cell? ⟨gb122, 1, none⟩ = some (.string a0_1) := (blk_cell BK122.out 1).trans rfl; have hfz5_0 := blk_frozen BK122.out 0; have hfz5_1 := blk_frozen BK122.out 1))
    go_ret
    exact ⟨by first | rfl | (simp [errW_none, errW_some] <;> rfl) | (simp [*, errW_none, errW_some] <;> rfl), by repeat (first | (with_reducible first | exact HB.out | apply below_alloc | apply pw_below_drewN | apply below_drew1 | refine below_set ?_ GE122.out) | exact HB.out)⟩
  · rw [if_neg c3] at H
    have c3b0 : (Op.bytesLess a1.toList a0_0.toList) = false := by simpa using c3
    clear c3
    by_cases c6 : (Op.bytesLess a1.toList a0_1.toList) = true
    · rw [if_pos c6] at H
      have c6b0 : (Op.bytesLess a1.toList a0_1.toList) = true := c6
      clear c6
      obtain rfl := Option.some.inj H
      go_enter Try.func21, Try.ntmps21
      go_wp2_with (first | ((with_reducible refine gate_dst (N := 2) rfl ?_); refine box_event ?hg (N := 2) ?hd (cs := #[.string a0_0, .string a0_1]) (t := 38) ?hr ?_; (case hd => rfl); (case hg => rfl); (case hr => first | (go_simp; done) | (go_simp; rfl)); intro gb122 hg w7 hbox hb; have n0_ := Aside0.mk (below_step (by repeat (first | (with_reducible first | exact HB.out | apply below_alloc | apply pw_below_drewN | apply below_drew1) | exact HB.out)) hb); have n1_ := Aside0.mk (hbox); have n2_ := Aside0.mk ((by rw [hg]; exact (below_size (by repeat (first | (with_reducible first | exact HB.out | apply below_alloc | apply pw_below_drewN | apply below_drew1) | exact HB.out))) : w.heap.size ≤ gb122)); have n3_ := Aside0.mk ((by rw [hg]; exact (below_size (by repeat (first | (with_reducible first | exact HB.out | apply below_alloc | apply pw_below_drewN | apply below_drew1) | exact HB.out))) : w.heap.size ≤ gb122)); clear HB; have HB := n0_; have BK122 := n1_; have GW122 := n2_; have GE122 := n3_; clear n0_ n1_ n2_ n3_; clear hb hbox hg; have hcz8_0 : w7.cell? ⟨gb122, 0, none⟩ = some (.string a0_0) := (blk_cell BK122.out 0).trans rfl; have hcz8_1 : w7.cell? ⟨gb122, 1, none⟩ = some (.string a0_1) := (blk_cell BK122.out 1).trans rfl; have hfz8_0 := blk_frozen BK122.out 0; have hfz8_1 := blk_frozen BK122.out 1))
      go_ret
      exact ⟨by first | rfl | (simp [errW_none, errW_some] <;> rfl) | (simp [*, errW_none, errW_some] <;> rfl), by repeat (first | (with_reducible first | exact HB.out | apply below_alloc | apply pw_below_drewN | apply below_drew1 | refine below_set ?_ GE122.out) | exact HB.out)⟩
    · rw [if_neg c6] at H
      have c6b0 : (Op.bytesLess a1.toList a0_1.toList) = false := by simpa using c6
      clear c6
      obtain rfl := Option.some.inj H
      go_enter Try.func21, Try.ntmps21
      go_wp2_with (first | ((with_reducible refine gate_dst (N := 2) rfl ?_); refine box_event ?hg (N := 2) ?hd (cs := #[.string a0_0, .string a0_1]) (t := 38) ?hr ?_; (case hd => rfl); (case hg => rfl); (case hr => first | (go_simp; done) | (go_simp; rfl)); intro gb122 hg w9 hbox hb; have n0_ := Aside0.mk (below_step (by repeat (first | (with_reducible first | exact HB.out | apply below_alloc | apply pw_below_drewN | apply below_drew1) | exact HB.out)) hb); have n1_ := Aside0.mk (hbox); have n2_ := Aside0.mk ((by rw [hg]; exact (below_size (by repeat (first | (with_reducible first | exact HB.out | apply below_alloc | apply pw_below_drewN | apply below_drew1) | exact HB.out))) : w.heap.size ≤ gb122)); have n3_ := Aside0.mk ((by rw [hg]; exact (below_size (by repeat (first | (with_reducible first | exact HB.out | apply below_alloc | apply pw_below_drewN | apply below_drew1) | exact HB.out))) : w.heap.size ≤ gb122)); clear HB; have HB := n0_; have BK122 := n1_; have GW122 := n2_; have GE122 := n3_; clear n0_ n1_ n2_ n3_; clear hb hbox hg; have hcz10_0 : w9.cell? ⟨gb122, 0, none⟩ = some (.string a0_0) := (blk_cell BK122.out 0).trans rfl; have hcz10_1 : w9.cell? ⟨gb122, 1, none⟩ = some (.string a0_1) := (blk_cell BK122.out 1).trans rfl; have hfz10_0 := blk_frozen BK122.out 0; have hfz10_1 := blk_frozen BK122.out 1))
      go_ret
      exact ⟨by first | rfl | (simp [errW_none, errW_some] <;> rfl) | (simp [*, errW_none, errW_some] <;> rfl), by repeat (first | (with_reducible first | exact HB.out | apply below_alloc | apply pw_below_drewN | apply below_drew1 | refine below_set ?_ GE122.out) | exact HB.out)⟩

/-! ### span_Find_int: function 27 -/
/-- span.Has, as one answer. -/
def hasB (x y k : ByteArray) : Bool := !Op.bytesLess k.toList x.toList && (y.toList == ([] : List UInt8) || Op.bytesLess k.toList y.toList)
def span_Find_int.f (l0 : List Int) (l1 : List S38) (a2 : ByteArray) : Option Int := if (l0.length : Int) ≤ 9223372036854775806 ∧ ∀ i ∈ l0, 0 ≤ i ∧ i < (l1.length : Int) then some (firstAt (fun i => hasB (rd_T38 l1 i).f0 (rd_T38 l1 i).f1 a2) l0) else none
theorem hasB_f (x y k : ByteArray) : span_Has.f x y k = some (hasB x y k) := by
  unfold span_Has.f hasB
  by_cases h1 : Op.bytesLess k.toList x.toList = true
  · simp [h1]
  · rw [if_neg h1]
    replace h1 := Bool.eq_false_iff.mpr h1
    by_cases h2 : y.toList = ([] : List UInt8) <;> simp [h1, h2]
theorem has_any (x y k : ByteArray) (w : World) : Calls Try.prog 17 #[.agg #[.string x, .string y], .string k] w fun r w' => r = .returned (.bool (hasB x y k)) ∧ Below w.heap.size w w' :=
  span_Has.calls x y k _ w (hasB_f x y k)
set_option maxHeartbeats 2000000 in
set_option maxRecDepth 100000 in
theorem of1_any (A1 : Option Addr) (c1 : Nat) (l1 : List S38) (gc : Nat) (i : Int) (w : World) (h0 : 0 ≤ i) (h1 : i < (l1.length : Int)) (hr : Kd.C k38 w A1 l1.length l1) (hg : w.cell? ⟨gc, 0, none⟩ = some (.slice A1 l1.length c1)) :
    Calls Try.prog 28 #[.int .i64 i, .pointer (some ⟨gc, 0, none⟩)] w fun r w' => r = .returned (.agg #[.string (rd_T38 l1 i).f0, .string (rd_T38 l1 i).f1]) ∧ Below w.heap.size w w' := by
  obtain ⟨ad, e, hx0, hx1⟩ := at_T38 hr i h0 h1
  cases e
  have p1 := eq_true h0
  have q1 := eq_true h1
  clear hr
  have HB := Aside0.mk (Below.refl w.heap.size w)
  go_enter Try.func28, Try.ntmps28
  go_wp2_with ((with_reducible refine gate_dst (N := 3) rfl ?_); refine box_event ?hg (N := 3) ?hd (cs := #[.string (⟨#[]⟩ : ByteArray), .string (⟨#[]⟩ : ByteArray)]) (t := 38) ?hr ?_; (case hd => rfl); (case hg => rfl); (case hr => first | (go_simp; done) | (go_simp; rfl)); intro gb hgb w2 hbox hb; have HB := Aside0.mk (below_step HB.out hb); have BK := Aside0.mk hbox; have GE := Aside0.mk (show w.heap.size ≤ gb by rw [hgb]; exact Nat.le_refl _); replace hx0 := cell_keep hb hx0; replace hx1 := cell_keep hb hx1; replace hg := cell_keep hb hg; clear hb hbox hgb; have hcz3_0 : w2.cell? ⟨gb, 0, none⟩ = some (.string (⟨#[]⟩ : ByteArray)) := (blk_cell BK.out 0).trans rfl; have hcz3_1 : w2.cell? ⟨gb, 1, none⟩ = some (.string (⟨#[]⟩ : ByteArray)) := (blk_cell BK.out 1).trans rfl; have hfz3_0 := blk_frozen BK.out 0; have hfz3_1 := blk_frozen BK.out 1)
  refine bodyPost_ret (results_cell_row rfl _ _ gb 38 #[.string (rd_T38 l1 i).f0, .string (rd_T38 l1 i).f1] (0, 0) _ rfl (by (with_reducible repeat (first | refine blk_drewN ?_ _ | refine blk_drew ?_ | refine blk_alloc ?_ _)); refine blk_put (cs := #[.string (rd_T38 l1 i).f0, .string (⟨#[]⟩ : ByteArray)]) ?_ 1 _ rfl; (with_reducible repeat (first | refine blk_drewN ?_ _ | refine blk_drew ?_ | refine blk_alloc ?_ _)); refine blk_put (cs := #[.string (⟨#[]⟩ : ByteArray), .string (⟨#[]⟩ : ByteArray)]) ?_ 0 _ rfl; (with_reducible repeat (first | refine blk_drewN ?_ _ | refine blk_drew ?_ | refine blk_alloc ?_ _)); exact BK.out) Try.underlying38 rfl (by kernel_rfl)) rfl ?_
  exact ⟨rfl, by repeat (first | (with_reducible first | exact HB.out | apply below_alloc | apply pw_below_drewN | apply below_drew1 | refine below_set ?_ GE.out) | exact HB.out)⟩
set_option maxHeartbeats 2000000 in
set_option maxRecDepth 100000 in
theorem find1_any (A1 : Option Addr) (c1 : Nat) (l1 : List S38) (gc : Nat) (i : Int) (g g' : Nat) (key : ByteArray) (w : World) (p1 : 0 ≤ i) (q1 : i < (l1.length : Int)) (hr : Kd.C k38 w A1 l1.length l1) (hgc : w.cell? ⟨gc, 0, none⟩ = some (.slice A1 l1.length c1))
    (h0 : w.cell? ⟨g, 0, none⟩ = some (.func (.func 28) #[] #[.pointer (some ⟨gc, 0, none⟩)])) (h1 : w.cell? ⟨g', 0, none⟩ = some (.string key)) :
    Calls Try.prog 45 #[.int .i64 i, .pointer (some ⟨g, 0, none⟩), .pointer (some ⟨g', 0, none⟩)] w
      fun r w' => r = .returned (.bool (hasB (rd_T38 l1 i).f0 (rd_T38 l1 i).f1 key)) ∧ Below w.heap.size w w' := by
  have F := Aside0.mk (fun wx (hb : Below w.heap.size w wx) => of1_any A1 c1 l1 gc i wx p1 q1 (Kd.C_below hr hb) (cell_keep hb hgc))
  have HB := Aside0.mk (Below.refl w.heap.size w)
  clear p1 q1 hr hgc
  go_enter Try.func45, Try.ntmps45
  go_wp2_with fail
  go_region_held3 (fun w' => w'.cell? ⟨g, 0, none⟩ = some (.func (.func 28) #[] #[.pointer (some ⟨gc, 0, none⟩)]) ∧ w'.cell? ⟨g', 0, none⟩ = some (.string key) ∧ Aside0 (Below w.heap.size w w'))
    (((try dsimp only); (repeat' apply And.intro) <;> (first | go_keep | assumption | (go_split_ands; assumption) | (go_split_ands; apply aside_drew; assumption) | (go_split_ands; apply aside_step; assumption; assumption) | (go_split_ands; apply cell_keep; assumption; assumption))))
    (first
      | (go_at_call 28; refine (F.out _ (by go_split_ands; exact Aside0.out (by assumption))).mono ?_; rintro x w' ⟨rfl, hb⟩)
      | (go_at_call 17; refine (has_any _ _ _ _).mono ?_; rintro x w' ⟨rfl, hb⟩))
  go_wp2
  go_split_ands
  go_ret
  exact ⟨rfl, Aside0.out (by assumption)⟩
set_option maxHeartbeats 2000000 in
set_option maxRecDepth 100000 in
theorem indexFunc_any (A0 : Option Addr) (c0 : Nat) (l0 : List Int) (A1 : Option Addr) (c1 : Nat) (l1 : List S38) (gc : Nat) (g g' : Nat) (key : ByteArray) (w : World) (hr : Kd.C (Kd.int .i64) w A0 l0.length l0) (hr1 : Kd.C k38 w A1 l1.length l1) (hgc : w.cell? ⟨gc, 0, none⟩ = some (.slice A1 l1.length c1)) (hl : (l0.length : Int) ≤ 9223372036854775806) (hi : ∀ i ∈ l0, 0 ≤ i ∧ i < (l1.length : Int))
    (h0 : w.cell? ⟨g, 0, none⟩ = some (.func (.func 28) #[] #[.pointer (some ⟨gc, 0, none⟩)])) (h1 : w.cell? ⟨g', 0, none⟩ = some (.string key)) :
    Calls Try.prog 44 #[.slice A0 l0.length c0, .func (.func 45) #[] #[.pointer (some ⟨g, 0, none⟩), .pointer (some ⟨g', 0, none⟩)]] w
      fun r w' => r = .returned (.int .i64 (firstAt (fun i => hasB (rd_T38 l1 i).f0 (rd_T38 l1 i).f1 key) l0)) ∧ Below w.heap.size w w' := by
  have HR := Aside0.mk hr
  have HI := Aside0.mk hi
  have HL := Aside0.mk hl
  have F1 := Aside0.mk (fun i wx (hb : Below w.heap.size w wx) (p1 : 0 ≤ i) (q1 : i < (l1.length : Int)) => find1_any A1 c1 l1 gc i g g' key wx p1 q1 (Kd.C_below hr1 hb) (cell_keep hb hgc) (cell_keep hb h0) (cell_keep hb h1))
  clear hr h0 h1 hl hi hr1 hgc
  go_enter Try.func44, Try.ntmps44
  go_wp2
  go_loopw [8] (fun i wr => ∃ k : Nat, i = .int .i64 k ∧ Aside0 (k ≤ l0.length) ∧ Aside0 (Below w.heap.size w wr) ∧ Aside0 (∀ j < k, (fun i : Int => hasB (rd_T38 l1 i).f0 (rd_T38 l1 i).f1 key) (l0.getD j 0) = false)) (fun i _ => l0.length - (intOf i).toNat)
  case atStart => exact ⟨0, rfl, ⟨by omega⟩, ⟨Below.refl _ _⟩, ⟨by omega⟩⟩
  case round =>
    obtain ⟨k, rfl, HK, HB, HA⟩ := hrel
    by_cases hlt : (k : Int) < (l0.length : Int)
    · have hb0 : decide ((k : Int) < (l0.length : Int)) = true := decide_eq_true hlt
      have KL := Aside0.mk (show k < l0.length by omega)
      obtain ⟨ad, e, hx0⟩ := Kd.at_int HR.out k (by omega) hlt
      cases e
      simp only [Int.toNat_natCast] at hx0
      replace hx0 := cell_keep HB.out hx0
      have HW := Aside0.mk (show wrap64 ((k : Int) + 1) = ((k + 1 : Nat) : Int) by have := HL.out; unfold wrap64; omega)
      have p1 := eq_true (show 0 ≤ (k : Int) by omega)
      have q1 := eq_true hlt
      clear hlt
      have hm : rd l0 (k : Int) ∈ l0 := by
        have := KL.out
        simp only [rd, Int.toNat_natCast, List.getD_eq_getElem?_getD, List.getElem?_eq_getElem this, Option.getD_some]
        exact List.getElem_mem this
      have hk : rd l0 (k : Int) = l0.getD k 0 := by simp [rd]
      have F := Aside0.mk (fun wx (hb : Below w.heap.size w wx) => F1.out (rd l0 (k : Int)) wx hb (HI.out _ hm).1 (HI.out _ hm).2)
      clear hm
      cases hh : hasB (rd_T38 l1 (rd l0 (k : Int))).f0 (rd_T38 l1 (rd l0 (k : Int))).f1 key
      · rw [hh] at F
        rw [hk] at hh
        have HH := Aside0.mk hh
        clear hh hk
        go_wp2_with (go_at_call 45; refine (F.out _ HB.out).mono ?_; rintro z w1 ⟨rfl, hb⟩; have HB1 := aside_step hb HB; clear hb)
        go_roundw
        case rel =>
          refine ⟨k + 1, by rw [HW.out], ⟨by have := KL.out; omega⟩, HB1, ⟨fun j hj => ?_⟩⟩
          rcases Nat.lt_succ_iff_lt_or_eq.1 hj with h | rfl
          · exact HA.out j h
          · exact HH.out
        case measure => have := KL.out; rw [HW.out]; simp [intOf]; omega
      · rw [hh] at F
        rw [hk] at hh
        have HH := Aside0.mk hh
        clear hh hk
        go_wp2_with (go_at_call 45; refine (F.out _ HB.out).mono ?_; rintro z w1 ⟨rfl, hb⟩; have HB1 := aside_step hb HB; clear hb)
        go_ret
        exact ⟨ret_int (firstAt_at (d := (0 : Int)) KL.out HH.out HA.out).symm, HB1.out⟩
    · obtain rfl : k = l0.length := by have := HK.out; omega
      clear hlt
      go_wp2
      go_ret
      exact ⟨ret_int (firstAt_none (d := (0 : Int)) (fun j hj => HA.out j hj)).symm, HB.out⟩
set_option maxHeartbeats 8000000 in
set_option maxRecDepth 100000 in
theorem span_Find_int.calls {gc1 : Nat} (A0 : Option Addr) (c0 : Nat) (l0 : List Int) (A1 : Option Addr) (c1 : Nat) (l1 : List (S38)) (a2 : ByteArray) (r : Int) (w : World) (hr0 : Kd.C (Kd.int .i64) w A0 l0.length l0) (hc0 : l0.length ≤ c0) (hr1 : Kd.C k38 w A1 l1.length l1) (hc1 : l1.length ≤ c1) (h : span_Find_int.f l0 l1 a2 = some r) (hk1 : w.heap[gc1]? = some (.cells #[.slice A1 l1.length c1] 34 (0, 0)) := by (with_reducible repeat (first | refine blk_drewN ?_ _ | refine blk_drew ?_ | refine blk_alloc ?_ _)); exact Aside0.out (by assumption)) :
    Calls Try.prog 27 #[.slice A0 l0.length c0, .func (.func 28) #[] #[.pointer (some ⟨gc1, 0, none⟩)], .string a2] w fun e w' => e = .returned (.int .i64 r) ∧ Below w.heap.size w w' := by
  unfold span_Find_int.f at h
  split at h
  case isFalse => cases h
  case isTrue hl =>
  obtain rfl := Option.some.inj h
  have HR := Aside0.mk hr0
  have HR1 := Aside0.mk hr1
  have HL := Aside0.mk hl
  have hgc : w.cell? ⟨gc1, 0, none⟩ = some (.slice A1 l1.length c1) := (blk_cell hk1 0).trans rfl
  have HGC := Aside0.mk hgc
  clear hr0 hc0 h hl hr1 hc1 hk1 hgc
  have he := fun wx => run_eql_func_nil (P := Try.prog) wx 49 (.func 28) #[] #[.pointer (some ⟨gc1, 0, none⟩)] Try.underlying49
  have hmf := run_mf (P := Try.prog)
  go_enter Try.func27, Try.ntmps27
  have F := Aside0.mk (fun wx g g' (hb : Below w.heap.size w wx) h0 h1 => indexFunc_any A0 c0 l0 A1 c1 l1 gc1 g g' a2 wx (Kd.C_below HR.out hb) (Kd.C_below HR1.out hb) (cell_keep hb HGC.out) HL.out.1 HL.out.2 h0 h1)
  obtain ⟨W, hW⟩ : ∃ W, W = ((w.alloc (.cells #[.func (.func 28) #[] #[.pointer (some ⟨gc1, 0, none⟩)]] 49)).alloc (.cells #[.string a2] 9)) := ⟨_, rfl⟩
  have hB : Below w.heap.size w W := by subst hW; exact below_alloc (below_alloc (Below.refl _ _) _) _
  have g0 : W.cell? ⟨w.heap.size, 0, none⟩ = some (.func (.func 28) #[] #[.pointer (some ⟨gc1, 0, none⟩)]) := by subst hW; exact (blk_cell (blk_alloc (by simpa using heap_alloc_new w _) _) 0).trans rfl
  have g1 : W.cell? ⟨w.heap.size + 1, 0, none⟩ = some (.string a2) := by subst hW; exact (blk_cell (g := w.heap.size + 1) (by simpa using heap_alloc_new (w.alloc _) _) 0).trans rfl
  have F := F.out W _ _ hB g0 g1
  have FF := Aside0.mk F
  have HB := Aside0.mk hB
  clear F g0 g1 hB
  subst hW
  go_wp2_with (go_at_call 44; refine FF.out.mono ?_; rintro z w1 ⟨rfl, hb⟩)
  go_ret
  exact ⟨rfl, below_step HB.out hb⟩
-- span.Find at bytes, by a function that tells one span.

-- NOT PRINTED: function 28 (gazetteerlaw5_SpanFinds_1)

/-! ### gazetteerlaw5_SpanFinds_2: function 30 -/
def gazetteerlaw5_SpanFinds_2.f (a0 : Int) : Option (ByteArray × ByteArray) := some ((⟨#[98]⟩ : ByteArray), (⟨#[99]⟩ : ByteArray))
set_option maxHeartbeats 8000000 in
set_option maxRecDepth 100000 in
theorem gazetteerlaw5_SpanFinds_2.calls (a0 : Int) (r1 : ByteArray) (r2 : ByteArray) (w : World) (h : gazetteerlaw5_SpanFinds_2.f a0 = some (r1, r2)) :
    Calls Try.prog 30 #[.int .u8 a0] w fun e w' => e = .returned (.agg #[.string r1, .string r2]) ∧ Below w.heap.size w w' := by
  have hu38 := Try.underlying38
  have HB := Aside0.mk (Below.refl w.heap.size w)
  have H : (some ((⟨#[98]⟩ : ByteArray), (⟨#[99]⟩ : ByteArray))) = some (r1, r2) := h
  clear h
  simp only [Option.some.injEq, Prod.mk.injEq] at H
  obtain ⟨rfl, rfl⟩ := H
  go_enter Try.func30, Try.ntmps30
  go_wp2_with (first | ((with_reducible refine gate_dst (N := 2) rfl ?_); refine box_event ?hg (N := 2) ?hd (cs := #[.string (⟨#[]⟩ : ByteArray), .string (⟨#[]⟩ : ByteArray)]) (t := 38) ?hr ?_; (case hd => rfl); (case hg => rfl); (case hr => first | (go_simp; done) | (go_simp; rfl)); intro gb124 hg w2 hbox hb; have n0_ := Aside0.mk (below_step (by repeat (first | (with_reducible first | exact HB.out | apply below_alloc | apply pw_below_drewN | apply below_drew1) | exact HB.out)) hb); have n1_ := Aside0.mk (hbox); have n2_ := Aside0.mk ((by rw [hg]; exact (below_size (by repeat (first | (with_reducible first | exact HB.out | apply below_alloc | apply pw_below_drewN | apply below_drew1) | exact HB.out))) : w.heap.size ≤ gb124)); have n3_ := Aside0.mk ((by rw [hg]; exact (below_size (by repeat (first | (with_reducible first | exact HB.out | apply below_alloc | apply pw_below_drewN | apply below_drew1) | exact HB.out))) : w.heap.size ≤ gb124)); clear HB; have HB := n0_; have BK124 := n1_; have GW124 := n2_; have GE124 := n3_; clear n0_ n1_ n2_ n3_; clear hb hbox hg; have hcz3_0 : w2.cell? ⟨gb124, 0, none⟩ = some (.string (⟨#[]⟩ : ByteArray)) := (blk_cell BK124.out 0).trans rfl; have hcz3_1 : w2.cell? ⟨gb124, 1, none⟩ = some (.string (⟨#[]⟩ : ByteArray)) := (blk_cell BK124.out 1).trans rfl; have hfz3_0 := blk_frozen BK124.out 0; have hfz3_1 := blk_frozen BK124.out 1))
  refine bodyPost_ret (results_cell_row rfl _ _ gb124 38 #[.string (⟨#[98]⟩ : ByteArray), .string (⟨#[99]⟩ : ByteArray)] (0, 0) _ rfl (by (with_reducible repeat (first | refine blk_drewN ?_ _ | refine blk_drew ?_ | refine blk_alloc ?_ _)); refine blk_put (cs := #[.string (⟨#[98]⟩ : ByteArray), .string (⟨#[]⟩ : ByteArray)]) ?_ 1 _ rfl; (with_reducible repeat (first | refine blk_drewN ?_ _ | refine blk_drew ?_ | refine blk_alloc ?_ _)); refine blk_put (cs := #[.string (⟨#[]⟩ : ByteArray), .string (⟨#[]⟩ : ByteArray)]) ?_ 0 _ rfl; (with_reducible repeat (first | refine blk_drewN ?_ _ | refine blk_drew ?_ | refine blk_alloc ?_ _)); exact BK124.out) Try.underlying38 rfl (by kernel_rfl)) rfl ?_
  exact ⟨by first | rfl | (simp [errW_none, errW_some] <;> rfl) | (simp [*, errW_none, errW_some] <;> rfl), by repeat (first | (with_reducible first | exact HB.out | apply below_alloc | apply pw_below_drewN | apply below_drew1 | refine below_set ?_ GE124.out) | exact HB.out)⟩

/-! ### span_Find_uint8: function 29 -/
def span_Find_uint8.f (l0 : List Int) (a1 : ByteArray) : Option Int := if (l0.length : Int) ≤ 9223372036854775806 then some (if hasB ⟨#[98]⟩ ⟨#[99]⟩ a1 then (if 0 < (l0.length : Int) then 0 else -1) else -1) else none
theorem of2_any (i : Int) (w : World) : Calls Try.prog 30 #[.int .u8 i] w fun r w' => r = .returned (.agg #[.string ⟨#[98]⟩, .string ⟨#[99]⟩]) ∧ Below w.heap.size w w' :=
  gazetteerlaw5_SpanFinds_2.calls i _ _ w rfl
set_option maxHeartbeats 2000000 in
set_option maxRecDepth 100000 in
theorem find2_any (i : Int) (g g' : Nat) (key : ByteArray) (w : World)
    (h0 : w.cell? ⟨g, 0, none⟩ = some (.func (.func 30) #[] #[])) (h1 : w.cell? ⟨g', 0, none⟩ = some (.string key)) :
    Calls Try.prog 47 #[.int .u8 i, .pointer (some ⟨g, 0, none⟩), .pointer (some ⟨g', 0, none⟩)] w
      fun r w' => r = .returned (.bool (hasB ⟨#[98]⟩ ⟨#[99]⟩ key)) ∧ Below w.heap.size w w' := by
  have HB := Aside0.mk (Below.refl w.heap.size w)
  go_enter Try.func47, Try.ntmps47
  go_wp2_with fail
  go_region_held3 (fun w' => w'.cell? ⟨g, 0, none⟩ = some (.func (.func 30) #[] #[]) ∧ w'.cell? ⟨g', 0, none⟩ = some (.string key) ∧ Aside0 (Below w.heap.size w w'))
    (((try dsimp only); (repeat' apply And.intro) <;> (first | go_keep | assumption | (go_split_ands; assumption) | (go_split_ands; apply aside_drew; assumption) | (go_split_ands; apply aside_step; assumption; assumption) | (go_split_ands; apply cell_keep; assumption; assumption))))
    (first
      | (go_at_call 30; refine (of2_any _ _).mono ?_; rintro x w' ⟨rfl, hb⟩)
      | (go_at_call 17; refine (has_any _ _ _ _).mono ?_; rintro x w' ⟨rfl, hb⟩))
  go_wp2
  go_split_ands
  go_ret
  exact ⟨rfl, Aside0.out (by assumption)⟩
set_option maxHeartbeats 2000000 in
set_option maxRecDepth 100000 in
theorem indexFunc2_any (A0 : Option Addr) (c0 : Nat) (l0 : List Int) (g g' : Nat) (key : ByteArray) (w : World) (hr : Kd.C (Kd.int .u8) w A0 l0.length l0) (hl : (l0.length : Int) ≤ 9223372036854775806)
    (h0 : w.cell? ⟨g, 0, none⟩ = some (.func (.func 30) #[] #[])) (h1 : w.cell? ⟨g', 0, none⟩ = some (.string key)) :
    Calls Try.prog 46 #[.slice A0 l0.length c0, .func (.func 47) #[] #[.pointer (some ⟨g, 0, none⟩), .pointer (some ⟨g', 0, none⟩)]] w
      fun r w' => r = .returned (.int .i64 (firstAt (fun _ : Int => hasB ⟨#[98]⟩ ⟨#[99]⟩ key) l0)) ∧ Below w.heap.size w w' := by
  have HR := Aside0.mk hr
  have HL := Aside0.mk hl
  have F1 := Aside0.mk (fun i wx (hb : Below w.heap.size w wx) => find2_any i g g' key wx (cell_keep hb h0) (cell_keep hb h1))
  clear hr h0 h1 hl
  go_enter Try.func46, Try.ntmps46
  go_wp2
  go_loopw [8] (fun i wr => ∃ k : Nat, i = .int .i64 k ∧ Aside0 (k ≤ l0.length) ∧ Aside0 (Below w.heap.size w wr) ∧ Aside0 (∀ j < k, (fun _ : Int => hasB ⟨#[98]⟩ ⟨#[99]⟩ key) (l0.getD j 0) = false)) (fun i _ => l0.length - (intOf i).toNat)
  case atStart => exact ⟨0, rfl, ⟨by omega⟩, ⟨Below.refl _ _⟩, ⟨by omega⟩⟩
  case round =>
    obtain ⟨k, rfl, HK, HB, HA⟩ := hrel
    by_cases hlt : (k : Int) < (l0.length : Int)
    · have hb0 : decide ((k : Int) < (l0.length : Int)) = true := decide_eq_true hlt
      have KL := Aside0.mk (show k < l0.length by omega)
      obtain ⟨ad, e, hx0⟩ := Kd.at_int HR.out k (by omega) hlt
      cases e
      simp only [Int.toNat_natCast] at hx0
      replace hx0 := cell_keep HB.out hx0
      have HW := Aside0.mk (show wrap64 ((k : Int) + 1) = ((k + 1 : Nat) : Int) by have := HL.out; unfold wrap64; omega)
      have p1 := eq_true (show 0 ≤ (k : Int) by omega)
      have q1 := eq_true hlt
      clear hlt
      have F := Aside0.mk (fun wx (hb : Below w.heap.size w wx) => F1.out (rd l0 (k : Int)) wx hb)
      cases hh : hasB ⟨#[98]⟩ ⟨#[99]⟩ key
      · rw [hh] at F
        have HH := Aside0.mk hh
        clear hh
        go_wp2_with (go_at_call 47; refine (F.out _ HB.out).mono ?_; rintro z w1 ⟨rfl, hb⟩; have HB1 := aside_step hb HB; clear hb)
        go_roundw
        case rel =>
          refine ⟨k + 1, by rw [HW.out], ⟨by have := KL.out; omega⟩, HB1, ⟨fun j hj => ?_⟩⟩
          first | exact HH.out | trivial
        case measure => have := KL.out; rw [HW.out]; simp [intOf]; omega
      · rw [hh] at F
        have HH := Aside0.mk hh
        clear hh
        go_wp2_with (go_at_call 47; refine (F.out _ HB.out).mono ?_; rintro z w1 ⟨rfl, hb⟩; have HB1 := aside_step hb HB; clear hb)
        go_ret
        exact ⟨ret_int (firstAt_at (d := (0 : Int)) KL.out HH.out HA.out).symm, HB1.out⟩
    · obtain rfl : k = l0.length := by have := HK.out; omega
      clear hlt
      go_wp2
      go_ret
      exact ⟨ret_int (firstAt_none (d := (0 : Int)) (fun j hj => HA.out j hj)).symm, HB.out⟩
theorem firstAt_const (b : Bool) (l : List Int) : firstAt (fun _ : Int => b) l = (if b then (if 0 < (l.length : Int) then 0 else -1) else -1) := by
  cases l with
  | nil => cases b <;> simp [firstAt]
  | cons x l =>
    cases b
    · simp only [Bool.false_eq_true, if_false]
      exact firstAt_none (d := (0 : Int)) (fun _ _ => rfl)
    · rw [firstAt_at (d := (0 : Int)) (k := 0) (by simp) rfl (by omega)]
      simp
set_option maxHeartbeats 8000000 in
set_option maxRecDepth 100000 in
theorem span_Find_uint8.calls (A0 : Option Addr) (c0 : Nat) (l0 : List Int) (a1 : ByteArray) (r : Int) (w : World) (hr0 : Kd.C (Kd.int .u8) w A0 l0.length l0) (hc0 : l0.length ≤ c0) (h : span_Find_uint8.f l0 a1 = some r) :
    Calls Try.prog 29 #[.slice A0 l0.length c0, .func (.func 30) #[] #[], .string a1] w fun e w' => e = .returned (.int .i64 r) ∧ Below w.heap.size w w' := by
  unfold span_Find_uint8.f at h
  split at h
  case isFalse => cases h
  case isTrue hl =>
  rw [← firstAt_const _ l0] at h
  obtain rfl := Option.some.inj h
  have HR := Aside0.mk hr0
  have HL := Aside0.mk hl
  clear hr0 hc0 h hl
  have he := fun wx => run_eql_func_nil (P := Try.prog) wx 51 (.func 30) #[] #[] Try.underlying51
  have hmf := run_mf (P := Try.prog)
  go_enter Try.func29, Try.ntmps29
  have F := Aside0.mk (fun wx g g' (hb : Below w.heap.size w wx) h0 h1 => indexFunc2_any A0 c0 l0 g g' a1 wx (Kd.C_below HR.out hb) HL.out h0 h1)
  obtain ⟨W, hW⟩ : ∃ W, W = ((w.alloc (.cells #[.func (.func 30) #[] #[]] 51)).alloc (.cells #[.string a1] 9)) := ⟨_, rfl⟩
  have hB : Below w.heap.size w W := by subst hW; exact below_alloc (below_alloc (Below.refl _ _) _) _
  have g0 : W.cell? ⟨w.heap.size, 0, none⟩ = some (.func (.func 30) #[] #[]) := by subst hW; exact (blk_cell (blk_alloc (by simpa using heap_alloc_new w _) _) 0).trans rfl
  have g1 : W.cell? ⟨w.heap.size + 1, 0, none⟩ = some (.string a1) := by subst hW; exact (blk_cell (g := w.heap.size + 1) (by simpa using heap_alloc_new (w.alloc _) _) 0).trans rfl
  have F := F.out W _ _ hB g0 g1
  have FF := Aside0.mk F
  have HB := Aside0.mk hB
  clear F g0 g1 hB
  subst hW
  go_wp2_with (go_at_call 46; refine FF.out.mono ?_; rintro z w1 ⟨rfl, hb⟩)
  go_ret
  exact ⟨rfl, below_step HB.out hb⟩


end Go.Proofs.Ytbfllekkbmeibaa.PSpanFinds

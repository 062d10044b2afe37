-- printed by a program of this session (wip/tools), a turned form of the kit's print
import Derived.Test.YtbfllekkbmeibaaPSpanFindsx0
import Derived.Test.YtbfllekkbmeibaaPSpanFindsx3
namespace Go.Proofs.Ytbfllekkbmeibaa.PSpanFinds
open Go.RowKit Go.Proofs.YtbfllekkbmeibaaW.PrintWords Go.Proofs.YtbfllekkbmeibaaW.PrintLast Go.Proofs.YtbfllekkbmeibaaW.PrintMore
attribute [local go_sem] max2_int min2_int max_two min_two max_three min_three max_four min_four max2_str min2_str str_geq str_leq str_gtr   -- for this text's walks alone
set_option linter.unusedVariables false
set_option linter.unusedSimpArgs false

/-! ### gazetteerlaw5_SpanFinds: function 8 -/
mutual
def gazetteerlaw5_SpanFinds.j0 : Nat → List Int → ByteArray → Bool → List (S38) → Option (Bool)
  | 0, _, _, _, _ => none
  | k + 1, x1, x2, x28, x126000 => if x28 = true then (some true) else (gazetteerlaw5_SpanFinds.l0 k x1 x2 ([] : List Int) 0 x126000)
def gazetteerlaw5_SpanFinds.l0 : Nat → List Int → ByteArray → List Int → Int → List (S38) → Option (Bool)
  | 0, _, _, _, _, _ => none
  | k + 1, x1, x2, x7, x8, x126000 => if x8 < (x126000.length : Int) then (if x7.length < 17592186044416 then (gazetteerlaw5_SpanFinds.l0 k x1 x2 (x7 ++ [wrap64 ((wrap64 ((x126000.length : Int) - 1)) - x8)]) (wrap64 (x8 + 1)) x126000) else (none)) else ((span_Find_int.f x7 x126000 x2).bind fun t131 => (gazetteerlaw5_SpanFinds.l1 k x1 x2 x7 t131 (-1) (wrap64 ((x7.length : Int) - 1)) x126000))
def gazetteerlaw5_SpanFinds.l1 : Nat → List Int → ByteArray → List Int → Int → Int → Int → List (S38) → Option (Bool)
  | 0, _, _, _, _, _, _, _ => none
  | k + 1, x1, x2, x7, x9, x10, x11, x126000 => if x11 ≥ 0 then (if 0 ≤ x11 then (if x11 < (x7.length : Int) then (if 0 ≤ (rd x7 x11) then (if (rd x7 x11) < (x126000.length : Int) then ((gazetteerref5_Has.f ((rd_T38 x126000 (rd x7 x11)).f0) ((rd_T38 x126000 (rd x7 x11)).f1) x2).bind fun t134 => (if t134 = true then (gazetteerlaw5_SpanFinds.l1 k x1 x2 x7 x9 x11 (wrap64 (x11 - 1)) x126000) else (gazetteerlaw5_SpanFinds.l1 k x1 x2 x7 x9 x10 (wrap64 (x11 - 1)) x126000))) else (none)) else (none)) else (none)) else (none)) else ((span_Find_uint8.f x1 x2).bind fun t135 => (if ((Op.bytesLess x2.toList ([98] : List UInt8)) = true) then (if x9 = x10 then (if ((t135 == 0) == false) = true then (some ((t135 == (-1)) == (!false))) else (some false)) else (some false)) else (if (Op.bytesLess x2.toList ([99] : List UInt8)) = true then (if x9 = x10 then (if ((t135 == 0) == (decide ((x1.length : Int) > 0))) = true then (some ((t135 == (-1)) == (!(decide ((x1.length : Int) > 0))))) else (some false)) else (some false)) else (if x9 = x10 then (if ((t135 == 0) == false) = true then (some ((t135 == (-1)) == (!false))) else (some false)) else (some false)))))
end
def gazetteerlaw5_SpanFinds.f (k : Nat) (l0 : List (S38)) (l1 : List Int) (a2 : ByteArray) : Option (Bool) := (gazetteerlaw5_awake.f k).bind fun t126 => (if t126 = true then ((gazetteerlaw5_Few.f k l0).bind fun t127 => (if t127 = true then (if (a2.size : Int) > 300 then (gazetteerlaw5_SpanFinds.j0 k l1 a2 true l0) else (gazetteerlaw5_SpanFinds.j0 k l1 a2 (decide ((l1.length : Int) > 60)) l0)) else (gazetteerlaw5_SpanFinds.j0 k l1 a2 true l0))) else (some false))
theorem gazetteerlaw5_SpanFinds.mono_l : ∀ k, (∀ y0 y1 y2 y3, LeO (gazetteerlaw5_SpanFinds.j0 k y0 y1 y2 y3) (gazetteerlaw5_SpanFinds.j0 (k + 1) y0 y1 y2 y3)) ∧ (∀ y0 y1 y2 y3 y4, LeO (gazetteerlaw5_SpanFinds.l0 k y0 y1 y2 y3 y4) (gazetteerlaw5_SpanFinds.l0 (k + 1) y0 y1 y2 y3 y4)) ∧ (∀ y0 y1 y2 y3 y4 y5 y6, LeO (gazetteerlaw5_SpanFinds.l1 k y0 y1 y2 y3 y4 y5 y6) (gazetteerlaw5_SpanFinds.l1 (k + 1) y0 y1 y2 y3 y4 y5 y6))
  | 0 => ⟨fun _ _ _ _ r h => by simp [gazetteerlaw5_SpanFinds.j0] at h, fun _ _ _ _ _ r h => by simp [gazetteerlaw5_SpanFinds.l0] at h, fun _ _ _ _ _ _ _ r h => by simp [gazetteerlaw5_SpanFinds.l1] at h⟩
  | k + 1 => by
    obtain ⟨ih0, ih1, ih2⟩ := gazetteerlaw5_SpanFinds.mono_l k
    refine ⟨?_, ?_, ?_⟩
    · intro y0 y1 y2 y3
      unfold gazetteerlaw5_SpanFinds.j0
      repeat' first
      | (with_reducible exact ih0 _ _ _ _)
      | (with_reducible exact ih1 _ _ _ _ _)
      | (with_reducible exact ih2 _ _ _ _ _ _ _)
      | (with_reducible exact gazetteerlaw5_Few.mono _ _)
      | (with_reducible exact gazetteerlaw5_awake.mono _)
      | (with_reducible exact LeO.refl _)
      | (with_reducible exact LeO.none _)
      | (with_reducible refine LeO.ite ?_ ?_)
      | (with_reducible refine LeO.bind ?_ (fun _ => ?_))
      | exact ih0 _ _ _ _
      | exact ih1 _ _ _ _ _
      | exact ih2 _ _ _ _ _ _ _
      | exact gazetteerlaw5_Few.mono _ _
      | exact gazetteerlaw5_awake.mono _
      | exact LeO.none _
      | refine LeO.ite ?_ ?_
      | refine LeO.bind ?_ (fun _ => ?_)
    · intro y0 y1 y2 y3 y4
      unfold gazetteerlaw5_SpanFinds.l0
      repeat' first
      | (with_reducible exact ih0 _ _ _ _)
      | (with_reducible exact ih1 _ _ _ _ _)
      | (with_reducible exact ih2 _ _ _ _ _ _ _)
      | (with_reducible exact gazetteerlaw5_Few.mono _ _)
      | (with_reducible exact gazetteerlaw5_awake.mono _)
      | (with_reducible exact LeO.refl _)
      | (with_reducible exact LeO.none _)
      | (with_reducible refine LeO.ite ?_ ?_)
      | (with_reducible refine LeO.bind ?_ (fun _ => ?_))
      | exact ih0 _ _ _ _
      | exact ih1 _ _ _ _ _
      | exact ih2 _ _ _ _ _ _ _
      | exact gazetteerlaw5_Few.mono _ _
      | exact gazetteerlaw5_awake.mono _
      | exact LeO.none _
      | refine LeO.ite ?_ ?_
      | refine LeO.bind ?_ (fun _ => ?_)
    · intro y0 y1 y2 y3 y4 y5 y6
      unfold gazetteerlaw5_SpanFinds.l1
      repeat' first
      | (with_reducible exact ih0 _ _ _ _)
      | (with_reducible exact ih1 _ _ _ _ _)
      | (with_reducible exact ih2 _ _ _ _ _ _ _)
      | (with_reducible exact gazetteerlaw5_Few.mono _ _)
      | (with_reducible exact gazetteerlaw5_awake.mono _)
      | (with_reducible exact LeO.refl _)
      | (with_reducible exact LeO.none _)
      | (with_reducible refine LeO.ite ?_ ?_)
      | (with_reducible refine LeO.bind ?_ (fun _ => ?_))
      | exact ih0 _ _ _ _
      | exact ih1 _ _ _ _ _
      | exact ih2 _ _ _ _ _ _ _
      | exact gazetteerlaw5_Few.mono _ _
      | exact gazetteerlaw5_awake.mono _
      | exact LeO.none _
      | refine LeO.ite ?_ ?_
      | refine LeO.bind ?_ (fun _ => ?_)
theorem gazetteerlaw5_SpanFinds.mono : ∀ a0 a1 a2 k, LeO (gazetteerlaw5_SpanFinds.f k a0 a1 a2) (gazetteerlaw5_SpanFinds.f (k + 1) a0 a1 a2) := by
  intro a0 a1 a2 k
  obtain ⟨ih0, ih1, ih2⟩ := gazetteerlaw5_SpanFinds.mono_l k
  unfold gazetteerlaw5_SpanFinds.f
  repeat' first
      | (with_reducible exact ih0 _ _ _ _)
      | (with_reducible exact ih1 _ _ _ _ _)
      | (with_reducible exact ih2 _ _ _ _ _ _ _)
      | (with_reducible exact gazetteerlaw5_Few.mono _ _)
      | (with_reducible exact gazetteerlaw5_awake.mono _)
      | (with_reducible exact LeO.refl _)
      | (with_reducible exact LeO.none _)
      | (with_reducible refine LeO.ite ?_ ?_)
      | (with_reducible refine LeO.bind ?_ (fun _ => ?_))
      | exact ih0 _ _ _ _
      | exact ih1 _ _ _ _ _
      | exact ih2 _ _ _ _ _ _ _
      | exact gazetteerlaw5_Few.mono _ _
      | exact gazetteerlaw5_awake.mono _
      | exact LeO.none _
      | refine LeO.ite ?_ ?_
      | refine LeO.bind ?_ (fun _ => ?_)
def gazetteerlaw5_SpanFinds.T15 : Bool × List (List Nat × List Nat) := (true, [([], []), ([], []), ([], []), ([1, 2], [1, 2]), ([3], [3]), ([0, 4], [0, 4]), ([5], [5]), ([], []), ([6, 7], [6, 7])])
def gazetteerlaw5_SpanFinds.B15 : List Nat := [0, 0, 0, 6, 14, 31, 63, 0, 255]
theorem gazetteerlaw5_SpanFinds.tab15 : rtab .any (opsOf Try.f8 15) = gazetteerlaw5_SpanFinds.T15 := by kernel_rfl
theorem gazetteerlaw5_SpanFinds.bits15 : waitsOk gazetteerlaw5_SpanFinds.T15.2 gazetteerlaw5_SpanFinds.B15 = true := by kernel_rfl
set_option maxHeartbeats 8000000 in
set_option maxRecDepth 100000 in
theorem gazetteerlaw5_SpanFinds.calls (k : Nat) (A0 : Option Addr) (c0 : Nat) (l0 : List (S38)) (A1 : Option Addr) (c1 : Nat) (l1 : List Int) (a2 : ByteArray) (r : Bool) (w : World) (hr0 : Kd.C k38 w A0 l0.length l0) (hc0 : l0.length ≤ c0) (hr1 : Kd.C (Kd.int .u8) w A1 l1.length l1) (hc1 : l1.length ≤ c1) (HLT0 : r = true) (h : gazetteerlaw5_SpanFinds.f k l0 l1 a2 = some r) :
    Calls Try.prog 8 #[.slice A0 l0.length c0, .slice A1 l1.length c1, .string a2] w fun e w' => e = .returned (.bool r) ∧ Below w.heap.size w w' := by
  have hu38 := Try.underlying38
  have HLT := Aside0.mk HLT0
  clear HLT0
  have HR0 := Aside0.mk hr0
  have HC0 := Aside0.mk hc0
  clear hr0 hc0
  have HR1 := Aside0.mk hr1
  have HC1 := Aside0.mk hc1
  clear hr1 hc1
  have HB := Aside0.mk (Below.refl w.heap.size w)
  have H : ((gazetteerlaw5_awake.f k).bind fun t126 => (if t126 = true then ((gazetteerlaw5_Few.f k l0).bind fun t127 => (if t127 = true then (if (a2.size : Int) > 300 then (gazetteerlaw5_SpanFinds.j0 k l1 a2 true l0) else (gazetteerlaw5_SpanFinds.j0 k l1 a2 (decide ((l1.length : Int) > 60)) l0)) else (gazetteerlaw5_SpanFinds.j0 k l1 a2 true l0))) else (some false))) = some r := h
  clear h
  replace H := Option.bind_eq_some_iff.mp H
  obtain ⟨t126, A40, H⟩ := H
  replace H : (if t126 = true then ((gazetteerlaw5_Few.f k l0).bind fun t127 => (if t127 = true then (if (a2.size : Int) > 300 then (gazetteerlaw5_SpanFinds.j0 k l1 a2 true l0) else (gazetteerlaw5_SpanFinds.j0 k l1 a2 (decide ((l1.length : Int) > 60)) l0)) else (gazetteerlaw5_SpanFinds.j0 k l1 a2 true l0))) else (some false)) = some r := H
  have A4 := Aside0.mk A40
  clear A40
  by_cases c5 : t126 = true
  · subst c5
    have H1 : ((gazetteerlaw5_Few.f k l0).bind fun t127 => (if t127 = true then (if (a2.size : Int) > 300 then (gazetteerlaw5_SpanFinds.j0 k l1 a2 true l0) else (gazetteerlaw5_SpanFinds.j0 k l1 a2 (decide ((l1.length : Int) > 60)) l0)) else (gazetteerlaw5_SpanFinds.j0 k l1 a2 true l0))) = some r := by rw [if_pos rfl] at H; exact H
    clear H
    have H := H1
    clear H1
    have HC6 := Aside0.mk H
    clear H
    go_enter Try.func8, Try.ntmps8
    go_upto_region 3 with (first | ((with_reducible refine gate_dst (N := 3) rfl ?_); (try (refine gate_guard (by rfl) ?_; dsimp only)); refine box_event ?hg (N := 3) ?hd (cs := #[.slice A0 l0.length c0]) (t := 34) ?hr ?_; (case hd => rfl); (case hg => rfl); (case hr => first | (go_simp; done) | (go_simp; rfl)); intro gb125 hg w7 hbox hb; have n0_ := Aside0.mk (below_step (by repeat (first | (with_reducible first | exact HB.out | apply below_alloc | apply pw_below_drewN | apply below_drew1) | exact HB.out)) hb); have n1_ := Aside0.mk (hbox); have n2_ := Aside0.mk ((by rw [hg]; exact (below_size (by repeat (first | (with_reducible first | exact HB.out | apply below_alloc | apply pw_below_drewN | apply below_drew1) | exact HB.out))) : w.heap.size ≤ gb125)); have n3_ := Aside0.mk ((by rw [hg]; exact (below_size (by repeat (first | (with_reducible first | exact HB.out | apply below_alloc | apply pw_below_drewN | apply below_drew1) | exact HB.out))) : w.heap.size ≤ gb125)); clear HB; have HB := n0_; have BK125 := n1_; have GW125 := n2_; have GE125 := n3_; clear n0_ n1_ n2_ n3_; clear hb hbox hg) | ((with_reducible refine gate_callee (f := 15) rfl ?_); refine goesL_ (some 14) rfl rfl Try.func15 (by kernel_rfl) rfl #[] rfl (by (try simp only [List.map_toArray, List.map_cons, List.map_nil]); first | done | rfl | (simp only [List.length_drop, List.length_take]; done) | (simp only [List.length_drop, List.length_take]; rfl)) ?_; (with_reducible refine (gazetteerlaw5_awake.calls k  true _ A4.out).mono ?_); rintro e w8 ⟨rfl, hb⟩; refine ⟨_, rfl, ?_⟩; have n0_ := Aside0.mk (blk_below (g := gb125) (o := .cells #[.slice A0 l0.length c0] 34 (0, 0)) (by (with_reducible repeat (first | refine blk_drewN ?_ _ | refine blk_drew ?_ | refine blk_alloc ?_ _)); exact BK125.out) hb); have n1_ := Aside0.mk (below_step (by repeat (first | (with_reducible first | exact HB.out | apply below_alloc | apply pw_below_drewN | apply below_drew1 | refine below_set ?_ GE125.out) | exact HB.out)) hb); clear BK125; clear HB; have BK125 := n0_; have HB := n1_; clear n0_ n1_; (try clear hb); (try clear hb2); (try clear hk); (try clear hi)))
    (try simp only [Act.put, List.setIfInBounds_toArray, List.set_cons_zero, List.set_cons_succ])
    go_cut [28] (fun v28 wc => ∃ (kq : Nat) (x28_5 : Bool), v28 = .bool x28_5 ∧ Aside0 (gazetteerlaw5_SpanFinds.j0 kq l1 a2 x28_5 l0 = some r) ∧ Aside0 (kq ≤ k) ∧ Aside0 (wc.heap[gb125]? = some (.cells #[(.slice A0 l0.length c0)] 34 (0, 0))) ∧ Aside0 (Below w.heap.size w wc))
    case first =>
      have H := HC6.out
      clear HC6
      replace H := Option.bind_eq_some_iff.mp H
      obtain ⟨t127, A90, H⟩ := H
      replace H : (if t127 = true then (if (a2.size : Int) > 300 then (gazetteerlaw5_SpanFinds.j0 k l1 a2 true l0) else (gazetteerlaw5_SpanFinds.j0 k l1 a2 (decide ((l1.length : Int) > 60)) l0)) else (gazetteerlaw5_SpanFinds.j0 k l1 a2 true l0)) = some r := H
      have A9 := Aside0.mk A90
      clear A90
      by_cases c10 : t127 = true
      · subst c10
        have H1 : (if (a2.size : Int) > 300 then (gazetteerlaw5_SpanFinds.j0 k l1 a2 true l0) else (gazetteerlaw5_SpanFinds.j0 k l1 a2 (decide ((l1.length : Int) > 60)) l0)) = some r := by rw [if_pos rfl] at H; exact H
        clear H
        have H := H1
        clear H1
        by_cases c11 : (a2.size : Int) > 300
        · rw [if_pos c11] at H
          have c11b0 : decide (300 < (a2.size : Int)) = true := decide_eq_true c11
          have c11b1 : decide (300 < a2.size) = true := decide_eq_true (by omega)
          clear c11
          (first | rw [c11b0] | (simp only [i64_w, i32_w]; rw [c11b0]) | skip)
          have H' := Aside0.mk H
          clear H
          have hcz12_0 : w8.cell? ⟨gb125, 0, none⟩ = some (.slice A0 l0.length c0) := (blk_cell BK125.out 0).trans rfl
          have hfz12_0 := blk_frozen BK125.out 0
          go_wp2_with (first | ((with_reducible refine gate_callee (f := 19) rfl ?_); refine goesL_ (some 17) rfl rfl Try.func19 (by kernel_rfl) rfl #[.slice A0 l0.length c0] rfl (by (try simp only [List.map_toArray, List.map_cons, List.map_nil]); first | done | rfl | (simp only [List.length_drop, List.length_take]; done) | (simp only [List.length_drop, List.length_take]; rfl)) ?_; (with_reducible refine (gazetteerlaw5_Few.calls k _ _ l0 true _ ?side1 ?side2 A9.out).mono ?_); (case side1 => repeat (first | exact (Kd.C_below HR0.out HB.out) | (with_reducible refine Kd.C_alloc ?_ _) | (with_reducible refine Kd.C_drewN ?_ _) | (with_reducible refine Kd.C_drew ?_))); (case side2 => exact HC0.out); rintro e w' ⟨rfl, ⟨nd, rfl⟩⟩; refine ⟨_, rfl, ?_⟩))
          go_meet
          case rel => exact ⟨_, (true), (by first | rfl | (simp; done) | (simp [*]; done)), H', ⟨by first | omega | exact Nat.le_refl _⟩, ⟨by (with_reducible repeat (first | refine blk_drewN ?_ _ | refine blk_drew ?_ | refine blk_alloc ?_ _)); exact BK125.out⟩, ⟨by repeat (first | (with_reducible first | exact HB.out | apply below_alloc | apply pw_below_drewN | apply below_drew1 | refine below_set ?_ GE125.out) | exact HB.out)⟩⟩
        · rw [if_neg c11] at H
          have c11b0 : decide (300 < (a2.size : Int)) = false := decide_eq_false c11
          have c11b1 : decide (300 < a2.size) = false := decide_eq_false (by omega)
          clear c11
          (first | rw [c11b0] | (simp only [i64_w, i32_w]; rw [c11b0]) | skip)
          have H' := Aside0.mk H
          clear H
          have hcz13_0 : w8.cell? ⟨gb125, 0, none⟩ = some (.slice A0 l0.length c0) := (blk_cell BK125.out 0).trans rfl
          have hfz13_0 := blk_frozen BK125.out 0
          go_wp2_with (first | ((with_reducible refine gate_callee (f := 19) rfl ?_); refine goesL_ (some 17) rfl rfl Try.func19 (by kernel_rfl) rfl #[.slice A0 l0.length c0] rfl (by (try simp only [List.map_toArray, List.map_cons, List.map_nil]); first | done | rfl | (simp only [List.length_drop, List.length_take]; done) | (simp only [List.length_drop, List.length_take]; rfl)) ?_; (with_reducible refine (gazetteerlaw5_Few.calls k _ _ l0 true _ ?side1 ?side2 A9.out).mono ?_); (case side1 => repeat (first | exact (Kd.C_below HR0.out HB.out) | (with_reducible refine Kd.C_alloc ?_ _) | (with_reducible refine Kd.C_drewN ?_ _) | (with_reducible refine Kd.C_drew ?_))); (case side2 => exact HC0.out); rintro e w' ⟨rfl, ⟨nd, rfl⟩⟩; refine ⟨_, rfl, ?_⟩))
          go_meet
          case rel => exact ⟨_, (decide ((l1.length : Int) > 60)), (by first | rfl | (simp; done) | (simp [*]; done)), H', ⟨by first | omega | exact Nat.le_refl _⟩, ⟨by (with_reducible repeat (first | refine blk_drewN ?_ _ | refine blk_drew ?_ | refine blk_alloc ?_ _)); exact BK125.out⟩, ⟨by repeat (first | (with_reducible first | exact HB.out | apply below_alloc | apply pw_below_drewN | apply below_drew1 | refine below_set ?_ GE125.out) | exact HB.out)⟩⟩
      · replace c10 := Bool.eq_false_iff.mpr c10
        subst c10
        have H1 : (gazetteerlaw5_SpanFinds.j0 k l1 a2 true l0) = some r := by rw [if_neg (show ¬ (false = true) by decide)] at H; exact H
        clear H
        have H := H1
        clear H1
        have H' := Aside0.mk H
        clear H
        have hcz14_0 : w8.cell? ⟨gb125, 0, none⟩ = some (.slice A0 l0.length c0) := (blk_cell BK125.out 0).trans rfl
        have hfz14_0 := blk_frozen BK125.out 0
        go_wp2_with (first | ((with_reducible refine gate_callee (f := 19) rfl ?_); refine goesL_ (some 17) rfl rfl Try.func19 (by kernel_rfl) rfl #[.slice A0 l0.length c0] rfl (by (try simp only [List.map_toArray, List.map_cons, List.map_nil]); first | done | rfl | (simp only [List.length_drop, List.length_take]; done) | (simp only [List.length_drop, List.length_take]; rfl)) ?_; (with_reducible refine (gazetteerlaw5_Few.calls k _ _ l0 false _ ?side1 ?side2 A9.out).mono ?_); (case side1 => repeat (first | exact (Kd.C_below HR0.out HB.out) | (with_reducible refine Kd.C_alloc ?_ _) | (with_reducible refine Kd.C_drewN ?_ _) | (with_reducible refine Kd.C_drew ?_))); (case side2 => exact HC0.out); rintro e w' ⟨rfl, ⟨nd, rfl⟩⟩; refine ⟨_, rfl, ?_⟩))
        go_meet
        case rel => exact ⟨_, (true), (by first | rfl | (simp; done) | (simp [*]; done)), H', ⟨by first | omega | exact Nat.le_refl _⟩, ⟨by (with_reducible repeat (first | refine blk_drewN ?_ _ | refine blk_drew ?_ | refine blk_alloc ?_ _)); exact BK125.out⟩, ⟨by repeat (first | (with_reducible first | exact HB.out | apply below_alloc | apply pw_below_drewN | apply below_drew1 | refine below_set ?_ GE125.out) | exact HB.out)⟩⟩
    case rest =>
      clear HC6
      try clear c1
      try clear p2
      try clear c5
      try clear c8
      try clear c10
      try clear c11
      try clear c11b0
      try clear c11b1
      try clear hcz12_0
      try clear hcz13_0
      try clear hcz14_0
      try clear hfz12_0
      try clear hfz13_0
      try clear hfz14_0
      obtain ⟨kq, x28_5, rfl, HA, HJ5, BK125, HB⟩ := hcut
      cases kq with
      | zero => exact absurd HA.out (by simp [gazetteerlaw5_SpanFinds.j0])
      | succ kj5 =>
        have H := HA.out
        clear HA
        simp only [gazetteerlaw5_SpanFinds.j0] at H
        by_cases c15 : x28_5 = true
        · subst c15
          have H1 : (some true) = some r := by rw [if_pos rfl] at H; exact H
          clear H
          have H := H1
          clear H1
          obtain rfl := Option.some.inj H
          go_wp2
          go_ret
          exact ⟨by first | rfl | (simp [errW_none, errW_some] <;> rfl) | (simp [*, errW_none, errW_some] <;> rfl), by repeat (first | (with_reducible first | exact HB.out | apply below_alloc | apply pw_below_drewN | apply below_drew1 | refine below_set ?_ GE125.out) | exact HB.out)⟩
        · replace c15 := Bool.eq_false_iff.mpr c15
          subst c15
          have H1 : (gazetteerlaw5_SpanFinds.l0 kj5 l1 a2 ([] : List Int) 0 l0) = some r := by rw [if_neg (show ¬ (false = true) by decide)] at H; exact H
          clear H
          have H := H1
          clear H1
          have H' := Aside0.mk H
          clear H
          go_wp2
          go_loopg [7, 8] kj5 (fun kq v7 v8 w' => ∃ (x7_2 : List Int) (x8_2 : Int), v8 = .int .i64 x8_2 ∧ Aside0 (gazetteerlaw5_SpanFinds.l0 kq l1 a2 x7_2 x8_2 l0 = some r) ∧ Aside0 (kq ≤ kj5) ∧ Aside0 (Kd.R (Kd.int .i64) 3 w' w.heap.size (fun _ => True) v7 x7_2) ∧ Aside0 (w'.heap[gb125]? = some (.cells #[(.slice A0 l0.length c0)] 34 (0, 0))) ∧ Aside0 (Below w.heap.size w w'))
          case atStart => exact ⟨(([] : List Int)), (0), (by first | rfl | (simp; done) | (simp [*]; done)), H', ⟨Nat.le_refl _⟩, ⟨by first | exact Kd.R_nil _ _ _ _ _ | exact Kd.N_nil _ _ _ _ _ | exact Kd.V_nil _ _ _ _ _ | exact Kd.Q_nil _ _ _ _ _ | exact Kd.S_nil _ _ _ _ _⟩, ⟨by (with_reducible repeat (first | refine blk_drewN ?_ _ | refine blk_drew ?_ | refine blk_alloc ?_ _)); exact BK125.out⟩, ⟨by repeat (first | (with_reducible first | exact HB.out | apply below_alloc | apply pw_below_drewN | apply below_drew1 | refine below_set ?_ GE125.out) | exact HB.out)⟩⟩
          case round =>
            clear H'
            try clear c1
            try clear p2
            try clear c5
            try clear c8
            try clear c10
            try clear c11
            try clear c11b0
            try clear c11b1
            try clear c15
            try clear hcz12_0
            try clear hcz13_0
            try clear hcz14_0
            try clear hfz12_0
            try clear hfz13_0
            try clear hfz14_0
            try clear p2
            obtain ⟨x7_2, x8_2, rfl, HA, HK2, HO_7, BK125, HB⟩ := hrel
            cases gk with
            | zero => exact absurd HA.out (by simp [gazetteerlaw5_SpanFinds.l0])
            | succ k2 =>
              have H := HA.out
              clear HA
              simp only [gazetteerlaw5_SpanFinds.l0] at H
              by_cases c16 : x8_2 < (l0.length : Int)
              · rw [if_pos c16] at H
                have c16b0 : decide (x8_2 < (l0.length : Int)) = true := decide_eq_true c16
                clear c16
                by_cases c17 : x7_2.length < 17592186044416
                · rw [if_pos c17] at H
                  have LMc17 := Aside0.mk c17
                  clear c17
                  obtain ⟨y128, hy128⟩ : ∃ y_ : List Int, y_ = (x7_2 ++ [wrap64 ((wrap64 ((l0.length : Int) - 1)) - x8_2)]) := ⟨_, rfl⟩
                  replace H : (gazetteerlaw5_SpanFinds.l0 k2 l1 a2 y128 (wrap64 (x8_2 + 1)) l0) = some r := by first | (rw [hy128]; with_reducible exact H) | (have H2_ := (Option.bind_some _ _).symm.trans H; rw [hy128]; with_reducible exact H2_) | (have H2_ := (Option.bind_some _ _).symm.trans H; with_reducible exact H2_) | with_reducible exact H | (rw [hy128]; exact H) | exact H
                  have Ny128 := Aside0.mk hy128
                  clear hy128
                  have H' := Aside0.mk H
                  clear H
                  have hcz18_0 : wr.cell? ⟨gb125, 0, none⟩ = some (.slice A0 l0.length c0) := (blk_cell BK125.out 0).trans rfl
                  have hfz18_0 := blk_frozen BK125.out 0
                  go_wp2_with (first | ((with_reducible refine gate_builtin (b := .append) (xs := #[.tmp 35, .tmp 41]) rfl ?_); (try (refine gate_guard (by rfl) ?_; dsimp only)); at_builtin; refine Kd.R_append (Kd.int .i64) (w0 := w) w.heap.size rfl (.tmp 35) (.tmp 41) 47 3 (.int .i64 0) 8 rfl Try.underlying47 info3 rfl (by decide) (by omega) u7 x7_2 (wrap64 ((wrap64 ((l0.length : Int) - 1)) - x8_2)) [.int .i64 (wrap64 ((wrap64 ((l0.length : Int) - 1)) - x8_2))] (fun _ => True) (fun _ => False) rfl rfl ?aP (fun _ hk => hk.elim) ?aF ?aO ?aB ?aS ?aL ?_; (case aP => exact rfl); (case aB => exact (by repeat (first | (with_reducible first | exact HB.out | apply below_alloc | apply pw_below_drewN | apply below_drew1 | refine below_set ?_ GE125.out) | exact HB.out))); (case aF => exact (fun _ _ => trivial)); (case aO => exact (by (with_reducible repeat (first | apply Kd.R_alloc | apply Kd.R_drewN | apply Kd.R_drew)); exact HO_7.out)); (case aS => exact (below_size (by repeat (first | (with_reducible first | exact HB.out | apply below_alloc | apply pw_below_drewN | apply below_drew1 | refine below_set ?_ GE125.out) | exact HB.out)))); (case aL => have := LMc17.out; omega); intro v129 w19 ho hb hg hat; rw [← Ny128.out] at ho; have n0_ := Aside0.mk (blk_grown (g := gb125) (o := .cells #[.slice A0 l0.length c0] 34 (0, 0)) (by (with_reducible repeat (first | refine blk_drewN ?_ _ | refine blk_drew ?_ | refine blk_alloc ?_ _)); exact BK125.out) hg (Kd.R_ne HO_7.out BK125.out (by decide))); have n1_ := Aside0.mk (hb); have n2_ := Aside0.mk (ho); clear BK125; clear HB; clear HO_7; have BK125 := n0_; have HB := n1_; have HO130 := n2_; clear n0_ n1_ n2_; clear ho hb hg hat))
                  go_roundg k2
                  case measure => have := HJ5.out; have := HK2.out; omega
                  case rel => exact ⟨(y128), (wrap64 (x8_2 + 1)), (by first | rfl | (simp; done) | (simp [*]; done)), H', ⟨by have := HJ5.out; have := HK2.out; omega⟩, ⟨by (with_reducible repeat (first | apply Kd.R_alloc | apply Kd.R_drewN | apply Kd.R_drew)); exact HO130.out⟩, ⟨by (with_reducible repeat (first | refine blk_drewN ?_ _ | refine blk_drew ?_ | refine blk_alloc ?_ _)); exact BK125.out⟩, ⟨by repeat (first | (with_reducible first | exact HB.out | apply below_alloc | apply pw_below_drewN | apply below_drew1 | refine below_set ?_ GE125.out) | exact HB.out)⟩⟩
                · rw [if_neg c17] at H
                  exact absurd H (by simp)
              · rw [if_neg c16] at H
                have c16b0 : decide (x8_2 < (l0.length : Int)) = false := decide_eq_false c16
                clear c16
                replace H := Option.bind_eq_some_iff.mp H
                obtain ⟨t131, A200, H⟩ := H
                replace H : (gazetteerlaw5_SpanFinds.l1 k2 l1 a2 x7_2 t131 (-1) (wrap64 ((x7_2.length : Int) - 1)) l0) = some r := H
                have A20 := Aside0.mk A200
                clear A200
                have H' := Aside0.mk H
                clear H
                have hcz21_0 : wr.cell? ⟨gb125, 0, none⟩ = some (.slice A0 l0.length c0) := (blk_cell BK125.out 0).trans rfl
                have hfz21_0 := blk_frozen BK125.out 0
                obtain ⟨Ao22, co22, eo22⟩ := Kd.R_slice HO_7.out
                subst eo22
                go_wp2_with (first | ((with_reducible refine gate_callee (f := 27) rfl ?_); refine goesL_ (some 46) rfl rfl Try.func27 (by kernel_rfl) rfl #[.slice Ao22 x7_2.length co22, .func (.func 28) #[] #[.pointer (some ⟨gb125, 0, none⟩)], .string a2] rfl (by (try simp only [List.map_toArray, List.map_cons, List.map_nil]); first | done | rfl | (simp only [List.length_drop, List.length_take]; done) | (simp only [List.length_drop, List.length_take]; rfl)) ?_; (with_reducible refine (span_Find_int.calls _ _ x7_2 _ _ l0 a2 t131 _ ?side1 ?side2 ?side3 ?side4 A20.out).mono ?_); (case side1 => repeat (first | exact (Kd.R_reads' HO_7.out).2.2 | (with_reducible refine Kd.C_alloc ?_ _) | (with_reducible refine Kd.C_drewN ?_ _) | (with_reducible refine Kd.C_drew ?_))); (case side2 => exact (Kd.R_reads' HO_7.out).2.1); (case side3 => repeat (first | exact (Kd.C_below HR0.out HB.out) | (with_reducible refine Kd.C_alloc ?_ _) | (with_reducible refine Kd.C_drewN ?_ _) | (with_reducible refine Kd.C_drew ?_))); (case side4 => exact HC0.out); rintro e w23 ⟨rfl, hb⟩; refine ⟨_, rfl, ?_⟩; have n0_ := Aside0.mk (Kd.R_below (by (with_reducible repeat (first | apply Kd.R_alloc | apply Kd.R_drewN | apply Kd.R_drew)); exact HO_7.out) hb); have n1_ := Aside0.mk (blk_below (g := gb125) (o := .cells #[.slice A0 l0.length c0] 34 (0, 0)) (by (with_reducible repeat (first | refine blk_drewN ?_ _ | refine blk_drew ?_ | refine blk_alloc ?_ _)); exact BK125.out) hb); have n2_ := Aside0.mk (below_step (by repeat (first | (with_reducible first | exact HB.out | apply below_alloc | apply pw_below_drewN | apply below_drew1 | refine below_set ?_ GE125.out) | exact HB.out)) hb); clear HO_7; clear BK125; clear HB; have HO_7 := n0_; have BK125 := n1_; have HB := n2_; clear n0_ n1_ n2_; (try clear hb); (try clear hb2); (try clear hk); (try clear hi)))
                go_loopg [10, 11] k2 (fun kq v10 v11 w' => ∃ (x10_3 : Int) (x11_3 : Int), v10 = .int .i64 x10_3 ∧ v11 = .int .i64 x11_3 ∧ Aside0 (gazetteerlaw5_SpanFinds.l1 kq l1 a2 x7_2 t131 x10_3 x11_3 l0 = some r) ∧ Aside0 (kq ≤ k2) ∧ Aside0 (Kd.R (Kd.int .i64) 3 w' w.heap.size (fun _ => True) (.slice Ao22 x7_2.length co22) x7_2) ∧ Aside0 (w'.heap[gb125]? = some (.cells #[(.slice A0 l0.length c0)] 34 (0, 0))) ∧ Aside0 (Below w.heap.size w w'))
                case atStart => exact ⟨((-1)), (wrap64 ((x7_2.length : Int) - 1)), (by first | rfl | (simp; done) | (simp [*]; done)), (by first | rfl | (simp; done) | (simp [*]; done)), H', ⟨Nat.le_refl _⟩, ⟨by (with_reducible repeat (first | apply Kd.R_alloc | apply Kd.R_drewN | apply Kd.R_drew)); exact HO_7.out⟩, ⟨by (with_reducible repeat (first | refine blk_drewN ?_ _ | refine blk_drew ?_ | refine blk_alloc ?_ _)); exact BK125.out⟩, ⟨by repeat (first | (with_reducible first | exact HB.out | apply below_alloc | apply pw_below_drewN | apply below_drew1 | refine below_set ?_ GE125.out) | exact HB.out)⟩⟩
                case round =>
                  clear H'
                  try clear c1
                  try clear c2
                  try clear p2
                  try clear c5
                  try clear p6
                  try clear c8
                  try clear c10
                  try clear c11
                  try clear c11b0
                  try clear c11b1
                  try clear c15
                  try clear c16
                  try clear c16b0
                  try clear c17
                  try clear c19
                  try clear hcz12_0
                  try clear hcz13_0
                  try clear hcz14_0
                  try clear hcz18_0
                  try clear hcz21_0
                  try clear hfz12_0
                  try clear hfz13_0
                  try clear hfz14_0
                  try clear hfz18_0
                  try clear hfz21_0
                  try clear p2
                  obtain ⟨x10_3, x11_3, rfl, rfl, HA, HK3, HO_7, BK125, HB⟩ := hrel
                  cases gk with
                  | zero => exact absurd HA.out (by simp [gazetteerlaw5_SpanFinds.l1])
                  | succ k3 =>
                    have H := HA.out
                    clear HA
                    simp only [gazetteerlaw5_SpanFinds.l1] at H
                    by_cases c24 : x11_3 ≥ 0
                    · rw [if_pos c24] at H
                      have c24b0 : decide (0 ≤ x11_3) = true := decide_eq_true c24
                      clear c24
                      by_cases c25 : 0 ≤ x11_3
                      · rw [if_pos c25] at H
                        have c25b0 : decide (0 ≤ x11_3) = true := decide_eq_true c25
                        clear c25
                        by_cases c26 : x11_3 < (x7_2.length : Int)
                        · rw [if_pos c26] at H
                          have c26b0 : decide (x11_3 < (x7_2.length : Int)) = true := decide_eq_true c26
                          clear c26
                          by_cases c27 : 0 ≤ (rd x7_2 x11_3)
                          · rw [if_pos c27] at H
                            have c27b0 : decide (0 ≤ (rd x7_2 x11_3)) = true := decide_eq_true c27
                            clear c27
                            by_cases c28 : (rd x7_2 x11_3) < (l0.length : Int)
                            · rw [if_pos c28] at H
                              have c28b0 : decide ((rd x7_2 x11_3) < (l0.length : Int)) = true := decide_eq_true c28
                              clear c28
                              replace H := Option.bind_eq_some_iff.mp H
                              obtain ⟨t134, A290, H⟩ := H
                              replace H : (if t134 = true then (gazetteerlaw5_SpanFinds.l1 k3 l1 a2 x7_2 t131 x11_3 (wrap64 (x11_3 - 1)) l0) else (gazetteerlaw5_SpanFinds.l1 k3 l1 a2 x7_2 t131 x10_3 (wrap64 (x11_3 - 1)) l0)) = some r := H
                              have A29 := Aside0.mk A290
                              clear A290
                              by_cases c30 : t134 = true
                              · subst c30
                                have H1 : (gazetteerlaw5_SpanFinds.l1 k3 l1 a2 x7_2 t131 x11_3 (wrap64 (x11_3 - 1)) l0) = some r := by rw [if_pos rfl] at H; exact H
                                clear H
                                have H := H1
                                clear H1
                                have H' := Aside0.mk H
                                clear H
                                try go_wp2
                                have n0_ := Aside0.mk (Kd.R_drew HO_7.out)
                                have n1_ := Aside0.mk (blk_drew BK125.out)
                                have n2_ := Aside0.mk (below_drew1 HB.out)
                                clear HO_7
                                clear BK125
                                clear HB
                                have HO_7 := n0_
                                have BK125 := n1_
                                have HB := n2_
                                clear n0_ n1_ n2_
                                have p132 : 0 ≤ (x11_3 : Int) := of_decide_eq_true (by first | (with_reducible assumption) | assumption)
                                have q132 : x11_3 < (x7_2.length : Int) := of_decide_eq_true (by first | (with_reducible assumption) | assumption)
                                obtain ⟨ad132, e132, hx132_0⟩ := Kd.at_int (Kd.R_reads' HO_7.out).2.2 x11_3 p132 q132
                                cases e132
                                replace p132 := eq_true p132
                                replace q132 := eq_true q132
                                have p133 : 0 ≤ ((rd x7_2 x11_3) : Int) := of_decide_eq_true (by first | (with_reducible assumption) | assumption)
                                have q133 : (rd x7_2 x11_3) < (l0.length : Int) := of_decide_eq_true (by first | (with_reducible assumption) | assumption)
                                obtain ⟨ad133, e133, hx133_0, hx133_1⟩ := at_T38 HR0.out (rd x7_2 x11_3) p133 q133
                                have hw133_1 := hx133_1
                                have hw133_0 := hx133_0
                                cases e133
                                replace hx133_0 := (HB.out.cell (World.block_lt_of_cell? w _ hx133_0)).trans hx133_0
                                replace hx133_1 := (HB.out.cell (World.block_lt_of_cell? w _ hx133_1)).trans hx133_1
                                replace p133 := eq_true p133
                                replace q133 := eq_true q133
                                refine start_ (n := 9) (S := fun w' => w'.cell? ⟨gb125, 0, none⟩ = some (.slice (some ad133) l0.length c0) ∧ w'.cell? (ad132.add (x11_3).toNat) = some (.int .i64 (rd x7_2 x11_3)) ∧ w'.cell? (ad133.add (((rd x7_2 x11_3)).toNat * 2)) = some (.string ((rd_T38 l0 (rd x7_2 x11_3)).f0)) ∧ w'.cell? ⟨(ad133.add (((rd x7_2 x11_3)).toNat * 2)).block, (ad133.add (((rd x7_2 x11_3)).toNat * 2)).off + 1, none⟩ = some (.string ((rd_T38 l0 (rd x7_2 x11_3)).f1))) (ds := []) #[false, false, false, false, false, false, false, false, false] (by kernel_rfl) rfl rfl ⟨(blk_cell BK125.out 0).trans rfl, hx132_0, ((HB.out.cell (World.block_lt_of_cell? w _ hw133_0)).trans hw133_0), ((HB.out.cell (World.block_lt_of_cell? w _ hw133_1)).trans hw133_1)⟩ (fun hHeld => ?_); refine with_tabW gazetteerlaw5_SpanFinds.tab15 gazetteerlaw5_SpanFinds.bits15 (fun HT_ HW_ => ?_)
                                generalize wr.drew = w31 at HO_7 BK125 HB hx132_0 hx133_0 hx133_1 hHeld ⊢
                                refine pure_ (i := 1) (N := some 55) (v := ?_) (a' := ?_) #[false, true, false, false, false, false, false, false, false] rfl rfl (any_of HT_.out (by kernel_rfl)) (fun _ _ _ h => h) (Or.inl ⟨by rfl, ?_⟩) ?_ ?_
                                rotate_left
                                · intro w'
                                  go_simp
                                  with_reducible rfl
                                rotate_left
                                · simp only [Act.put, List.setIfInBounds_toArray, List.set_cons_zero, List.set_cons_succ, i64_w, i32_w]
                                  rfl
                                refine pure_ (i := 2) (N := some 56) (v := ?_) (a' := ?_) #[false, true, true, false, false, false, false, false, false] rfl rfl (any_of HT_.out (by kernel_rfl)) (fun _ _ _ h => h) (Or.inl ⟨by rfl, ?_⟩) ?_ ?_
                                rotate_left
                                · intro w'
                                  go_simp
                                  with_reducible rfl
                                rotate_left
                                · simp only [Act.put, List.setIfInBounds_toArray, List.set_cons_zero, List.set_cons_succ, i64_w, i32_w]
                                  rfl
                                refine pure_ (i := 3) (N := some 57) (v := ?_) (a' := ?_) #[false, true, true, true, false, false, false, false, false] rfl rfl (any_of HT_.out (by kernel_rfl)) (fun _ _ _ h => h) (Or.inl ⟨by rfl, ?_⟩) ?_ ?_
                                rotate_left
                                · intro w'
                                  go_simp
                                  with_reducible rfl
                                rotate_left
                                · simp only [Act.put, List.setIfInBounds_toArray, List.set_cons_zero, List.set_cons_succ, i64_w, i32_w]
                                  rfl
                                refine pure_ (i := 7) (N := some 61) (v := ?_) (a' := ?_) #[false, true, true, true, false, false, false, true, false] rfl rfl (any_of HT_.out (by kernel_rfl)) (fun _ _ _ h => h) (Or.inl ⟨by rfl, ?_⟩) ?_ ?_
                                rotate_left
                                · intro w'
                                  go_simp
                                  with_reducible rfl
                                rotate_left
                                · simp only [Act.put, List.setIfInBounds_toArray, List.set_cons_zero, List.set_cons_succ, i64_w, i32_w]
                                  rfl
                                refine take_ (i := 0) (N := some 54) (v := ?_) (a' := ?_) #[true, true, true, true, false, false, false, true, false] rfl rfl (take_ofW HT_.out HW_.out (by kernel_rfl)) (fun _ _ _ h => h) (Or.inl ⟨by rfl, ?_⟩) hHeld ?_ ?_
                                rotate_left
                                · rintro w' ⟨s0, s1, s2, s3⟩
                                  go_simp
                                  with_reducible rfl
                                rotate_left
                                · simp only [Act.put, List.setIfInBounds_toArray, List.set_cons_zero, List.set_cons_succ, i64_w, i32_w]
                                  rfl
                                refine take_ (i := 4) (N := some 58) (v := ?_) (a' := ?_) #[true, true, true, true, true, false, false, true, false] rfl rfl (take_ofW HT_.out HW_.out (by kernel_rfl)) (fun _ _ _ h => h) (Or.inl ⟨by rfl, ?_⟩) hHeld ?_ ?_
                                rotate_left
                                · rintro w' ⟨s0, s1, s2, s3⟩
                                  go_simp
                                  with_reducible rfl
                                rotate_left
                                · simp only [Act.put, List.setIfInBounds_toArray, List.set_cons_zero, List.set_cons_succ, i64_w, i32_w]
                                  rfl
                                refine pure_ (i := 5) (N := some 59) (v := ?_) (a' := ?_) #[true, true, true, true, true, true, false, true, false] rfl rfl (any_of HT_.out (by kernel_rfl)) (fun _ _ _ h => h) (Or.inl ⟨by rfl, ?_⟩) ?_ ?_
                                rotate_left
                                · intro w'
                                  go_simp
                                  with_reducible rfl
                                rotate_left
                                · simp only [Act.put, List.setIfInBounds_toArray, List.set_cons_zero, List.set_cons_succ, i64_w, i32_w]
                                  rfl
                                refine take_ (i := 6) (N := some 60) (v := ?_) (a' := ?_) #[true, true, true, true, true, true, true, true, false] rfl rfl (take_ofW HT_.out HW_.out (by kernel_rfl)) (fun _ _ _ h => h) (Or.inl ⟨by rfl, ?_⟩) hHeld ?_ ?_
                                rotate_left
                                · rintro w' ⟨s0, s1, s2, s3⟩
                                  go_simp
                                  with_reducible rfl
                                rotate_left
                                · simp only [Act.put, List.setIfInBounds_toArray, List.set_cons_zero, List.set_cons_succ, i64_w, i32_w]
                                  rfl
                                refine one_ (i := 8) (N := some 62) #[true, true, true, true, true, true, true, true, true] rfl rfl (one_of HT_.out (by kernel_rfl)) (by decide) (fun K hK => ?_)
                                refine goes_ Try.func21 (by kernel_rfl) rfl #[.agg #[.string ((rd_T38 l0 (rd x7_2 x11_3)).f0), .string ((rd_T38 l0 (rd x7_2 x11_3)).f1)], .string a2] (by rfl) rfl rfl (by (try simp only [List.map_toArray, List.map_cons, List.map_nil]); first | done | rfl | (simp only [List.length_drop, List.length_take]; done) | (simp only [List.length_drop, List.length_take]; rfl)) ?_
                                with_reducible refine (gazetteerref5_Has.calls ((rd_T38 l0 (rd x7_2 x11_3)).f0) ((rd_T38 l0 (rd x7_2 x11_3)).f1) a2 true _ A29.out).mono ?_
                                rintro e w32 ⟨rfl, hb⟩
                                have HS1_ := (hb.cell (World.block_lt_of_cell? _ _ (hHeld.2.1))).trans (hHeld.2.1)
                                refine ⟨_, rfl, ?_⟩
                                have n0_ := Aside0.mk (Kd.R_below (by (with_reducible repeat (first | apply Kd.R_alloc | apply Kd.R_drewN | apply Kd.R_drew)); exact HO_7.out) hb)
                                have n1_ := Aside0.mk (blk_below (g := gb125) (o := .cells #[.slice (some ad133) l0.length c0] 34 (0, 0)) (by (with_reducible repeat (first | refine blk_drewN ?_ _ | refine blk_drew ?_ | refine blk_alloc ?_ _)); exact BK125.out) hb)
                                have n2_ := Aside0.mk (below_step (by repeat (first | (with_reducible first | exact HB.out | apply below_alloc | apply pw_below_drewN | apply below_drew1 | refine below_set ?_ GE125.out) | exact HB.out)) hb)
                                clear HO_7
                                clear BK125
                                clear HB
                                have HO_7 := n0_
                                have BK125 := n1_
                                have HB := n2_
                                clear n0_ n1_ n2_
                                (try clear hb)
                                (try clear hb2)
                                (try clear hk)
                                (try clear hi)
                                refine hK.out _ _ ⟨(blk_cell BK125.out 0).trans rfl, HS1_, ((HB.out.cell (World.block_lt_of_cell? w _ hw133_0)).trans hw133_0), ((HB.out.cell (World.block_lt_of_cell? w _ hw133_1)).trans hw133_1)⟩ (fun hHeld => ?_)
                                clear hK K
                                refine norm_ (a' := ?_) ?_ ?_
                                rotate_left
                                · show Act.put _ (some 62) _ = _
                                  simp only [Act.put, List.setIfInBounds_toArray, List.set_cons_zero, List.set_cons_succ, i64_w, i32_w]
                                  rfl
                                refine done_ (done_of HT_.out (by kernel_rfl)) ?_
                                try go_wp2
                                go_roundg k3
                                case measure => have := HJ5.out; have := HK2.out; have := HK3.out; omega
                                case rel => exact ⟨(x11_3), (wrap64 (x11_3 - 1)), (by first | rfl | (simp; done) | (simp [*]; done)), (by first | rfl | (simp; done) | (simp [*]; done)), H', ⟨by have := HJ5.out; have := HK2.out; have := HK3.out; omega⟩, ⟨by (with_reducible repeat (first | apply Kd.R_alloc | apply Kd.R_drewN | apply Kd.R_drew)); exact HO_7.out⟩, ⟨by (with_reducible repeat (first | refine blk_drewN ?_ _ | refine blk_drew ?_ | refine blk_alloc ?_ _)); exact BK125.out⟩, ⟨by repeat (first | (with_reducible first | exact HB.out | apply below_alloc | apply pw_below_drewN | apply below_drew1 | refine below_set ?_ GE125.out) | exact HB.out)⟩⟩
                              · replace c30 := Bool.eq_false_iff.mpr c30
                                subst c30
                                have H1 : (gazetteerlaw5_SpanFinds.l1 k3 l1 a2 x7_2 t131 x10_3 (wrap64 (x11_3 - 1)) l0) = some r := by rw [if_neg (show ¬ (false = true) by decide)] at H; exact H
                                clear H
                                have H := H1
                                clear H1
                                have H' := Aside0.mk H
                                clear H
                                try go_wp2
                                have n0_ := Aside0.mk (Kd.R_drew HO_7.out)
                                have n1_ := Aside0.mk (blk_drew BK125.out)
                                have n2_ := Aside0.mk (below_drew1 HB.out)
                                clear HO_7
                                clear BK125
                                clear HB
                                have HO_7 := n0_
                                have BK125 := n1_
                                have HB := n2_
                                clear n0_ n1_ n2_
                                have p132 : 0 ≤ (x11_3 : Int) := of_decide_eq_true (by first | (with_reducible assumption) | assumption)
                                have q132 : x11_3 < (x7_2.length : Int) := of_decide_eq_true (by first | (with_reducible assumption) | assumption)
                                obtain ⟨ad132, e132, hx132_0⟩ := Kd.at_int (Kd.R_reads' HO_7.out).2.2 x11_3 p132 q132
                                cases e132
                                replace p132 := eq_true p132
                                replace q132 := eq_true q132
                                have p133 : 0 ≤ ((rd x7_2 x11_3) : Int) := of_decide_eq_true (by first | (with_reducible assumption) | assumption)
                                have q133 : (rd x7_2 x11_3) < (l0.length : Int) := of_decide_eq_true (by first | (with_reducible assumption) | assumption)
                                obtain ⟨ad133, e133, hx133_0, hx133_1⟩ := at_T38 HR0.out (rd x7_2 x11_3) p133 q133
                                have hw133_1 := hx133_1
                                have hw133_0 := hx133_0
                                cases e133
                                replace hx133_0 := (HB.out.cell (World.block_lt_of_cell? w _ hx133_0)).trans hx133_0
                                replace hx133_1 := (HB.out.cell (World.block_lt_of_cell? w _ hx133_1)).trans hx133_1
                                replace p133 := eq_true p133
                                replace q133 := eq_true q133
                                refine start_ (n := 9) (S := fun w' => w'.cell? ⟨gb125, 0, none⟩ = some (.slice (some ad133) l0.length c0) ∧ w'.cell? (ad132.add (x11_3).toNat) = some (.int .i64 (rd x7_2 x11_3)) ∧ w'.cell? (ad133.add (((rd x7_2 x11_3)).toNat * 2)) = some (.string ((rd_T38 l0 (rd x7_2 x11_3)).f0)) ∧ w'.cell? ⟨(ad133.add (((rd x7_2 x11_3)).toNat * 2)).block, (ad133.add (((rd x7_2 x11_3)).toNat * 2)).off + 1, none⟩ = some (.string ((rd_T38 l0 (rd x7_2 x11_3)).f1))) (ds := []) #[false, false, false, false, false, false, false, false, false] (by kernel_rfl) rfl rfl ⟨(blk_cell BK125.out 0).trans rfl, hx132_0, ((HB.out.cell (World.block_lt_of_cell? w _ hw133_0)).trans hw133_0), ((HB.out.cell (World.block_lt_of_cell? w _ hw133_1)).trans hw133_1)⟩ (fun hHeld => ?_); refine with_tabW gazetteerlaw5_SpanFinds.tab15 gazetteerlaw5_SpanFinds.bits15 (fun HT_ HW_ => ?_)
                                generalize wr.drew = w33 at HO_7 BK125 HB hx132_0 hx133_0 hx133_1 hHeld ⊢
                                refine pure_ (i := 1) (N := some 55) (v := ?_) (a' := ?_) #[false, true, false, false, false, false, false, false, false] rfl rfl (any_of HT_.out (by kernel_rfl)) (fun _ _ _ h => h) (Or.inl ⟨by rfl, ?_⟩) ?_ ?_
                                rotate_left
                                · intro w'
                                  go_simp
                                  with_reducible rfl
                                rotate_left
                                · simp only [Act.put, List.setIfInBounds_toArray, List.set_cons_zero, List.set_cons_succ, i64_w, i32_w]
                                  rfl
                                refine pure_ (i := 2) (N := some 56) (v := ?_) (a' := ?_) #[false, true, true, false, false, false, false, false, false] rfl rfl (any_of HT_.out (by kernel_rfl)) (fun _ _ _ h => h) (Or.inl ⟨by rfl, ?_⟩) ?_ ?_
                                rotate_left
                                · intro w'
                                  go_simp
                                  with_reducible rfl
                                rotate_left
                                · simp only [Act.put, List.setIfInBounds_toArray, List.set_cons_zero, List.set_cons_succ, i64_w, i32_w]
                                  rfl
                                refine pure_ (i := 3) (N := some 57) (v := ?_) (a' := ?_) #[false, true, true, true, false, false, false, false, false] rfl rfl (any_of HT_.out (by kernel_rfl)) (fun _ _ _ h => h) (Or.inl ⟨by rfl, ?_⟩) ?_ ?_
                                rotate_left
                                · intro w'
                                  go_simp
                                  with_reducible rfl
                                rotate_left
                                · simp only [Act.put, List.setIfInBounds_toArray, List.set_cons_zero, List.set_cons_succ, i64_w, i32_w]
                                  rfl
                                refine pure_ (i := 7) (N := some 61) (v := ?_) (a' := ?_) #[false, true, true, true, false, false, false, true, false] rfl rfl (any_of HT_.out (by kernel_rfl)) (fun _ _ _ h => h) (Or.inl ⟨by rfl, ?_⟩) ?_ ?_
                                rotate_left
                                · intro w'
                                  go_simp
                                  with_reducible rfl
                                rotate_left
                                · simp only [Act.put, List.setIfInBounds_toArray, List.set_cons_zero, List.set_cons_succ, i64_w, i32_w]
                                  rfl
                                refine take_ (i := 0) (N := some 54) (v := ?_) (a' := ?_) #[true, true, true, true, false, false, false, true, false] rfl rfl (take_ofW HT_.out HW_.out (by kernel_rfl)) (fun _ _ _ h => h) (Or.inl ⟨by rfl, ?_⟩) hHeld ?_ ?_
                                rotate_left
                                · rintro w' ⟨s0, s1, s2, s3⟩
                                  go_simp
                                  with_reducible rfl
                                rotate_left
                                · simp only [Act.put, List.setIfInBounds_toArray, List.set_cons_zero, List.set_cons_succ, i64_w, i32_w]
                                  rfl
                                refine take_ (i := 4) (N := some 58) (v := ?_) (a' := ?_) #[true, true, true, true, true, false, false, true, false] rfl rfl (take_ofW HT_.out HW_.out (by kernel_rfl)) (fun _ _ _ h => h) (Or.inl ⟨by rfl, ?_⟩) hHeld ?_ ?_
                                rotate_left
                                · rintro w' ⟨s0, s1, s2, s3⟩
                                  go_simp
                                  with_reducible rfl
                                rotate_left
                                · simp only [Act.put, List.setIfInBounds_toArray, List.set_cons_zero, List.set_cons_succ, i64_w, i32_w]
                                  rfl
                                refine pure_ (i := 5) (N := some 59) (v := ?_) (a' := ?_) #[true, true, true, true, true, true, false, true, false] rfl rfl (any_of HT_.out (by kernel_rfl)) (fun _ _ _ h => h) (Or.inl ⟨by rfl, ?_⟩) ?_ ?_
                                rotate_left
                                · intro w'
                                  go_simp
                                  with_reducible rfl
                                rotate_left
                                · simp only [Act.put, List.setIfInBounds_toArray, List.set_cons_zero, List.set_cons_succ, i64_w, i32_w]
                                  rfl
                                refine take_ (i := 6) (N := some 60) (v := ?_) (a' := ?_) #[true, true, true, true, true, true, true, true, false] rfl rfl (take_ofW HT_.out HW_.out (by kernel_rfl)) (fun _ _ _ h => h) (Or.inl ⟨by rfl, ?_⟩) hHeld ?_ ?_
                                rotate_left
                                · rintro w' ⟨s0, s1, s2, s3⟩
                                  go_simp
                                  with_reducible rfl
                                rotate_left
                                · simp only [Act.put, List.setIfInBounds_toArray, List.set_cons_zero, List.set_cons_succ, i64_w, i32_w]
                                  rfl
                                refine one_ (i := 8) (N := some 62) #[true, true, true, true, true, true, true, true, true] rfl rfl (one_of HT_.out (by kernel_rfl)) (by decide) (fun K hK => ?_)
                                refine goes_ Try.func21 (by kernel_rfl) rfl #[.agg #[.string ((rd_T38 l0 (rd x7_2 x11_3)).f0), .string ((rd_T38 l0 (rd x7_2 x11_3)).f1)], .string a2] (by rfl) rfl rfl (by (try simp only [List.map_toArray, List.map_cons, List.map_nil]); first | done | rfl | (simp only [List.length_drop, List.length_take]; done) | (simp only [List.length_drop, List.length_take]; rfl)) ?_
                                with_reducible refine (gazetteerref5_Has.calls ((rd_T38 l0 (rd x7_2 x11_3)).f0) ((rd_T38 l0 (rd x7_2 x11_3)).f1) a2 false _ A29.out).mono ?_
                                rintro e w34 ⟨rfl, hb⟩
                                have HS1_ := (hb.cell (World.block_lt_of_cell? _ _ (hHeld.2.1))).trans (hHeld.2.1)
                                refine ⟨_, rfl, ?_⟩
                                have n0_ := Aside0.mk (Kd.R_below (by (with_reducible repeat (first | apply Kd.R_alloc | apply Kd.R_drewN | apply Kd.R_drew)); exact HO_7.out) hb)
                                have n1_ := Aside0.mk (blk_below (g := gb125) (o := .cells #[.slice (some ad133) l0.length c0] 34 (0, 0)) (by (with_reducible repeat (first | refine blk_drewN ?_ _ | refine blk_drew ?_ | refine blk_alloc ?_ _)); exact BK125.out) hb)
                                have n2_ := Aside0.mk (below_step (by repeat (first | (with_reducible first | exact HB.out | apply below_alloc | apply pw_below_drewN | apply below_drew1 | refine below_set ?_ GE125.out) | exact HB.out)) hb)
                                clear HO_7
                                clear BK125
                                clear HB
                                have HO_7 := n0_
                                have BK125 := n1_
                                have HB := n2_
                                clear n0_ n1_ n2_
                                (try clear hb)
                                (try clear hb2)
                                (try clear hk)
                                (try clear hi)
                                refine hK.out _ _ ⟨(blk_cell BK125.out 0).trans rfl, HS1_, ((HB.out.cell (World.block_lt_of_cell? w _ hw133_0)).trans hw133_0), ((HB.out.cell (World.block_lt_of_cell? w _ hw133_1)).trans hw133_1)⟩ (fun hHeld => ?_)
                                clear hK K
                                refine norm_ (a' := ?_) ?_ ?_
                                rotate_left
                                · show Act.put _ (some 62) _ = _
                                  simp only [Act.put, List.setIfInBounds_toArray, List.set_cons_zero, List.set_cons_succ, i64_w, i32_w]
                                  rfl
                                refine done_ (done_of HT_.out (by kernel_rfl)) ?_
                                try go_wp2
                                go_roundg k3
                                case measure => have := HJ5.out; have := HK2.out; have := HK3.out; omega
                                case rel => exact ⟨(x10_3), (wrap64 (x11_3 - 1)), (by first | rfl | (simp; done) | (simp [*]; done)), (by first | rfl | (simp; done) | (simp [*]; done)), H', ⟨by have := HJ5.out; have := HK2.out; have := HK3.out; omega⟩, ⟨by (with_reducible repeat (first | apply Kd.R_alloc | apply Kd.R_drewN | apply Kd.R_drew)); exact HO_7.out⟩, ⟨by (with_reducible repeat (first | refine blk_drewN ?_ _ | refine blk_drew ?_ | refine blk_alloc ?_ _)); exact BK125.out⟩, ⟨by repeat (first | (with_reducible first | exact HB.out | apply below_alloc | apply pw_below_drewN | apply below_drew1 | refine below_set ?_ GE125.out) | exact HB.out)⟩⟩
                            · rw [if_neg c28] at H
                              exact absurd H (by simp)
                          · rw [if_neg c27] at H
                            exact absurd H (by simp)
                        · rw [if_neg c26] at H
                          exact absurd H (by simp)
                      · rw [if_neg c25] at H
                        exact absurd H (by simp)
                    · rw [if_neg c24] at H
                      have c24b0 : decide (0 ≤ x11_3) = false := decide_eq_false c24
                      clear c24
                      replace H := Option.bind_eq_some_iff.mp H
                      obtain ⟨t135, A350, H⟩ := H
                      replace H : (if ((Op.bytesLess a2.toList ([98] : List UInt8)) = true) then (if t131 = x10_3 then (if ((t135 == 0) == false) = true then (some ((t135 == (-1)) == (!false))) else (some false)) else (some false)) else (if (Op.bytesLess a2.toList ([99] : List UInt8)) = true then (if t131 = x10_3 then (if ((t135 == 0) == (decide ((l1.length : Int) > 0))) = true then (some ((t135 == (-1)) == (!(decide ((l1.length : Int) > 0))))) else (some false)) else (some false)) else (if t131 = x10_3 then (if ((t135 == 0) == false) = true then (some ((t135 == (-1)) == (!false))) else (some false)) else (some false)))) = some r := H
                      have A35 := Aside0.mk A350
                      clear A350
                      by_cases c36 : ((Op.bytesLess a2.toList ([98] : List UInt8)) = true)
                      · rw [if_pos c36] at H
                        have c36b0 : (Op.bytesLess a2.toList ([98] : List UInt8)) = true := c36
                        clear c36
                        by_cases c37 : t131 = x10_3
                        · rw [if_pos c37] at H
                          have c37b0 : (t131 == x10_3) = true := beq_iff_eq.mpr c37
                          have c37b1 : (t131 != x10_3) = false := bne_eq_false_iff_eq.mpr c37
                          clear c37
                          by_cases c38 : ((t135 == 0) == false) = true
                          · rw [if_pos c38] at H
                            have c38b0 : ((t135 == 0) == false) = true := c38
                            (try (have c38b1 : decide ((t135 == 0) = false) = true := by simpa using c38))
                            (try (have c38b2 : ((t135 == 0) == false) = true := by simpa using c38))
                            clear c38
                            obtain rfl := Option.some.inj H
                            go_wp2_with (first | ((with_reducible refine gate_callee (f := 29) rfl ?_); refine goesL_ (some 66) rfl rfl Try.func29 (by kernel_rfl) rfl #[.slice A1 l1.length c1, .func (.func 30) #[] #[], .string a2] rfl (by (try simp only [List.map_toArray, List.map_cons, List.map_nil]); first | done | rfl | (simp only [List.length_drop, List.length_take]; done) | (simp only [List.length_drop, List.length_take]; rfl)) ?_; (with_reducible refine (span_Find_uint8.calls _ _ l1 a2 t135 _ ?side1 ?side2 A35.out).mono ?_); (case side1 => repeat (first | exact (Kd.C_below HR1.out HB.out) | (with_reducible refine Kd.C_alloc ?_ _) | (with_reducible refine Kd.C_drewN ?_ _) | (with_reducible refine Kd.C_drew ?_))); (case side2 => exact HC1.out); rintro e w39 ⟨rfl, hb⟩; refine ⟨_, rfl, ?_⟩; have n0_ := Aside0.mk (Kd.R_below (by (with_reducible repeat (first | apply Kd.R_alloc | apply Kd.R_drewN | apply Kd.R_drew)); exact HO_7.out) hb); have n1_ := Aside0.mk (blk_below (g := gb125) (o := .cells #[.slice A0 l0.length c0] 34 (0, 0)) (by (with_reducible repeat (first | refine blk_drewN ?_ _ | refine blk_drew ?_ | refine blk_alloc ?_ _)); exact BK125.out) hb); have n2_ := Aside0.mk (below_step (by repeat (first | (with_reducible first | exact HB.out | apply below_alloc | apply pw_below_drewN | apply below_drew1 | refine below_set ?_ GE125.out) | exact HB.out)) hb); clear HO_7; clear BK125; clear HB; have HO_7 := n0_; have BK125 := n1_; have HB := n2_; clear n0_ n1_ n2_; (try clear hb); (try clear hb2); (try clear hk); (try clear hi)))
                            go_ret
                            exact ⟨by first | rfl | (simp [errW_none, errW_some] <;> rfl) | (simp [*, errW_none, errW_some] <;> rfl), by repeat (first | (with_reducible first | exact HB.out | apply below_alloc | apply pw_below_drewN | apply below_drew1 | refine below_set ?_ GE125.out) | exact HB.out)⟩
                          · rw [if_neg c38] at H
                            have c38b0 : ((t135 == 0) == false) = false := by simpa using c38
                            (try (have c38b1 : decide ((t135 == 0) = false) = false := by simpa using c38))
                            (try (have c38b2 : ((t135 == 0) == false) = false := by simpa using c38))
                            (try (have c38b3 : ¬ ((t135 == 0) = false) := by simpa using c38))
                            clear c38
                            exact absurd H (by rw [HLT.out]; repeat' first | (with_reducible exact dead_none) | (with_reducible exact dead_false) | (with_reducible refine dead_ite ?_ ?_) | (with_reducible refine dead_bind (fun _ => ?_)) | (refine dead_ite ?_ ?_) | (refine dead_bind (fun _ => ?_)) | (simp; done))
                        · rw [if_neg c37] at H
                          have c37b0 : (t131 == x10_3) = false := beq_eq_false_iff_ne.mpr c37
                          have c37b1 : (t131 != x10_3) = true := bne_iff_ne.mpr c37
                          exact absurd H (by rw [HLT.out]; repeat' first | (with_reducible exact dead_none) | (with_reducible exact dead_false) | (with_reducible refine dead_ite ?_ ?_) | (with_reducible refine dead_bind (fun _ => ?_)) | (refine dead_ite ?_ ?_) | (refine dead_bind (fun _ => ?_)) | (simp; done))
                      · rw [if_neg c36] at H
                        have c36b0 : (Op.bytesLess a2.toList ([98] : List UInt8)) = false := by simpa using c36
                        clear c36
                        by_cases c40 : (Op.bytesLess a2.toList ([99] : List UInt8)) = true
                        · rw [if_pos c40] at H
                          have c40b0 : (Op.bytesLess a2.toList ([99] : List UInt8)) = true := c40
                          clear c40
                          by_cases c41 : t131 = x10_3
                          · rw [if_pos c41] at H
                            have c41b0 : (t131 == x10_3) = true := beq_iff_eq.mpr c41
                            have c41b1 : (t131 != x10_3) = false := bne_eq_false_iff_eq.mpr c41
                            clear c41
                            by_cases c42 : ((t135 == 0) == (decide ((l1.length : Int) > 0))) = true
                            · rw [if_pos c42] at H
                              have c42b0 : ((t135 == 0) == (decide ((l1.length : Int) > 0))) = true := c42
                              (try (have c42b1 : decide ((t135 == 0) = (decide ((l1.length : Int) > 0))) = true := by simpa using c42))
                              (try (have c42b5 : decide ((t135 == 0) = decide (0 < l1.length)) = true := by simpa using c42))
                              (try (have c42b6 : ((t135 == 0) == decide (0 < l1.length)) = true := by simpa using c42))
                              (try (have c42b2 : ((t135 == 0) == (decide ((l1.length : Int) > 0))) = true := by simpa using c42))
                              clear c42
                              obtain rfl := Option.some.inj H
                              go_wp2_with (first | ((with_reducible refine gate_callee (f := 29) rfl ?_); refine goesL_ (some 66) rfl rfl Try.func29 (by kernel_rfl) rfl #[.slice A1 l1.length c1, .func (.func 30) #[] #[], .string a2] rfl (by (try simp only [List.map_toArray, List.map_cons, List.map_nil]); first | done | rfl | (simp only [List.length_drop, List.length_take]; done) | (simp only [List.length_drop, List.length_take]; rfl)) ?_; (with_reducible refine (span_Find_uint8.calls _ _ l1 a2 t135 _ ?side1 ?side2 A35.out).mono ?_); (case side1 => repeat (first | exact (Kd.C_below HR1.out HB.out) | (with_reducible refine Kd.C_alloc ?_ _) | (with_reducible refine Kd.C_drewN ?_ _) | (with_reducible refine Kd.C_drew ?_))); (case side2 => exact HC1.out); rintro e w43 ⟨rfl, hb⟩; refine ⟨_, rfl, ?_⟩; have n0_ := Aside0.mk (Kd.R_below (by (with_reducible repeat (first | apply Kd.R_alloc | apply Kd.R_drewN | apply Kd.R_drew)); exact HO_7.out) hb); have n1_ := Aside0.mk (blk_below (g := gb125) (o := .cells #[.slice A0 l0.length c0] 34 (0, 0)) (by (with_reducible repeat (first | refine blk_drewN ?_ _ | refine blk_drew ?_ | refine blk_alloc ?_ _)); exact BK125.out) hb); have n2_ := Aside0.mk (below_step (by repeat (first | (with_reducible first | exact HB.out | apply below_alloc | apply pw_below_drewN | apply below_drew1 | refine below_set ?_ GE125.out) | exact HB.out)) hb); clear HO_7; clear BK125; clear HB; have HO_7 := n0_; have BK125 := n1_; have HB := n2_; clear n0_ n1_ n2_; (try clear hb); (try clear hb2); (try clear hk); (try clear hi)))
                              go_ret
                              exact ⟨by first | rfl | (simp [errW_none, errW_some] <;> rfl) | (simp [*, errW_none, errW_some] <;> rfl), by repeat (first | (with_reducible first | exact HB.out | apply below_alloc | apply pw_below_drewN | apply below_drew1 | refine below_set ?_ GE125.out) | exact HB.out)⟩
                            · rw [if_neg c42] at H
                              have c42b0 : ((t135 == 0) == (decide ((l1.length : Int) > 0))) = false := by simpa using c42
                              (try (have c42b1 : decide ((t135 == 0) = (decide ((l1.length : Int) > 0))) = false := by simpa using c42))
                              (try (have c42b5 : decide ((t135 == 0) = decide (0 < l1.length)) = false := by simpa using c42))
                              (try (have c42b6 : ((t135 == 0) == decide (0 < l1.length)) = false := by simpa using c42))
                              (try (have c42b2 : ((t135 == 0) == (decide ((l1.length : Int) > 0))) = false := by simpa using c42))
                              (try (have c42b3 : ¬ ((t135 == 0) = (decide ((l1.length : Int) > 0))) := by simpa using c42))
                              clear c42
                              exact absurd H (by rw [HLT.out]; repeat' first | (with_reducible exact dead_none) | (with_reducible exact dead_false) | (with_reducible refine dead_ite ?_ ?_) | (with_reducible refine dead_bind (fun _ => ?_)) | (refine dead_ite ?_ ?_) | (refine dead_bind (fun _ => ?_)) | (simp; done))
                          · rw [if_neg c41] at H
                            have c41b0 : (t131 == x10_3) = false := beq_eq_false_iff_ne.mpr c41
                            have c41b1 : (t131 != x10_3) = true := bne_iff_ne.mpr c41
                            exact absurd H (by rw [HLT.out]; repeat' first | (with_reducible exact dead_none) | (with_reducible exact dead_false) | (with_reducible refine dead_ite ?_ ?_) | (with_reducible refine dead_bind (fun _ => ?_)) | (refine dead_ite ?_ ?_) | (refine dead_bind (fun _ => ?_)) | (simp; done))
                        · rw [if_neg c40] at H
                          have c40b0 : (Op.bytesLess a2.toList ([99] : List UInt8)) = false := by simpa using c40
                          clear c40
                          by_cases c44 : t131 = x10_3
                          · rw [if_pos c44] at H
                            have c44b0 : (t131 == x10_3) = true := beq_iff_eq.mpr c44
                            have c44b1 : (t131 != x10_3) = false := bne_eq_false_iff_eq.mpr c44
                            clear c44
                            by_cases c45 : ((t135 == 0) == false) = true
                            · rw [if_pos c45] at H
                              have c45b0 : ((t135 == 0) == false) = true := c45
                              (try (have c45b1 : decide ((t135 == 0) = false) = true := by simpa using c45))
                              (try (have c45b2 : ((t135 == 0) == false) = true := by simpa using c45))
                              clear c45
                              obtain rfl := Option.some.inj H
                              go_wp2_with (first | ((with_reducible refine gate_callee (f := 29) rfl ?_); refine goesL_ (some 66) rfl rfl Try.func29 (by kernel_rfl) rfl #[.slice A1 l1.length c1, .func (.func 30) #[] #[], .string a2] rfl (by (try simp only [List.map_toArray, List.map_cons, List.map_nil]); first | done | rfl | (simp only [List.length_drop, List.length_take]; done) | (simp only [List.length_drop, List.length_take]; rfl)) ?_; (with_reducible refine (span_Find_uint8.calls _ _ l1 a2 t135 _ ?side1 ?side2 A35.out).mono ?_); (case side1 => repeat (first | exact (Kd.C_below HR1.out HB.out) | (with_reducible refine Kd.C_alloc ?_ _) | (with_reducible refine Kd.C_drewN ?_ _) | (with_reducible refine Kd.C_drew ?_))); (case side2 => exact HC1.out); rintro e w46 ⟨rfl, hb⟩; refine ⟨_, rfl, ?_⟩; have n0_ := Aside0.mk (Kd.R_below (by (with_reducible repeat (first | apply Kd.R_alloc | apply Kd.R_drewN | apply Kd.R_drew)); exact HO_7.out) hb); have n1_ := Aside0.mk (blk_below (g := gb125) (o := .cells #[.slice A0 l0.length c0] 34 (0, 0)) (by (with_reducible repeat (first | refine blk_drewN ?_ _ | refine blk_drew ?_ | refine blk_alloc ?_ _)); exact BK125.out) hb); have n2_ := Aside0.mk (below_step (by repeat (first | (with_reducible first | exact HB.out | apply below_alloc | apply pw_below_drewN | apply below_drew1 | refine below_set ?_ GE125.out) | exact HB.out)) hb); clear HO_7; clear BK125; clear HB; have HO_7 := n0_; have BK125 := n1_; have HB := n2_; clear n0_ n1_ n2_; (try clear hb); (try clear hb2); (try clear hk); (try clear hi)))
                              go_ret
                              exact ⟨by first | rfl | (simp [errW_none, errW_some] <;> rfl) | (simp [*, errW_none, errW_some] <;> rfl), by repeat (first | (with_reducible first | exact HB.out | apply below_alloc | apply pw_below_drewN | apply below_drew1 | refine below_set ?_ GE125.out) | exact HB.out)⟩
                            · rw [if_neg c45] at H
                              have c45b0 : ((t135 == 0) == false) = false := by simpa using c45
                              (try (have c45b1 : decide ((t135 == 0) = false) = false := by simpa using c45))
                              (try (have c45b2 : ((t135 == 0) == false) = false := by simpa using c45))
                              (try (have c45b3 : ¬ ((t135 == 0) = false) := by simpa using c45))
                              clear c45
                              exact absurd H (by rw [HLT.out]; repeat' first | (with_reducible exact dead_none) | (with_reducible exact dead_false) | (with_reducible refine dead_ite ?_ ?_) | (with_reducible refine dead_bind (fun _ => ?_)) | (refine dead_ite ?_ ?_) | (refine dead_bind (fun _ => ?_)) | (simp; done))
                          · rw [if_neg c44] at H
                            have c44b0 : (t131 == x10_3) = false := beq_eq_false_iff_ne.mpr c44
                            have c44b1 : (t131 != x10_3) = true := bne_iff_ne.mpr c44
                            exact absurd H (by rw [HLT.out]; repeat' first | (with_reducible exact dead_none) | (with_reducible exact dead_false) | (with_reducible refine dead_ite ?_ ?_) | (with_reducible refine dead_bind (fun _ => ?_)) | (refine dead_ite ?_ ?_) | (refine dead_bind (fun _ => ?_)) | (simp; done))
  · replace c5 := Bool.eq_false_iff.mpr c5
    subst c5
    have H1 : (some false) = some r := by rw [if_neg (show ¬ (false = true) by decide)] at H; exact H
    clear H
    have H := H1
    clear H1
    exact absurd H (by rw [HLT.out]; repeat' first | (with_reducible exact dead_none) | (with_reducible exact dead_false) | (with_reducible refine dead_ite ?_ ?_) | (with_reducible refine dead_bind (fun _ => ?_)) | (refine dead_ite ?_ ?_) | (refine dead_bind (fun _ => ?_)) | (simp; done))

end Go.Proofs.Ytbfllekkbmeibaa.PSpanFinds

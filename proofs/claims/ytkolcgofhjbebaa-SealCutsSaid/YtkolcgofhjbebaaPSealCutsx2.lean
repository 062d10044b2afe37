-- printed by a program of this session (wip/tools), a turned form of the kit's print
import Derived.Test.YtkolcgofhjbebaaPSealCutsx0
import Derived.Test.YtkolcgofhjbebaaPSealCutsx1
namespace Go.Proofs.Ytkolcgofhjbebaa.PSealCuts
open Go.RowKit Go.Proofs.YtkolcgofhjbebaaW.PrintWords Go.Proofs.YtkolcgofhjbebaaW.PrintLast Go.Proofs.YtkolcgofhjbebaaW.PrintMore
attribute [local go_sem] max2_int min2_int max_two min_two max_three min_three max_four min_four max2_str min2_str str_geq str_leq str_gtr   -- for this text's walks alone
set_option linter.unusedVariables false
set_option linter.unusedSimpArgs false

/-! ### gazetteerlaw8_SealCuts: function 8 -/
mutual
def gazetteerlaw8_SealCuts.l0 : Nat → List (List Int) → Int → List Int → List Int → Int → Int → Int → Option (Bool)
  | 0, _, _, _, _, _, _, _ => none
  | k + 1, x0, x1, x7, x8, x9, x160000, x160001 => if x9 < (x0.length : Int) then (if 0 ≤ x9 then (if ((rd_L1 x0 x9).length : Int) > 200 then (some true) else ((seal_Frame.f k ((x9) % 256) (rd_L1 x0 x9)).bind fun bt163 => (if bt163.2 = 0 then (if x7.length + bt163.1.length < 140737488355328 then ((some (x7 ++ bt163.1 : List Int)).bind fun y167 => (if x8.length < 17592186044416 then (gazetteerlaw8_SealCuts.l0 k x0 x1 y167 (x8 ++ [(y167.length : Int)]) (wrap64 (x9 + 1)) x160000 x160001) else (none))) else (none)) else (some false)))) else (none)) else (if (wrap64 ((x7.length : Int) + 1)) = 0 then (none) else (gazetteerlaw8_SealCuts.l1 k x0 x7 x8 (Int.tmod (wrap64 (x1)) (wrap64 ((x7.length : Int) + 1))) 0 0 x160000 x160001))
def gazetteerlaw8_SealCuts.j2 : Nat → List (List Int) → List Int → Int → Int → Int → Int → Int → Option (Bool)
  | 0, _, _, _, _, _, _, _ => none
  | k + 1, x0, x7, x12, x13, x14, x160000, x160001 => if 0 ≤ x12 then (if x12 ≤ (x7.length : Int) then ((seal_All.f k (x7.take (x12 : Int).toNat)).bind fun bt179 => (if (bt179.1.length : Int) = x13 then (gazetteerlaw8_SealCuts.j3 k x0 x7 (bt179.2 != x14) x160000 x160001) else (gazetteerlaw8_SealCuts.j3 k x0 x7 true x160000 x160001))) else (none)) else (none)
def gazetteerlaw8_SealCuts.j3 : Nat → List (List Int) → List Int → Bool → Int → Int → Option (Bool)
  | 0, _, _, _, _, _ => none
  | k + 1, x0, x7, x97, x160000, x160001 => if x97 = true then (some false) else (if (x0.length : Int) = 0 then (some true) else (if 0 < (x0.length : Int) then (if ((rd_L1 x0 0).length : Int) = 0 then (some true) else (if (Go.bits .and .u16 x160001 255) = 0 then (some true) else (if (x7.length : Int) < (wrap64 (7 + ((rd_L1 x0 0).length : Int))) then (some true) else (if 0 ≤ (wrap64 (7 + (Int.tmod (wrap64 (x160000)) ((rd_L1 x0 0).length : Int)))) then (if (wrap64 (7 + (Int.tmod (wrap64 (x160000)) ((rd_L1 x0 0).length : Int)))) < (x7.length : Int) then ((seal_Open.f k (x7.set ((wrap64 (7 + (Int.tmod (wrap64 (x160000)) ((rd_L1 x0 0).length : Int)))) : Int).toNat (Go.bits .xor .u8 (rd x7 (wrap64 (7 + (Int.tmod (wrap64 (x160000)) ((rd_L1 x0 0).length : Int))))) ((x160001) % 256)))).bind fun bt188 => (some (bt188.2.2.2 == 6))) else (none)) else (none))))) else (none)))
def gazetteerlaw8_SealCuts.l1 : Nat → List (List Int) → List Int → List Int → Int → Int → Int → Int → Int → Option (Bool)
  | 0, _, _, _, _, _, _, _, _ => none
  | k + 1, x0, x7, x8, x12, x13, x14, x160000, x160001 => if x13 < (x8.length : Int) then (if 0 ≤ x13 then (if (rd x8 x13) ≤ x12 then (gazetteerlaw8_SealCuts.l1 k x0 x7 x8 x12 (wrap64 (x13 + 1)) (rd x8 x13) x160000 x160001) else (gazetteerlaw8_SealCuts.j2 k x0 x7 x12 x13 x14 x160000 x160001)) else (none)) else (gazetteerlaw8_SealCuts.j2 k x0 x7 x12 x13 x14 x160000 x160001)
end
def gazetteerlaw8_SealCuts.f (k : Nat) (l0 : List (List Int)) (a1 : Int) (a2_0 : Int) (a2_1 : Int) : Option (Bool) := (gazetteerlaw8_awake.f k).bind fun t160 => (if t160 = true then (if (l0.length : Int) > 20 then (some true) else (gazetteerlaw8_SealCuts.l0 k l0 a1 ([] : List Int) ([] : List Int) 0 a2_0 a2_1)) else (some false))
theorem gazetteerlaw8_SealCuts.mono_l : ∀ k, (∀ y0 y1 y2 y3 y4 y5 y6, LeO (gazetteerlaw8_SealCuts.l0 k y0 y1 y2 y3 y4 y5 y6) (gazetteerlaw8_SealCuts.l0 (k + 1) y0 y1 y2 y3 y4 y5 y6)) ∧ (∀ y0 y1 y2 y3 y4 y5 y6, LeO (gazetteerlaw8_SealCuts.j2 k y0 y1 y2 y3 y4 y5 y6) (gazetteerlaw8_SealCuts.j2 (k + 1) y0 y1 y2 y3 y4 y5 y6)) ∧ (∀ y0 y1 y2 y3 y4, LeO (gazetteerlaw8_SealCuts.j3 k y0 y1 y2 y3 y4) (gazetteerlaw8_SealCuts.j3 (k + 1) y0 y1 y2 y3 y4)) ∧ (∀ y0 y1 y2 y3 y4 y5 y6 y7, LeO (gazetteerlaw8_SealCuts.l1 k y0 y1 y2 y3 y4 y5 y6 y7) (gazetteerlaw8_SealCuts.l1 (k + 1) y0 y1 y2 y3 y4 y5 y6 y7))
  | 0 => ⟨fun _ _ _ _ _ _ _ r h => by simp [gazetteerlaw8_SealCuts.l0] at h, fun _ _ _ _ _ _ _ r h => by simp [gazetteerlaw8_SealCuts.j2] at h, fun _ _ _ _ _ r h => by simp [gazetteerlaw8_SealCuts.j3] at h, fun _ _ _ _ _ _ _ _ r h => by simp [gazetteerlaw8_SealCuts.l1] at h⟩
  | k + 1 => by
    obtain ⟨ih0, ih1, ih2, ih3⟩ := gazetteerlaw8_SealCuts.mono_l k
    refine ⟨?_, ?_, ?_, ?_⟩
    · intro y0 y1 y2 y3 y4 y5 y6
      unfold gazetteerlaw8_SealCuts.l0
      repeat' first
      | (with_reducible exact ih0 _ _ _ _ _ _ _)
      | (with_reducible exact ih1 _ _ _ _ _ _ _)
      | (with_reducible exact ih2 _ _ _ _ _)
      | (with_reducible exact ih3 _ _ _ _ _ _ _ _)
      | (with_reducible exact gazetteerlaw8_awake.mono _)
      | (with_reducible exact seal_All.mono _ _)
      | (with_reducible exact seal_Frame.mono _ _ _)
      | (with_reducible exact seal_Open.mono _ _)
      | (with_reducible exact LeO.refl _)
      | (with_reducible exact LeO.none _)
      | (with_reducible refine LeO.ite ?_ ?_)
      | (with_reducible refine LeO.bind ?_ (fun _ => ?_))
      | exact ih0 _ _ _ _ _ _ _
      | exact ih1 _ _ _ _ _ _ _
      | exact ih2 _ _ _ _ _
      | exact ih3 _ _ _ _ _ _ _ _
      | exact gazetteerlaw8_awake.mono _
      | exact seal_All.mono _ _
      | exact seal_Frame.mono _ _ _
      | exact seal_Open.mono _ _
      | exact LeO.none _
      | refine LeO.ite ?_ ?_
      | refine LeO.bind ?_ (fun _ => ?_)
    · intro y0 y1 y2 y3 y4 y5 y6
      unfold gazetteerlaw8_SealCuts.j2
      repeat' first
      | (with_reducible exact ih0 _ _ _ _ _ _ _)
      | (with_reducible exact ih1 _ _ _ _ _ _ _)
      | (with_reducible exact ih2 _ _ _ _ _)
      | (with_reducible exact ih3 _ _ _ _ _ _ _ _)
      | (with_reducible exact gazetteerlaw8_awake.mono _)
      | (with_reducible exact seal_All.mono _ _)
      | (with_reducible exact seal_Frame.mono _ _ _)
      | (with_reducible exact seal_Open.mono _ _)
      | (with_reducible exact LeO.refl _)
      | (with_reducible exact LeO.none _)
      | (with_reducible refine LeO.ite ?_ ?_)
      | (with_reducible refine LeO.bind ?_ (fun _ => ?_))
      | exact ih0 _ _ _ _ _ _ _
      | exact ih1 _ _ _ _ _ _ _
      | exact ih2 _ _ _ _ _
      | exact ih3 _ _ _ _ _ _ _ _
      | exact gazetteerlaw8_awake.mono _
      | exact seal_All.mono _ _
      | exact seal_Frame.mono _ _ _
      | exact seal_Open.mono _ _
      | exact LeO.none _
      | refine LeO.ite ?_ ?_
      | refine LeO.bind ?_ (fun _ => ?_)
    · intro y0 y1 y2 y3 y4
      unfold gazetteerlaw8_SealCuts.j3
      repeat' first
      | (with_reducible exact ih0 _ _ _ _ _ _ _)
      | (with_reducible exact ih1 _ _ _ _ _ _ _)
      | (with_reducible exact ih2 _ _ _ _ _)
      | (with_reducible exact ih3 _ _ _ _ _ _ _ _)
      | (with_reducible exact gazetteerlaw8_awake.mono _)
      | (with_reducible exact seal_All.mono _ _)
      | (with_reducible exact seal_Frame.mono _ _ _)
      | (with_reducible exact seal_Open.mono _ _)
      | (with_reducible exact LeO.refl _)
      | (with_reducible exact LeO.none _)
      | (with_reducible refine LeO.ite ?_ ?_)
      | (with_reducible refine LeO.bind ?_ (fun _ => ?_))
      | exact ih0 _ _ _ _ _ _ _
      | exact ih1 _ _ _ _ _ _ _
      | exact ih2 _ _ _ _ _
      | exact ih3 _ _ _ _ _ _ _ _
      | exact gazetteerlaw8_awake.mono _
      | exact seal_All.mono _ _
      | exact seal_Frame.mono _ _ _
      | exact seal_Open.mono _ _
      | exact LeO.none _
      | refine LeO.ite ?_ ?_
      | refine LeO.bind ?_ (fun _ => ?_)
    · intro y0 y1 y2 y3 y4 y5 y6 y7
      unfold gazetteerlaw8_SealCuts.l1
      repeat' first
      | (with_reducible exact ih0 _ _ _ _ _ _ _)
      | (with_reducible exact ih1 _ _ _ _ _ _ _)
      | (with_reducible exact ih2 _ _ _ _ _)
      | (with_reducible exact ih3 _ _ _ _ _ _ _ _)
      | (with_reducible exact gazetteerlaw8_awake.mono _)
      | (with_reducible exact seal_All.mono _ _)
      | (with_reducible exact seal_Frame.mono _ _ _)
      | (with_reducible exact seal_Open.mono _ _)
      | (with_reducible exact LeO.refl _)
      | (with_reducible exact LeO.none _)
      | (with_reducible refine LeO.ite ?_ ?_)
      | (with_reducible refine LeO.bind ?_ (fun _ => ?_))
      | exact ih0 _ _ _ _ _ _ _
      | exact ih1 _ _ _ _ _ _ _
      | exact ih2 _ _ _ _ _
      | exact ih3 _ _ _ _ _ _ _ _
      | exact gazetteerlaw8_awake.mono _
      | exact seal_All.mono _ _
      | exact seal_Frame.mono _ _ _
      | exact seal_Open.mono _ _
      | exact LeO.none _
      | refine LeO.ite ?_ ?_
      | refine LeO.bind ?_ (fun _ => ?_)
theorem gazetteerlaw8_SealCuts.mono : ∀ a0 a1 a2 a3 k, LeO (gazetteerlaw8_SealCuts.f k a0 a1 a2 a3) (gazetteerlaw8_SealCuts.f (k + 1) a0 a1 a2 a3) := by
  intro a0 a1 a2 a3 k
  obtain ⟨ih0, ih1, ih2, ih3⟩ := gazetteerlaw8_SealCuts.mono_l k
  unfold gazetteerlaw8_SealCuts.f
  repeat' first
      | (with_reducible exact ih0 _ _ _ _ _ _ _)
      | (with_reducible exact ih1 _ _ _ _ _ _ _)
      | (with_reducible exact ih2 _ _ _ _ _)
      | (with_reducible exact ih3 _ _ _ _ _ _ _ _)
      | (with_reducible exact gazetteerlaw8_awake.mono _)
      | (with_reducible exact seal_All.mono _ _)
      | (with_reducible exact seal_Frame.mono _ _ _)
      | (with_reducible exact seal_Open.mono _ _)
      | (with_reducible exact LeO.refl _)
      | (with_reducible exact LeO.none _)
      | (with_reducible refine LeO.ite ?_ ?_)
      | (with_reducible refine LeO.bind ?_ (fun _ => ?_))
      | exact ih0 _ _ _ _ _ _ _
      | exact ih1 _ _ _ _ _ _ _
      | exact ih2 _ _ _ _ _
      | exact ih3 _ _ _ _ _ _ _ _
      | exact gazetteerlaw8_awake.mono _
      | exact seal_All.mono _ _
      | exact seal_Frame.mono _ _ _
      | exact seal_Open.mono _ _
      | exact LeO.none _
      | refine LeO.ite ?_ ?_
      | refine LeO.bind ?_ (fun _ => ?_)
def gazetteerlaw8_SealCuts.T27 : Bool × List (List Nat × List Nat) := (true, [([], []), ([], []), ([1], [1]), ([2], [2]), ([], []), ([4], [4]), ([5], [5]), ([6], [6]), ([3, 7], [3, 7]), ([8], [8]), ([0, 9], [0, 9]), ([10], [10]), ([], []), ([12], [12]), ([13], [13]), ([11, 14], [11, 14]), ([0, 9, 0, 1, 2, 3, 4, 5, 6, 7, 8, 9, 10, 11, 12, 13, 14, 15], [0, 9]), ([16, 15, 0, 1, 2, 3, 4, 5, 6, 7, 8, 9, 10, 11, 12, 13, 14, 15], [15, 16])])
def gazetteerlaw8_SealCuts.B27 : List Nat := [0, 0, 2, 6, 0, 16, 48, 112, 254, 510, 1023, 2047, 0, 4096, 12288, 32767, 65535, 131071]
theorem gazetteerlaw8_SealCuts.tab27 : rtab .any (opsOf Try.f8 27) = gazetteerlaw8_SealCuts.T27 := by kernel_rfl
theorem gazetteerlaw8_SealCuts.bits27 : waitsOk gazetteerlaw8_SealCuts.T27.2 gazetteerlaw8_SealCuts.B27 = true := by kernel_rfl
set_option maxHeartbeats 8000000 in
set_option maxRecDepth 100000 in
theorem gazetteerlaw8_SealCuts.calls (k : Nat) (A0 : Option Addr) (c0 : Nat) (l0 : List (List Int)) (a1 : Int) (a2_0 : Int) (a2_1 : Int) (r : Bool) (w : World) (hr0 : Kd.C (Kd.slice 5 (Kd.int .u8)) w A0 l0.length l0) (hc0 : l0.length ≤ c0) (HLT0 : r = true) (h : gazetteerlaw8_SealCuts.f k l0 a1 a2_0 a2_1 = some r) :
    Calls Try.prog 8 #[.slice A0 l0.length c0, .int .u16 a1, .agg #[.int .u16 a2_0, .int .u16 a2_1]] w fun e w' => e = .returned (.bool r) ∧ Below w.heap.size w w' := by
  have hu54 := Try.underlying54
  have HLT := Aside0.mk HLT0
  clear HLT0
  have HR0 := Aside0.mk hr0
  have HC0 := Aside0.mk hc0
  clear hr0 hc0
  have HB := Aside0.mk (Below.refl w.heap.size w)
  have H : ((gazetteerlaw8_awake.f k).bind fun t160 => (if t160 = true then (if (l0.length : Int) > 20 then (some true) else (gazetteerlaw8_SealCuts.l0 k l0 a1 ([] : List Int) ([] : List Int) 0 a2_0 a2_1)) else (some false))) = some r := h
  clear h
  replace H := Option.bind_eq_some_iff.mp H
  obtain ⟨t160, A40, H⟩ := H
  replace H : (if t160 = true then (if (l0.length : Int) > 20 then (some true) else (gazetteerlaw8_SealCuts.l0 k l0 a1 ([] : List Int) ([] : List Int) 0 a2_0 a2_1)) else (some false)) = some r := H
  have A4 := Aside0.mk A40
  clear A40
  by_cases c5 : t160 = true
  · subst c5
    have H1 : (if (l0.length : Int) > 20 then (some true) else (gazetteerlaw8_SealCuts.l0 k l0 a1 ([] : List Int) ([] : List Int) 0 a2_0 a2_1)) = some r := by rw [if_pos rfl] at H; exact H
    clear H
    have H := H1
    clear H1
    by_cases c6 : (l0.length : Int) > 20
    · rw [if_pos c6] at H
      have c6b0 : decide (20 < (l0.length : Int)) = true := decide_eq_true c6
      have c6b1 : decide (20 < l0.length) = true := decide_eq_true (by omega)
      clear c6
      obtain rfl := Option.some.inj H
      go_enter Try.func8, Try.ntmps8
      go_wp2_with (first | ((with_reducible refine gate_dst (N := 5) rfl ?_); (try (refine gate_guard (by rfl) ?_; dsimp only)); refine box_event ?hg (N := 5) ?hd (cs := #[.int .u16 a2_0, .int .u16 a2_1]) (t := 54) ?hr ?_; (case hd => rfl); (case hg => rfl); (case hr => first | (go_simp; done) | (go_simp; rfl)); intro gb159 hg w7 hbox hb; have n0_ := Aside0.mk (below_step (by repeat (first | (with_reducible first | exact HB.out | apply below_alloc | apply pw_below_drewN | apply below_drew1) | exact HB.out)) hb); have n1_ := Aside0.mk (hbox); have n2_ := Aside0.mk ((by rw [hg]; exact (below_size (by repeat (first | (with_reducible first | exact HB.out | apply below_alloc | apply pw_below_drewN | apply below_drew1) | exact HB.out))) : w.heap.size ≤ gb159)); have n3_ := Aside0.mk ((by rw [hg]; exact (below_size (by repeat (first | (with_reducible first | exact HB.out | apply below_alloc | apply pw_below_drewN | apply below_drew1) | exact HB.out))) : w.heap.size ≤ gb159)); clear HB; have HB := n0_; have BK159 := n1_; have GW159 := n2_; have GE159 := n3_; clear n0_ n1_ n2_ n3_; clear hb hbox hg) | ((with_reducible refine gate_callee (f := 19) rfl ?_); refine goesL_ (some 21) rfl rfl Try.func19 (by kernel_rfl) rfl #[] rfl (by (try simp only [List.map_toArray, List.map_cons, List.map_nil]); first | done | rfl | (simp only [List.length_drop, List.length_take]; done) | (simp only [List.length_drop, List.length_take]; rfl)) ?_; (with_reducible refine (gazetteerlaw8_awake.calls k  true _ A4.out).mono ?_); rintro e w8 ⟨rfl, hb⟩; refine ⟨_, rfl, ?_⟩; have n0_ := Aside0.mk (blk_below (g := gb159) (o := .cells #[.int .u16 a2_0, .int .u16 a2_1] 54 (0, 0)) (by (with_reducible repeat (first | refine blk_drewN ?_ _ | refine blk_drew ?_ | refine blk_alloc ?_ _)); exact BK159.out) hb); have n1_ := Aside0.mk (below_step (by repeat (first | (with_reducible first | exact HB.out | apply below_alloc | apply pw_below_drewN | apply below_drew1 | refine below_set ?_ GE159.out) | exact HB.out)) hb); clear BK159; clear HB; have BK159 := n0_; have HB := n1_; clear n0_ n1_; (try clear hb); (try clear hb2); (try clear hk); (try clear hi)))
      go_ret
      exact ⟨by first | rfl | (simp [errW_none, errW_some] <;> rfl) | (simp [*, errW_none, errW_some] <;> rfl), by repeat (first | (with_reducible first | exact HB.out | apply below_alloc | apply pw_below_drewN | apply below_drew1 | refine below_set ?_ GE159.out) | exact HB.out)⟩
    · rw [if_neg c6] at H
      have c6b0 : decide (20 < (l0.length : Int)) = false := decide_eq_false c6
      have c6b1 : decide (20 < l0.length) = false := decide_eq_false (by omega)
      clear c6
      have H' := Aside0.mk H
      clear H
      go_enter Try.func8, Try.ntmps8
      go_wp2_with (first | ((with_reducible refine gate_dst (N := 5) rfl ?_); (try (refine gate_guard (by rfl) ?_; dsimp only)); refine box_event ?hg (N := 5) ?hd (cs := #[.int .u16 a2_0, .int .u16 a2_1]) (t := 54) ?hr ?_; (case hd => rfl); (case hg => rfl); (case hr => first | (go_simp; done) | (go_simp; rfl)); intro gb159 hg w9 hbox hb; have n0_ := Aside0.mk (below_step (by repeat (first | (with_reducible first | exact HB.out | apply below_alloc | apply pw_below_drewN | apply below_drew1) | exact HB.out)) hb); have n1_ := Aside0.mk (hbox); have n2_ := Aside0.mk ((by rw [hg]; exact (below_size (by repeat (first | (with_reducible first | exact HB.out | apply below_alloc | apply pw_below_drewN | apply below_drew1) | exact HB.out))) : w.heap.size ≤ gb159)); have n3_ := Aside0.mk ((by rw [hg]; exact (below_size (by repeat (first | (with_reducible first | exact HB.out | apply below_alloc | apply pw_below_drewN | apply below_drew1) | exact HB.out))) : w.heap.size ≤ gb159)); clear HB; have HB := n0_; have BK159 := n1_; have GW159 := n2_; have GE159 := n3_; clear n0_ n1_ n2_ n3_; clear hb hbox hg) | ((with_reducible refine gate_callee (f := 19) rfl ?_); refine goesL_ (some 21) rfl rfl Try.func19 (by kernel_rfl) rfl #[] rfl (by (try simp only [List.map_toArray, List.map_cons, List.map_nil]); first | done | rfl | (simp only [List.length_drop, List.length_take]; done) | (simp only [List.length_drop, List.length_take]; rfl)) ?_; (with_reducible refine (gazetteerlaw8_awake.calls k  true _ A4.out).mono ?_); rintro e w10 ⟨rfl, hb⟩; refine ⟨_, rfl, ?_⟩; have n0_ := Aside0.mk (blk_below (g := gb159) (o := .cells #[.int .u16 a2_0, .int .u16 a2_1] 54 (0, 0)) (by (with_reducible repeat (first | refine blk_drewN ?_ _ | refine blk_drew ?_ | refine blk_alloc ?_ _)); exact BK159.out) hb); have n1_ := Aside0.mk (below_step (by repeat (first | (with_reducible first | exact HB.out | apply below_alloc | apply pw_below_drewN | apply below_drew1 | refine below_set ?_ GE159.out) | exact HB.out)) hb); clear BK159; clear HB; have BK159 := n0_; have HB := n1_; clear n0_ n1_; (try clear hb); (try clear hb2); (try clear hk); (try clear hi)))
      go_loopg [7, 8, 9] k (fun kq v7 v8 v9 w' => ∃ (x7_1 : List Int) (x8_1 : List Int) (x9_1 : Int), v9 = .int .i64 x9_1 ∧ Aside0 (gazetteerlaw8_SealCuts.l0 kq l0 a1 x7_1 x8_1 x9_1 a2_0 a2_1 = some r) ∧ Aside0 (kq ≤ k) ∧ Aside0 (Kd.R (Kd.int .u8) 5 w' w.heap.size (fun _ => True) v7 x7_1) ∧ Aside0 (Kd.R (Kd.int .i64) 3 w' w.heap.size (fun _ => True) v8 x8_1) ∧ Aside0 (w'.heap[gb159]? = some (.cells #[.int .u16 a2_0, .int .u16 a2_1] 54 (0, 0))) ∧ Aside0 (Below w.heap.size w w'))
      case atStart => exact ⟨(([] : List Int)), (([] : List Int)), (0), (by first | rfl | (simp; done) | (simp [*]; done)), H', ⟨Nat.le_refl _⟩, ⟨by first | exact Kd.R_nil _ _ _ _ _ | exact Kd.N_nil _ _ _ _ _ | exact Kd.V_nil _ _ _ _ _ | exact Kd.Q_nil _ _ _ _ _ | exact Kd.S_nil _ _ _ _ _⟩, ⟨by first | exact Kd.R_nil _ _ _ _ _ | exact Kd.N_nil _ _ _ _ _ | exact Kd.V_nil _ _ _ _ _ | exact Kd.Q_nil _ _ _ _ _ | exact Kd.S_nil _ _ _ _ _⟩, ⟨by (with_reducible repeat (first | refine blk_drewN ?_ _ | refine blk_drew ?_ | refine blk_alloc ?_ _)); exact BK159.out⟩, ⟨by repeat (first | (with_reducible first | exact HB.out | apply below_alloc | apply pw_below_drewN | apply below_drew1 | refine below_set ?_ GE159.out) | exact HB.out)⟩⟩
      case round =>
        clear H'
        try clear c1
        try clear p2
        try clear c5
        try clear c6
        try clear c6b0
        try clear c6b1
        try clear c8
        obtain ⟨x7_1, x8_1, x9_1, rfl, HA, HK1, HO_7, HO_8, BK159, HB⟩ := hrel
        cases gk with
        | zero => exact absurd HA.out (by simp [gazetteerlaw8_SealCuts.l0])
        | succ k1 =>
          have H := HA.out
          clear HA
          simp only [gazetteerlaw8_SealCuts.l0] at H
          by_cases c11 : x9_1 < (l0.length : Int)
          · rw [if_pos c11] at H
            have c11b0 : decide (x9_1 < (l0.length : Int)) = true := decide_eq_true c11
            clear c11
            by_cases c12 : 0 ≤ x9_1
            · rw [if_pos c12] at H
              have c12b0 : decide (0 ≤ x9_1) = true := decide_eq_true c12
              clear c12
              by_cases c13 : ((rd_L1 l0 x9_1).length : Int) > 200
              · rw [if_pos c13] at H
                have c13b0 : decide (200 < ((rd_L1 l0 x9_1).length : Int)) = true := decide_eq_true c13
                have c13b1 : decide (200 < (rd_L1 l0 x9_1).length) = true := decide_eq_true (by omega)
                clear c13
                obtain rfl := Option.some.inj H
                have p161 : 0 ≤ (x9_1 : Int) := of_decide_eq_true (by first | (with_reducible assumption) | assumption)
                have q161 : x9_1 < (l0.length : Int) := of_decide_eq_true (by first | (with_reducible assumption) | assumption)
                obtain ⟨ad161, A161_0, c161_0, e161, hx161_0, hl161_0, hi161_0⟩ := at_L1 HR0.out x9_1 p161 q161
                cases e161
                replace hx161_0 := (HB.out.cell (World.block_lt_of_cell? w _ hx161_0)).trans hx161_0
                have HR161_0 := Aside0.mk hi161_0
                have HC161_0 := Aside0.mk hl161_0
                clear hi161_0 hl161_0
                replace p161 := eq_true p161
                replace q161 := eq_true q161
                go_wp2
                go_ret
                exact ⟨by first | rfl | (simp [errW_none, errW_some] <;> rfl) | (simp [*, errW_none, errW_some] <;> rfl), by repeat (first | (with_reducible first | exact HB.out | apply below_alloc | apply pw_below_drewN | apply below_drew1 | refine below_set ?_ GE159.out) | exact HB.out)⟩
              · rw [if_neg c13] at H
                have c13b0 : decide (200 < ((rd_L1 l0 x9_1).length : Int)) = false := decide_eq_false c13
                have c13b1 : decide (200 < (rd_L1 l0 x9_1).length) = false := decide_eq_false (by omega)
                clear c13
                replace H := Option.bind_eq_some_iff.mp H
                obtain ⟨⟨t163, t164⟩, A140, H⟩ := H
                replace H : (if t164 = 0 then (if x7_1.length + t163.length < 140737488355328 then ((some (x7_1 ++ t163 : List Int)).bind fun y167 => (if x8_1.length < 17592186044416 then (gazetteerlaw8_SealCuts.l0 k1 l0 a1 y167 (x8_1 ++ [(y167.length : Int)]) (wrap64 (x9_1 + 1)) a2_0 a2_1) else (none))) else (none)) else (some false)) = some r := H
                have A14 := Aside0.mk A140
                clear A140
                by_cases c15 : t164 = 0
                · rw [if_pos c15] at H
                  have c15b0 : (t164 == 0) = true := beq_iff_eq.mpr c15
                  have c15b1 : (t164 != 0) = false := bne_eq_false_iff_eq.mpr c15
                  clear c15
                  by_cases c16 : x7_1.length + t163.length < 140737488355328
                  · rw [if_pos c16] at H
                    have LMc16 := Aside0.mk c16
                    clear c16
                    obtain ⟨y167, hy167⟩ : ∃ y_ : List Int, y_ = (x7_1 ++ t163) := ⟨_, rfl⟩
                    replace H : (if x8_1.length < 17592186044416 then (gazetteerlaw8_SealCuts.l0 k1 l0 a1 y167 (x8_1 ++ [(y167.length : Int)]) (wrap64 (x9_1 + 1)) a2_0 a2_1) else (none)) = some r := by first | (rw [hy167]; with_reducible exact H) | (have H2_ := (Option.bind_some _ _).symm.trans H; rw [hy167]; with_reducible exact H2_) | (have H2_ := (Option.bind_some _ _).symm.trans H; with_reducible exact H2_) | with_reducible exact H | (rw [hy167]; exact H) | exact H
                    have Ny167 := Aside0.mk hy167
                    clear hy167
                    by_cases c17 : x8_1.length < 17592186044416
                    · rw [if_pos c17] at H
                      have LMc17 := Aside0.mk c17
                      clear c17
                      obtain ⟨y170, hy170⟩ : ∃ y_ : List Int, y_ = (x8_1 ++ [(y167.length : Int)]) := ⟨_, rfl⟩
                      replace H : (gazetteerlaw8_SealCuts.l0 k1 l0 a1 y167 y170 (wrap64 (x9_1 + 1)) a2_0 a2_1) = some r := by first | (rw [hy170]; with_reducible exact H) | (have H2_ := (Option.bind_some _ _).symm.trans H; rw [hy170]; with_reducible exact H2_) | (have H2_ := (Option.bind_some _ _).symm.trans H; with_reducible exact H2_) | with_reducible exact H | (rw [hy170]; exact H) | exact H
                      have Ny170 := Aside0.mk hy170
                      clear hy170
                      have H' := Aside0.mk H
                      clear H
                      have p161 : 0 ≤ (x9_1 : Int) := of_decide_eq_true (by first | (with_reducible assumption) | assumption)
                      have q161 : x9_1 < (l0.length : Int) := of_decide_eq_true (by first | (with_reducible assumption) | assumption)
                      obtain ⟨ad161, A161_0, c161_0, e161, hx161_0, hl161_0, hi161_0⟩ := at_L1 HR0.out x9_1 p161 q161
                      cases e161
                      replace hx161_0 := (HB.out.cell (World.block_lt_of_cell? w _ hx161_0)).trans hx161_0
                      have HR161_0 := Aside0.mk hi161_0
                      have HC161_0 := Aside0.mk hl161_0
                      clear hi161_0 hl161_0
                      replace p161 := eq_true p161
                      replace q161 := eq_true q161
                      have p162 : 0 ≤ (x9_1 : Int) := of_decide_eq_true (by first | (with_reducible assumption) | assumption)
                      have q162 : x9_1 < (l0.length : Int) := of_decide_eq_true (by first | (with_reducible assumption) | assumption)
                      obtain ⟨ad162, A162_0, c162_0, e162, hx162_0, hl162_0, hi162_0⟩ := at_L1 HR0.out x9_1 p162 q162
                      obtain rfl : ad161 = ad162 := (by injection e162)
                      replace hx162_0 := (HB.out.cell (World.block_lt_of_cell? w _ hx162_0)).trans hx162_0
                      have HR162_0 := Aside0.mk hi162_0
                      have HC162_0 := Aside0.mk hl162_0
                      clear hi162_0 hl162_0
                      replace p162 := eq_true p162
                      replace q162 := eq_true q162
                      have ea_ := Option.some.inj (hx161_0.symm.trans hx162_0)
                      injection ea_ with ea_ en_ ec_
                      subst ea_
                      subst ec_
                      clear en_
                      go_wp2_with (first | ((with_reducible refine gate_callee (f := 20) rfl ?_); refine goesL_ (some 45) rfl rfl Try.func20 (by kernel_rfl) rfl #[.int .u8 ((x9_1) % 256), .slice A161_0 (rd_L1 l0 x9_1).length c161_0] rfl (by (try simp only [List.map_toArray, List.map_cons, List.map_nil]); first | done | rfl | (simp only [List.length_drop, List.length_take]; done) | (simp only [List.length_drop, List.length_take]; rfl)) ?_; (with_reducible refine (seal_Frame.calls k1 ((x9_1) % 256) _ _ (rd_L1 l0 x9_1) t163 t164 _ ?side1 ?side2 A14.out).mono ?_); (case side1 => repeat (first | exact (Kd.C_below HR162_0.out HB.out) | (with_reducible refine Kd.C_alloc ?_ _) | (with_reducible refine Kd.C_drewN ?_ _) | (with_reducible refine Kd.C_drew ?_))); (case side2 => exact HC162_0.out); rintro e w18 ⟨v165, rfl, ho0, hb⟩; refine ⟨_, rfl, ?_⟩; have n0_ := Aside0.mk (Kd.R_elder' (by (with_reducible repeat (first | apply Kd.R_alloc | apply Kd.R_drewN | apply Kd.R_drew)); exact HO_7.out) (Kd.R_base ho0) hb); have n1_ := Aside0.mk (Kd.R_below (by (with_reducible repeat (first | apply Kd.R_alloc | apply Kd.R_drewN | apply Kd.R_drew)); exact HO_8.out) hb); have n2_ := Aside0.mk (Kd.R_lower (Kd.R_new' ho0 (Kd.R_lt (by (with_reducible repeat (first | apply Kd.R_alloc | apply Kd.R_drewN | apply Kd.R_drew)); exact HO_7.out))) (below_size (by repeat (first | (with_reducible first | exact HB.out | apply below_alloc | apply pw_below_drewN | apply below_drew1 | refine below_set ?_ GE159.out) | exact HB.out)))); have n3_ := Aside0.mk (blk_below (g := gb159) (o := .cells #[.int .u16 a2_0, .int .u16 a2_1] 54 (0, 0)) (by (with_reducible repeat (first | refine blk_drewN ?_ _ | refine blk_drew ?_ | refine blk_alloc ?_ _)); exact BK159.out) hb); have n4_ := Aside0.mk (below_step (by repeat (first | (with_reducible first | exact HB.out | apply below_alloc | apply pw_below_drewN | apply below_drew1 | refine below_set ?_ GE159.out) | exact HB.out)) hb); clear HO_7; clear HO_8; clear BK159; clear HB; have HO_7 := n0_; have HO_8 := n1_; have HO166 := n2_; have BK159 := n3_; have HB := n4_; clear n0_ n1_ n2_ n3_ n4_; (try clear hb); (try clear hb2); (try clear hk); (try clear hi); (try clear ho0); obtain ⟨Ao20, co20, eo20⟩ := Kd.R_slice HO166.out; subst eo20) | ((with_reducible refine gate_builtin (b := .append) (xs := #[.tmp 50, .tmp 51]) rfl ?_); (try (refine gate_guard (by rfl) ?_; dsimp only)); at_builtin; refine Kd.R_append_rows (Kd.int .u8) (w0 := w) w.heap.size rfl (.tmp 50) (.tmp 51) 22 5 (.int .u8 0) 1 rfl Try.underlying22 info5 rfl (by decide) (by omega) u7 x7_1 t163 _ _ _ (fun k_ => some k_ ≠ (.slice Ao20 t163.length co20 : Value).ownBlock) (fun _ => False) rfl rfl ?aO ?aR (fun _ _ h => h) (fun _ h => h.elim) ?aF ?aB ?aS ?aL ?_; (case aR => repeat (first | exact (Kd.R_reads' HO166.out).2.2 | (with_reducible refine Kd.C_alloc ?_ _) | (with_reducible refine Kd.C_drewN ?_ _) | (with_reducible refine Kd.C_drew ?_))); (case aB => exact (by repeat (first | (with_reducible first | exact HB.out | apply below_alloc | apply pw_below_drewN | apply below_drew1 | refine below_set ?_ GE159.out) | exact HB.out))); (case aF => exact (fun k_ hk => Kd.fresh' (Kd.R_lt (by (with_reducible repeat (first | apply Kd.R_alloc | apply Kd.R_drewN | apply Kd.R_drew)); exact HO166.out)) k_ hk)); (case aO => exact (by (with_reducible repeat (first | apply Kd.R_alloc | apply Kd.R_drewN | apply Kd.R_drew)); exact Kd.R_mono HO_7.out (fun _ hk => hk.2))); (case aS => exact (below_size (by repeat (first | (with_reducible first | exact HB.out | apply below_alloc | apply pw_below_drewN | apply below_drew1 | refine below_set ?_ GE159.out) | exact HB.out)))); (case aL => have := LMc16.out; omega); intro v168 w19 ho hb hg hat; rw [← Ny167.out] at ho; have n0_ := Aside0.mk (Kd.R_over' (by (with_reducible repeat (first | apply Kd.R_alloc | apply Kd.R_drewN | apply Kd.R_drew)); exact HO_8.out) (Kd.R_typed (by (with_reducible repeat (first | apply Kd.R_alloc | apply Kd.R_drewN | apply Kd.R_drew)); exact HO_7.out)) (by decide) hg); have n1_ := Aside0.mk (blk_grown (g := gb159) (o := .cells #[.int .u16 a2_0, .int .u16 a2_1] 54 (0, 0)) (by (with_reducible repeat (first | refine blk_drewN ?_ _ | refine blk_drew ?_ | refine blk_alloc ?_ _)); exact BK159.out) hg (Kd.R_ne HO_7.out BK159.out (by decide))); have n2_ := Aside0.mk (Kd.R_after (ok := (fun _ => True)) (by (with_reducible repeat (first | apply Kd.R_alloc | apply Kd.R_drewN | apply Kd.R_drew)); exact HO166.out) hg hat); have n3_ := Aside0.mk (hb); have n4_ := Aside0.mk (ho); clear HO_8; clear BK159; clear HO166; clear HB; clear HO_7; have HO_8 := n0_; have BK159 := n1_; have HO166 := n2_; have HB := n3_; have HO169 := n4_; clear n0_ n1_ n2_ n3_ n4_; clear ho hb hg hat; obtain ⟨Ao21, co21, eo21⟩ := Kd.R_slice HO169.out; subst eo21) | ((with_reducible refine gate_builtin (b := .append) (xs := #[.tmp 53, .tmp 56]) rfl ?_); (try (refine gate_guard (by rfl) ?_; dsimp only)); at_builtin; refine Kd.R_append (Kd.int .i64) (w0 := w) w.heap.size rfl (.tmp 53) (.tmp 56) 55 3 (.int .i64 0) 8 rfl Try.underlying55 info3 rfl (by decide) (by omega) u8 x8_1 (y167.length : Int) [.int .i64 (y167.length : Int)] (fun _ => True) (fun _ => False) rfl rfl ?aP (fun _ hk => hk.elim) ?aF ?aO ?aB ?aS ?aL ?_; (case aP => exact rfl); (case aB => exact (by repeat (first | (with_reducible first | exact HB.out | apply below_alloc | apply pw_below_drewN | apply below_drew1 | refine below_set ?_ GE159.out) | exact HB.out))); (case aF => exact (fun _ _ => trivial)); (case aO => exact (by (with_reducible repeat (first | apply Kd.R_alloc | apply Kd.R_drewN | apply Kd.R_drew)); exact HO_8.out)); (case aS => exact (below_size (by repeat (first | (with_reducible first | exact HB.out | apply below_alloc | apply pw_below_drewN | apply below_drew1 | refine below_set ?_ GE159.out) | exact HB.out)))); (case aL => have := LMc17.out; omega); intro v171 w22 ho hb hg hat; rw [← Ny170.out] at ho; have n0_ := Aside0.mk (blk_grown (g := gb159) (o := .cells #[.int .u16 a2_0, .int .u16 a2_1] 54 (0, 0)) (by (with_reducible repeat (first | refine blk_drewN ?_ _ | refine blk_drew ?_ | refine blk_alloc ?_ _)); exact BK159.out) hg (Kd.R_ne HO_8.out BK159.out (by decide))); have n1_ := Aside0.mk (Kd.R_over' (by (with_reducible repeat (first | apply Kd.R_alloc | apply Kd.R_drewN | apply Kd.R_drew)); exact HO166.out) (Kd.R_typed (by (with_reducible repeat (first | apply Kd.R_alloc | apply Kd.R_drewN | apply Kd.R_drew)); exact HO_8.out)) (by decide) hg); have n2_ := Aside0.mk (Kd.R_over' (by (with_reducible repeat (first | apply Kd.R_alloc | apply Kd.R_drewN | apply Kd.R_drew)); exact HO169.out) (Kd.R_typed (by (with_reducible repeat (first | apply Kd.R_alloc | apply Kd.R_drewN | apply Kd.R_drew)); exact HO_8.out)) (by decide) hg); have n3_ := Aside0.mk (hb); have n4_ := Aside0.mk (ho); clear BK159; clear HO166; clear HO169; clear HB; clear HO_8; have BK159 := n0_; have HO166 := n1_; have HO169 := n2_; have HB := n3_; have HO172 := n4_; clear n0_ n1_ n2_ n3_ n4_; clear ho hb hg hat))
                      go_roundg k1
                      case measure => have := HK1.out; omega
                      case rel => exact ⟨(y167), (y170), (wrap64 (x9_1 + 1)), (by first | rfl | (simp; done) | (simp [*]; done)), H', ⟨by have := HK1.out; omega⟩, ⟨by (with_reducible repeat (first | apply Kd.R_alloc | apply Kd.R_drewN | apply Kd.R_drew)); exact Kd.R_mono HO169.out (fun _ hk => trivial)⟩, ⟨by (with_reducible repeat (first | apply Kd.R_alloc | apply Kd.R_drewN | apply Kd.R_drew)); exact HO172.out⟩, ⟨by (with_reducible repeat (first | refine blk_drewN ?_ _ | refine blk_drew ?_ | refine blk_alloc ?_ _)); exact BK159.out⟩, ⟨by repeat (first | (with_reducible first | exact HB.out | apply below_alloc | apply pw_below_drewN | apply below_drew1 | refine below_set ?_ GE159.out) | exact HB.out)⟩⟩
                    · rw [if_neg c17] at H
                      exact absurd H (by simp)
                  · rw [if_neg c16] at H
                    exact absurd H (by simp)
                · rw [if_neg c15] at H
                  have c15b0 : (t164 == 0) = false := beq_eq_false_iff_ne.mpr c15
                  have c15b1 : (t164 != 0) = true := bne_iff_ne.mpr c15
                  exact absurd H (by rw [HLT.out]; repeat' first | (with_reducible exact dead_none) | (with_reducible exact dead_false) | (with_reducible refine dead_ite ?_ ?_) | (with_reducible refine dead_bind (fun _ => ?_)) | (refine dead_ite ?_ ?_) | (refine dead_bind (fun _ => ?_)) | (simp; done))
            · rw [if_neg c12] at H
              exact absurd H (by simp)
          · rw [if_neg c11] at H
            have c11b0 : decide (x9_1 < (l0.length : Int)) = false := decide_eq_false c11
            clear c11
            by_cases c23 : (wrap64 ((x7_1.length : Int) + 1)) = 0
            · rw [if_pos c23] at H
              exact absurd H (by simp)
            · rw [if_neg c23] at H
              have c23b0 : ((wrap64 ((x7_1.length : Int) + 1)) == 0) = false := beq_eq_false_iff_ne.mpr c23
              have c23b1 : ((wrap64 ((x7_1.length : Int) + 1)) != 0) = true := bne_iff_ne.mpr c23
              have HC24 := Aside0.mk H
              clear H
              obtain ⟨Ao25, co25, eo25⟩ := Kd.R_slice HO_7.out
              subst eo25
              go_upto_block 2 with (fail)
              go_cut [13, 14] (fun v13 v14 wc => ∃ (kq : Nat) (x13_23 : Int) (x14_23 : Int), v13 = .int .i64 x13_23 ∧ v14 = .int .i64 x14_23 ∧ Aside0 (gazetteerlaw8_SealCuts.j2 kq l0 x7_1 (Int.tmod (wrap64 (a1)) (wrap64 ((x7_1.length : Int) + 1))) x13_23 x14_23 a2_0 a2_1 = some r) ∧ Aside0 (kq ≤ k1) ∧ Aside0 (Kd.R (Kd.int .u8) 5 wc w.heap.size (fun _ => True) (.slice Ao25 x7_1.length co25) x7_1) ∧ Aside0 (wc.heap[gb159]? = some (.cells #[.int .u16 a2_0, .int .u16 a2_1] 54 (0, 0))) ∧ Aside0 (Below w.heap.size w wc))
              case first =>
                have H := HC24.out
                clear HC24
                have H' := Aside0.mk H
                clear H
                go_wp2
                go_loopg [13, 14] k1 (fun kq v13 v14 w' => ∃ (x13_2 : Int) (x14_2 : Int), v13 = .int .i64 x13_2 ∧ v14 = .int .i64 x14_2 ∧ Aside0 (gazetteerlaw8_SealCuts.l1 kq l0 x7_1 x8_1 (Int.tmod (wrap64 (a1)) (wrap64 ((x7_1.length : Int) + 1))) x13_2 x14_2 a2_0 a2_1 = some r) ∧ Aside0 (kq ≤ k1) ∧ Aside0 (Kd.R (Kd.int .u8) 5 w' w.heap.size (fun _ => True) (.slice Ao25 x7_1.length co25) x7_1) ∧ Aside0 (Kd.R (Kd.int .i64) 3 w' w.heap.size (fun _ => True) u8 x8_1) ∧ Aside0 (w'.heap[gb159]? = some (.cells #[.int .u16 a2_0, .int .u16 a2_1] 54 (0, 0))) ∧ Aside0 (Below w.heap.size w w'))
                case atStart => exact ⟨(0), (0), (by first | rfl | (simp; done) | (simp [*]; done)), (by first | rfl | (simp; done) | (simp [*]; done)), H', ⟨Nat.le_refl _⟩, ⟨by (with_reducible repeat (first | apply Kd.R_alloc | apply Kd.R_drewN | apply Kd.R_drew)); exact HO_7.out⟩, ⟨by (with_reducible repeat (first | apply Kd.R_alloc | apply Kd.R_drewN | apply Kd.R_drew)); exact HO_8.out⟩, ⟨by (with_reducible repeat (first | refine blk_drewN ?_ _ | refine blk_drew ?_ | refine blk_alloc ?_ _)); exact BK159.out⟩, ⟨by repeat (first | (with_reducible first | exact HB.out | apply below_alloc | apply pw_below_drewN | apply below_drew1 | refine below_set ?_ GE159.out) | exact HB.out)⟩⟩
                case round =>
                  clear H'
                  try clear c1
                  try clear p1
                  try clear q1
                  try clear hx1
                  try clear c2
                  try clear p2
                  try clear c5
                  try clear c6
                  try clear c6b0
                  try clear c6b1
                  try clear p6
                  try clear c8
                  try clear c11
                  try clear c11b0
                  try clear c12
                  try clear c12b0
                  try clear c13
                  try clear c13b0
                  try clear c13b1
                  try clear c15
                  try clear c15b0
                  try clear c15b1
                  try clear c16
                  try clear p16
                  try clear q16
                  try clear hx16
                  try clear c17
                  try clear c19
                  try clear c20
                  try clear c23
                  try clear c23b0
                  try clear c23b1
                  try clear hx161_0
                  try clear hx162_0
                  try clear p161
                  try clear p162
                  try clear p2
                  try clear q161
                  try clear q162
                  obtain ⟨x13_2, x14_2, rfl, rfl, HA, HK2, HO_7, HO_8, BK159, HB⟩ := hrel
                  cases gk with
                  | zero => exact absurd HA.out (by simp [gazetteerlaw8_SealCuts.l1])
                  | succ k2 =>
                    have H := HA.out
                    clear HA
                    simp only [gazetteerlaw8_SealCuts.l1] at H
                    by_cases c26 : x13_2 < (x8_1.length : Int)
                    · rw [if_pos c26] at H
                      have c26b0 : decide (x13_2 < (x8_1.length : Int)) = true := decide_eq_true c26
                      clear c26
                      (first | rw [c26b0] | (simp only [i64_w, i32_w]; rw [c26b0]) | skip)
                      by_cases c27 : 0 ≤ x13_2
                      · rw [if_pos c27] at H
                        have c27b0 : decide (0 ≤ x13_2) = true := decide_eq_true c27
                        clear c27
                        by_cases c28 : (rd x8_1 x13_2) ≤ (Int.tmod (wrap64 (a1)) (wrap64 ((x7_1.length : Int) + 1)))
                        · rw [if_pos c28] at H
                          have c28b0 : decide ((rd x8_1 x13_2) ≤ (Int.tmod (wrap64 (a1)) (wrap64 ((x7_1.length : Int) + 1)))) = true := decide_eq_true c28
                          clear c28
                          have H' := Aside0.mk H
                          clear H
                          obtain ⟨Ao29, co29, eo29⟩ := Kd.R_slice HO_8.out
                          subst eo29
                          have p173 : 0 ≤ (x13_2 : Int) := of_decide_eq_true (by first | (with_reducible assumption) | assumption)
                          have q173 : x13_2 < (x8_1.length : Int) := of_decide_eq_true (by first | (with_reducible assumption) | assumption)
                          obtain ⟨ad173, e173, hx173_0⟩ := Kd.at_int (Kd.R_reads' HO_8.out).2.2 x13_2 p173 q173
                          cases e173
                          replace p173 := eq_true p173
                          replace q173 := eq_true q173
                          have p174 : 0 ≤ (x13_2 : Int) := of_decide_eq_true (by first | (with_reducible assumption) | assumption)
                          have q174 : x13_2 < (x8_1.length : Int) := of_decide_eq_true (by first | (with_reducible assumption) | assumption)
                          obtain ⟨ad174, e174, hx174_0⟩ := Kd.at_int (Kd.R_reads' HO_8.out).2.2 x13_2 p174 q174
                          obtain rfl : ad173 = ad174 := (by injection e174)
                          replace p174 := eq_true p174
                          replace q174 := eq_true q174
                          go_wp2
                          go_roundg k2
                          case measure => have := HK1.out; have := HK2.out; omega
                          case rel => exact ⟨(wrap64 (x13_2 + 1)), (rd x8_1 x13_2), (by first | rfl | (simp; done) | (simp [*]; done)), (by first | rfl | (simp; done) | (simp [*]; done)), H', ⟨by have := HK1.out; have := HK2.out; omega⟩, ⟨by (with_reducible repeat (first | apply Kd.R_alloc | apply Kd.R_drewN | apply Kd.R_drew)); exact HO_7.out⟩, ⟨by (with_reducible repeat (first | apply Kd.R_alloc | apply Kd.R_drewN | apply Kd.R_drew)); exact HO_8.out⟩, ⟨by (with_reducible repeat (first | refine blk_drewN ?_ _ | refine blk_drew ?_ | refine blk_alloc ?_ _)); exact BK159.out⟩, ⟨by repeat (first | (with_reducible first | exact HB.out | apply below_alloc | apply pw_below_drewN | apply below_drew1 | refine below_set ?_ GE159.out) | exact HB.out)⟩⟩
                        · rw [if_neg c28] at H
                          have c28b0 : decide ((rd x8_1 x13_2) ≤ (Int.tmod (wrap64 (a1)) (wrap64 ((x7_1.length : Int) + 1)))) = false := decide_eq_false c28
                          clear c28
                          have H' := Aside0.mk H
                          clear H
                          obtain ⟨Ao30, co30, eo30⟩ := Kd.R_slice HO_8.out
                          subst eo30
                          have p173 : 0 ≤ (x13_2 : Int) := of_decide_eq_true (by first | (with_reducible assumption) | assumption)
                          have q173 : x13_2 < (x8_1.length : Int) := of_decide_eq_true (by first | (with_reducible assumption) | assumption)
                          obtain ⟨ad173, e173, hx173_0⟩ := Kd.at_int (Kd.R_reads' HO_8.out).2.2 x13_2 p173 q173
                          cases e173
                          replace p173 := eq_true p173
                          replace q173 := eq_true q173
                          go_wp2
                          go_meet
                          case rel => exact ⟨_, (x13_2), (x14_2), (by first | rfl | (simp; done) | (simp [*]; done)), (by first | rfl | (simp; done) | (simp [*]; done)), H', ⟨by have := HK1.out; have := HK2.out; first | omega | exact Nat.le_refl _⟩, ⟨by (with_reducible repeat (first | apply Kd.R_alloc | apply Kd.R_drewN | apply Kd.R_drew)); exact HO_7.out⟩, ⟨by (with_reducible repeat (first | refine blk_drewN ?_ _ | refine blk_drew ?_ | refine blk_alloc ?_ _)); exact BK159.out⟩, ⟨by repeat (first | (with_reducible first | exact HB.out | apply below_alloc | apply pw_below_drewN | apply below_drew1 | refine below_set ?_ GE159.out) | exact HB.out)⟩⟩
                      · rw [if_neg c27] at H
                        exact absurd H (by simp)
                    · rw [if_neg c26] at H
                      have c26b0 : decide (x13_2 < (x8_1.length : Int)) = false := decide_eq_false c26
                      clear c26
                      (first | rw [c26b0] | (simp only [i64_w, i32_w]; rw [c26b0]) | skip)
                      have H' := Aside0.mk H
                      clear H
                      obtain ⟨Ao31, co31, eo31⟩ := Kd.R_slice HO_8.out
                      subst eo31
                      go_wp2
                      go_meet
                      case rel => exact ⟨_, (x13_2), (x14_2), (by first | rfl | (simp; done) | (simp [*]; done)), (by first | rfl | (simp; done) | (simp [*]; done)), H', ⟨by have := HK1.out; have := HK2.out; first | omega | exact Nat.le_refl _⟩, ⟨by (with_reducible repeat (first | apply Kd.R_alloc | apply Kd.R_drewN | apply Kd.R_drew)); exact HO_7.out⟩, ⟨by (with_reducible repeat (first | refine blk_drewN ?_ _ | refine blk_drew ?_ | refine blk_alloc ?_ _)); exact BK159.out⟩, ⟨by repeat (first | (with_reducible first | exact HB.out | apply below_alloc | apply pw_below_drewN | apply below_drew1 | refine below_set ?_ GE159.out) | exact HB.out)⟩⟩
              case rest =>
                clear HC24
                try clear c1
                try clear p1
                try clear q1
                try clear hx1
                try clear c2
                try clear p2
                try clear c5
                try clear c6
                try clear c6b0
                try clear c6b1
                try clear p6
                try clear c8
                try clear c11
                try clear c11b0
                try clear c12
                try clear c12b0
                try clear c13
                try clear c13b0
                try clear c13b1
                try clear c15
                try clear c15b0
                try clear c15b1
                try clear c16
                try clear p16
                try clear q16
                try clear hx16
                try clear c17
                try clear p17
                try clear q17
                try clear hx17
                try clear c19
                try clear c20
                try clear c23
                try clear c23b0
                try clear c23b1
                try clear c26
                try clear c26b0
                try clear c27
                try clear c27b0
                try clear c28
                try clear c28b0
                try clear hx161_0
                try clear hx162_0
                try clear hx173_0
                try clear hx174_0
                try clear p1
                try clear p16
                try clear p161
                try clear p162
                try clear p173
                try clear p174
                try clear p2
                try clear p6
                try clear q1
                try clear q16
                try clear q161
                try clear q162
                try clear q173
                try clear q174
                obtain ⟨kq, x13_23, x14_23, rfl, rfl, HA, HJ23, HO_7, BK159, HB⟩ := hcut
                cases kq with
                | zero => exact absurd HA.out (by simp [gazetteerlaw8_SealCuts.j2])
                | succ kj23 =>
                  have H := HA.out
                  clear HA
                  simp only [gazetteerlaw8_SealCuts.j2] at H
                  obtain ⟨ji32, hji32⟩ : ∃ j_ : Int, (Int.tmod (wrap64 (a1)) (wrap64 ((x7_1.length : Int) + 1))) = j_ := ⟨_, rfl⟩
                  replace H : (if 0 ≤ (ji32) then (if (ji32) ≤ (x7_1.length : Int) then ((seal_All.f kj23 (x7_1.take ((ji32) : Int).toNat)).bind fun bt179 => (if (bt179.1.length : Int) = x13_23 then (gazetteerlaw8_SealCuts.j3 kj23 l0 x7_1 (bt179.2 != x14_23) a2_0 a2_1) else (gazetteerlaw8_SealCuts.j3 kj23 l0 x7_1 true a2_0 a2_1))) else (none)) else (none)) = some r := by first | (rw [hji32] at H; exact H) | (simp only [hji32] at H ⊢; exact H)
                  by_cases c33 : 0 ≤ (ji32)
                  · rw [if_pos c33] at H
                    have c33b0 := eq_true c33
                    have c33b1 : decide (0 ≤ (ji32)) = true := decide_eq_true c33
                    clear c33
                    by_cases c34 : (ji32) ≤ (x7_1.length : Int)
                    · rw [if_pos c34] at H
                      have c34b0 := eq_true c34
                      have c34b1 : decide ((ji32) ≤ (x7_1.length : Int)) = true := decide_eq_true c34
                      clear c34
                      obtain ⟨y175, hy175⟩ : ∃ y_ : List Int, y_ = (x7_1.take ((ji32) : Int).toNat) := ⟨_, rfl⟩
                      replace H : ((seal_All.f kj23 y175).bind fun bt179 => (if (bt179.1.length : Int) = x13_23 then (gazetteerlaw8_SealCuts.j3 kj23 l0 x7_1 (bt179.2 != x14_23) a2_0 a2_1) else (gazetteerlaw8_SealCuts.j3 kj23 l0 x7_1 true a2_0 a2_1))) = some r := by first | (rw [hy175]; with_reducible exact H) | (have H2_ := (Option.bind_some _ _).symm.trans H; rw [hy175]; with_reducible exact H2_) | (have H2_ := (Option.bind_some _ _).symm.trans H; with_reducible exact H2_) | with_reducible exact H | (rw [hy175]; exact H) | exact H
                      have Ny175 := Aside0.mk hy175
                      clear hy175
                      replace H := Option.bind_eq_some_iff.mp H
                      obtain ⟨⟨t179, t180⟩, A350, H⟩ := H
                      replace H : (if (t179.length : Int) = x13_23 then (gazetteerlaw8_SealCuts.j3 kj23 l0 x7_1 (t180 != x14_23) a2_0 a2_1) else (gazetteerlaw8_SealCuts.j3 kj23 l0 x7_1 true a2_0 a2_1)) = some r := H
                      have A35 := Aside0.mk A350
                      clear A350
                      have HC36 := Aside0.mk H
                      clear H
                      have q37 : ((ji32) : Int) ≤ ((x7_1.length : Int) : Int) := of_decide_eq_true (by first | (with_reducible assumption) | assumption)
                      obtain ⟨i037, hi037, _, hsz37, _⟩ := info_parts info5
                      have hroom37 : x7_1.length ≤ co25 := (Kd.R_reads' HO_7.out).2.1
                      have hC37 : Kd.C (Kd.int .u8) _ Ao25 x7_1.length x7_1 := (Kd.R_reads' HO_7.out).2.2
                      have hcut37 := cut_to (P := Try.prog) 22 5 .i64 Try.underlying22 hi037 Ao25 x7_1.length co25 (ji32) (of_decide_eq_true (by first | (with_reducible assumption) | assumption)) q37 hroom37
                      have hr37 := Kd.C_take (m := ((ji32) : Int).toNat) hC37 (by omega)
                      have hy37 : y175.length = ((ji32) : Int).toNat := (by rw [Ny175.out, List.length_take]; omega)
                      rw [← Ny175.out] at hr37
                      rw [← hy37] at hcut37
                      have HR178 := Aside0.mk hr37
                      have HC178 := Aside0.mk (show y175.length ≤ co25 from by omega)
                      clear hr37 hC37 hroom37 hi037 hsz37
                      have KY37 := Aside0.mk hy37
                      clear hy37
                      have KL37 := Aside0.mk (show ((ji32) : Int).toNat ≤ x7_1.length from by omega)
                      replace q37 := eq_true q37
                      go_upto_region 23 with (first | ((with_reducible refine gate_callee (f := 29) rfl ?_); refine goesL_ (some 86) rfl rfl Try.func29 (by kernel_rfl) rfl #[.slice Ao25 y175.length co25] rfl (by (try simp only [List.map_toArray, List.map_cons, List.map_nil]); first | done | rfl | (simp only [List.length_drop, List.length_take]; done) | (simp only [List.length_drop, List.length_take]; rfl)) ?_; (with_reducible refine (seal_All.calls kj23 _ _ y175 t179 t180 _ ?side1 ?side2 A35.out).mono ?_); (case side1 => repeat (first | exact (by repeat (first | (with_reducible exact HR178.out) | (with_reducible refine Kd.C_alloc ?_ _) | (with_reducible refine Kd.C_drewN ?_ _) | (with_reducible refine Kd.C_drew ?_) | exact HR178.out)) | (with_reducible refine Kd.C_alloc ?_ _) | (with_reducible refine Kd.C_drewN ?_ _) | (with_reducible refine Kd.C_drew ?_))); (case side2 => exact HC178.out); rintro e w38 ⟨v181, rfl, ho0, hb⟩; refine ⟨_, rfl, ?_⟩; have n0_ := Aside0.mk (Kd.R_below (by (with_reducible repeat (first | apply Kd.R_alloc | apply Kd.R_drewN | apply Kd.R_drew)); exact HO_7.out) hb); have n1_ := Aside0.mk (Kd.S_lower (Kd.S_new' ho0 (Kd.R_lt (by (with_reducible repeat (first | apply Kd.R_alloc | apply Kd.R_drewN | apply Kd.R_drew)); exact HO_7.out))) (below_size (by repeat (first | (with_reducible first | exact HB.out | apply below_alloc | apply pw_below_drewN | apply below_drew1 | refine below_set ?_ GE159.out) | exact HB.out)))); have n2_ := Aside0.mk (blk_below (g := gb159) (o := .cells #[.int .u16 a2_0, .int .u16 a2_1] 54 (0, 0)) (by (with_reducible repeat (first | refine blk_drewN ?_ _ | refine blk_drew ?_ | refine blk_alloc ?_ _)); exact BK159.out) hb); have n3_ := Aside0.mk (Kd.C_below (by repeat (first | (with_reducible exact HR178.out) | (with_reducible refine Kd.C_alloc ?_ _) | (with_reducible refine Kd.C_drewN ?_ _) | (with_reducible refine Kd.C_drew ?_) | exact HR178.out)) hb); have n4_ := Aside0.mk (below_step (by repeat (first | (with_reducible first | exact HB.out | apply below_alloc | apply pw_below_drewN | apply below_drew1 | refine below_set ?_ GE159.out) | exact HB.out)) hb); clear HO_7; clear BK159; clear HR178; clear HB; have HO_7 := n0_; have HO182 := n1_; have BK159 := n2_; have HR178 := n3_; have HB := n4_; clear n0_ n1_ n2_ n3_ n4_; (try clear hb); (try clear hb2); (try clear hk); (try clear hi); (try clear ho0)))
                      (try simp only [Act.put, List.setIfInBounds_toArray, List.set_cons_zero, List.set_cons_succ])
                      go_cut [97] (fun v97 wc => ∃ (kq : Nat) (x97_35 : Bool), v97 = .bool x97_35 ∧ Aside0 (gazetteerlaw8_SealCuts.j3 kq l0 x7_1 x97_35 a2_0 a2_1 = some r) ∧ Aside0 (kq ≤ kj23) ∧ Aside0 (Kd.R (Kd.int .u8) 5 wc w.heap.size (fun _ => True) (.slice Ao25 x7_1.length co25) x7_1) ∧ Aside0 (wc.heap[gb159]? = some (.cells #[.int .u16 a2_0, .int .u16 a2_1] 54 (0, 0))) ∧ Aside0 (Kd.C (Kd.int .u8) wc Ao25 y175.length y175) ∧ Aside0 (Below w.heap.size w wc))
                      case first =>
                        have H := HC36.out
                        clear HC36
                        by_cases c39 : (t179.length : Int) = x13_23
                        · rw [if_pos c39] at H
                          have c39b0 : ((t179.length : Int) == x13_23) = true := beq_iff_eq.mpr c39
                          have c39b1 : ((t179.length : Int) != x13_23) = false := bne_eq_false_iff_eq.mpr c39
                          clear c39
                          (first | rw [c39b0] | (simp only [i64_w, i32_w]; rw [c39b0]) | skip)
                          have H' := Aside0.mk H
                          clear H
                          obtain ⟨Ao40, co40, eo40⟩ := Kd.S_slice HO182.out
                          subst eo40
                          go_wp2
                          go_meet
                          case rel => exact ⟨_, ((t180 != x14_23)), (by first | rfl | (simp; done) | (simp [*]; done)), H', ⟨by have := HK1.out; have := HJ23.out; first | omega | exact Nat.le_refl _⟩, ⟨by (with_reducible repeat (first | apply Kd.R_alloc | apply Kd.R_drewN | apply Kd.R_drew)); exact HO_7.out⟩, ⟨by (with_reducible repeat (first | refine blk_drewN ?_ _ | refine blk_drew ?_ | refine blk_alloc ?_ _)); exact BK159.out⟩, ⟨by repeat (first | (with_reducible exact HR178.out) | (with_reducible refine Kd.C_alloc ?_ _) | (with_reducible refine Kd.C_drewN ?_ _) | (with_reducible refine Kd.C_drew ?_) | exact HR178.out)⟩, ⟨by repeat (first | (with_reducible first | exact HB.out | apply below_alloc | apply pw_below_drewN | apply below_drew1 | refine below_set ?_ GE159.out) | exact HB.out)⟩⟩
                        · rw [if_neg c39] at H
                          have c39b0 : ((t179.length : Int) == x13_23) = false := beq_eq_false_iff_ne.mpr c39
                          have c39b1 : ((t179.length : Int) != x13_23) = true := bne_iff_ne.mpr c39
                          (first | rw [c39b0] | (simp only [i64_w, i32_w]; rw [c39b0]) | skip)
                          have H' := Aside0.mk H
                          clear H
                          obtain ⟨Ao41, co41, eo41⟩ := Kd.S_slice HO182.out
                          subst eo41
                          go_wp2
                          go_meet
                          case rel => exact ⟨_, (true), (by first | rfl | (simp; done) | (simp [*]; done)), H', ⟨by have := HK1.out; have := HJ23.out; first | omega | exact Nat.le_refl _⟩, ⟨by (with_reducible repeat (first | apply Kd.R_alloc | apply Kd.R_drewN | apply Kd.R_drew)); exact HO_7.out⟩, ⟨by (with_reducible repeat (first | refine blk_drewN ?_ _ | refine blk_drew ?_ | refine blk_alloc ?_ _)); exact BK159.out⟩, ⟨by repeat (first | (with_reducible exact HR178.out) | (with_reducible refine Kd.C_alloc ?_ _) | (with_reducible refine Kd.C_drewN ?_ _) | (with_reducible refine Kd.C_drew ?_) | exact HR178.out)⟩, ⟨by repeat (first | (with_reducible first | exact HB.out | apply below_alloc | apply pw_below_drewN | apply below_drew1 | refine below_set ?_ GE159.out) | exact HB.out)⟩⟩
                      case rest =>
                        clear HC36
                        try clear c1
                        try clear p1
                        try clear q1
                        try clear hx1
                        try clear c2
                        try clear p2
                        try clear c3
                        try clear q3
                        try clear c5
                        try clear c6
                        try clear c6b0
                        try clear c6b1
                        try clear p6
                        try clear c8
                        try clear c11
                        try clear c11b0
                        try clear c12
                        try clear c12b0
                        try clear c13
                        try clear c13b0
                        try clear c13b1
                        try clear c15
                        try clear c15b0
                        try clear c15b1
                        try clear c16
                        try clear p16
                        try clear q16
                        try clear hx16
                        try clear c17
                        try clear p17
                        try clear q17
                        try clear hx17
                        try clear c19
                        try clear c20
                        try clear c23
                        try clear c23b0
                        try clear c23b1
                        try clear c26
                        try clear c26b0
                        try clear c27
                        try clear c27b0
                        try clear c28
                        try clear c28b0
                        try clear c29
                        try clear c33
                        try clear c33b0
                        try clear c33b1
                        try clear c34
                        try clear c34b0
                        try clear c34b1
                        try clear q37
                        try clear c39
                        try clear c39b0
                        try clear c39b1
                        try clear hx161_0
                        try clear hx162_0
                        try clear hx173_0
                        try clear hx174_0
                        try clear p1
                        try clear p16
                        try clear p161
                        try clear p162
                        try clear p17
                        try clear p173
                        try clear p174
                        try clear p2
                        try clear p6
                        try clear q1
                        try clear q16
                        try clear q161
                        try clear q162
                        try clear q17
                        try clear q173
                        try clear q174
                        try clear q37
                        obtain ⟨kq, x97_35, rfl, HA, HJ35, HO_7, BK159, HR178, HB⟩ := hcut
                        cases kq with
                        | zero => exact absurd HA.out (by simp [gazetteerlaw8_SealCuts.j3])
                        | succ kj35 =>
                          have H := HA.out
                          clear HA
                          simp only [gazetteerlaw8_SealCuts.j3] at H
                          by_cases c42 : x97_35 = true
                          · subst c42
                            have H1 : (some false) = some r := by rw [if_pos rfl] at H; exact H
                            clear H
                            have H := H1
                            clear H1
                            exact absurd H (by rw [HLT.out]; repeat' first | (with_reducible exact dead_none) | (with_reducible exact dead_false) | (with_reducible refine dead_ite ?_ ?_) | (with_reducible refine dead_bind (fun _ => ?_)) | (refine dead_ite ?_ ?_) | (refine dead_bind (fun _ => ?_)) | (simp; done))
                          · replace c42 := Bool.eq_false_iff.mpr c42
                            subst c42
                            have H1 : (if (l0.length : Int) = 0 then (some true) else (if 0 < (l0.length : Int) then (if ((rd_L1 l0 0).length : Int) = 0 then (some true) else (if (Go.bits .and .u16 a2_1 255) = 0 then (some true) else (if (x7_1.length : Int) < (wrap64 (7 + ((rd_L1 l0 0).length : Int))) then (some true) else (if 0 ≤ (wrap64 (7 + (Int.tmod (wrap64 (a2_0)) ((rd_L1 l0 0).length : Int)))) then (if (wrap64 (7 + (Int.tmod (wrap64 (a2_0)) ((rd_L1 l0 0).length : Int)))) < (x7_1.length : Int) then ((seal_Open.f kj35 (x7_1.set ((wrap64 (7 + (Int.tmod (wrap64 (a2_0)) ((rd_L1 l0 0).length : Int)))) : Int).toNat (Go.bits .xor .u8 (rd x7_1 (wrap64 (7 + (Int.tmod (wrap64 (a2_0)) ((rd_L1 l0 0).length : Int))))) ((a2_1) % 256)))).bind fun bt188 => (some (bt188.2.2.2 == 6))) else (none)) else (none))))) else (none))) = some r := by rw [if_neg (show ¬ (false = true) by decide)] at H; exact H
                            clear H
                            have H := H1
                            clear H1
                            by_cases c43 : (l0.length : Int) = 0
                            · rw [if_pos c43] at H
                              have c43b0 : ((l0.length : Int) == 0) = true := beq_iff_eq.mpr c43
                              have c43b1 : ((l0.length : Int) != 0) = false := bne_eq_false_iff_eq.mpr c43
                              clear c43
                              obtain rfl := Option.some.inj H
                              go_wp2
                              go_ret
                              exact ⟨by first | rfl | (simp [errW_none, errW_some] <;> rfl) | (simp only [← hji32]; first | rfl | (simp [errW_none, errW_some] <;> rfl)) | (simp [*, errW_none, errW_some] <;> rfl), by repeat (first | (with_reducible first | exact HB.out | apply below_alloc | apply pw_below_drewN | apply below_drew1 | refine below_set ?_ GE159.out) | exact HB.out)⟩
                            · rw [if_neg c43] at H
                              have c43b0 : ((l0.length : Int) == 0) = false := beq_eq_false_iff_ne.mpr c43
                              have c43b1 : ((l0.length : Int) != 0) = true := bne_iff_ne.mpr c43
                              have c43b2 : ¬ (l0 = []) := fun h_ => c43 (by rw [h_]; rfl)
                              by_cases c44 : 0 < (l0.length : Int)
                              · rw [if_pos c44] at H
                                have c44b0 : decide (0 < (l0.length : Int)) = true := decide_eq_true c44
                                have c44b1 : decide (0 < l0.length) = true := decide_eq_true (by omega)
                                clear c44
                                by_cases c45 : ((rd_L1 l0 0).length : Int) = 0
                                · rw [if_pos c45] at H
                                  have c45b0 : (((rd_L1 l0 0).length : Int) == 0) = true := beq_iff_eq.mpr c45
                                  have c45b1 : (((rd_L1 l0 0).length : Int) != 0) = false := bne_eq_false_iff_eq.mpr c45
                                  clear c45
                                  obtain rfl := Option.some.inj H
                                  have p183 : 0 ≤ (0 : Int) := (by omega)
                                  have q183 : 0 < (l0.length : Int) := of_decide_eq_true (by first | (with_reducible assumption) | assumption)
                                  obtain ⟨ad183, A183_0, c183_0, e183, hx183_0, hl183_0, hi183_0⟩ := at_L1 HR0.out 0 p183 q183
                                  cases e183
                                  have qi183 : (0 < l0.length) = True := eq_true (by omega)
                                  (try rw [show ((0 : Int)).toNat = 0 from rfl] at hx183_0)
                                  (try rw [Addr.add_zero'] at hx183_0)
                                  replace hx183_0 := (HB.out.cell (World.block_lt_of_cell? w _ hx183_0)).trans hx183_0
                                  have HR183_0 := Aside0.mk hi183_0
                                  have HC183_0 := Aside0.mk hl183_0
                                  clear hi183_0 hl183_0
                                  replace p183 := eq_true p183
                                  replace q183 := eq_true q183
                                  go_wp2
                                  go_ret
                                  exact ⟨by first | rfl | (simp [errW_none, errW_some] <;> rfl) | (simp only [← hji32]; first | rfl | (simp [errW_none, errW_some] <;> rfl)) | (simp [*, errW_none, errW_some] <;> rfl), by repeat (first | (with_reducible first | exact HB.out | apply below_alloc | apply pw_below_drewN | apply below_drew1 | refine below_set ?_ GE159.out) | exact HB.out)⟩
                                · rw [if_neg c45] at H
                                  have c45b0 : (((rd_L1 l0 0).length : Int) == 0) = false := beq_eq_false_iff_ne.mpr c45
                                  have c45b1 : (((rd_L1 l0 0).length : Int) != 0) = true := bne_iff_ne.mpr c45
                                  have c45b2 : ¬ ((rd_L1 l0 0) = []) := fun h_ => c45 (by rw [h_]; rfl)
                                  by_cases c46 : (Go.bits .and .u16 a2_1 255) = 0
                                  · rw [if_pos c46] at H
                                    have c46b0 : ((Go.bits .and .u16 a2_1 255) == 0) = true := beq_iff_eq.mpr c46
                                    have c46b1 : ((Go.bits .and .u16 a2_1 255) != 0) = false := bne_eq_false_iff_eq.mpr c46
                                    clear c46
                                    obtain rfl := Option.some.inj H
                                    have p183 : 0 ≤ (0 : Int) := (by omega)
                                    have q183 : 0 < (l0.length : Int) := of_decide_eq_true (by first | (with_reducible assumption) | assumption)
                                    obtain ⟨ad183, A183_0, c183_0, e183, hx183_0, hl183_0, hi183_0⟩ := at_L1 HR0.out 0 p183 q183
                                    cases e183
                                    have qi183 : (0 < l0.length) = True := eq_true (by omega)
                                    (try rw [show ((0 : Int)).toNat = 0 from rfl] at hx183_0)
                                    (try rw [Addr.add_zero'] at hx183_0)
                                    replace hx183_0 := (HB.out.cell (World.block_lt_of_cell? w _ hx183_0)).trans hx183_0
                                    have HR183_0 := Aside0.mk hi183_0
                                    have HC183_0 := Aside0.mk hl183_0
                                    clear hi183_0 hl183_0
                                    replace p183 := eq_true p183
                                    replace q183 := eq_true q183
                                    have hcz47_0 : wc.cell? ⟨gb159, 0, none⟩ = some (.int .u16 a2_0) := (blk_cell BK159.out 0).trans rfl
                                    have hcz47_1 : wc.cell? ⟨gb159, 1, none⟩ = some (.int .u16 a2_1) := (blk_cell BK159.out 1).trans rfl
                                    have hfz47_0 := blk_frozen BK159.out 0
                                    have hfz47_1 := blk_frozen BK159.out 1
                                    go_wp2
                                    go_ret
                                    exact ⟨by first | rfl | (simp [errW_none, errW_some] <;> rfl) | (simp only [← hji32]; first | rfl | (simp [errW_none, errW_some] <;> rfl)) | (simp [*, errW_none, errW_some] <;> rfl), by repeat (first | (with_reducible first | exact HB.out | apply below_alloc | apply pw_below_drewN | apply below_drew1 | refine below_set ?_ GE159.out) | exact HB.out)⟩
                                  · rw [if_neg c46] at H
                                    have c46b0 : ((Go.bits .and .u16 a2_1 255) == 0) = false := beq_eq_false_iff_ne.mpr c46
                                    have c46b1 : ((Go.bits .and .u16 a2_1 255) != 0) = true := bne_iff_ne.mpr c46
                                    by_cases c48 : (x7_1.length : Int) < (wrap64 (7 + ((rd_L1 l0 0).length : Int)))
                                    · rw [if_pos c48] at H
                                      have c48b0 : decide ((x7_1.length : Int) < (wrap64 (7 + ((rd_L1 l0 0).length : Int)))) = true := decide_eq_true c48
                                      clear c48
                                      obtain rfl := Option.some.inj H
                                      have p183 : 0 ≤ (0 : Int) := (by omega)
                                      have q183 : 0 < (l0.length : Int) := of_decide_eq_true (by first | (with_reducible assumption) | assumption)
                                      obtain ⟨ad183, A183_0, c183_0, e183, hx183_0, hl183_0, hi183_0⟩ := at_L1 HR0.out 0 p183 q183
                                      cases e183
                                      have qi183 : (0 < l0.length) = True := eq_true (by omega)
                                      (try rw [show ((0 : Int)).toNat = 0 from rfl] at hx183_0)
                                      (try rw [Addr.add_zero'] at hx183_0)
                                      replace hx183_0 := (HB.out.cell (World.block_lt_of_cell? w _ hx183_0)).trans hx183_0
                                      have HR183_0 := Aside0.mk hi183_0
                                      have HC183_0 := Aside0.mk hl183_0
                                      clear hi183_0 hl183_0
                                      replace p183 := eq_true p183
                                      replace q183 := eq_true q183
                                      have hcz49_0 : wc.cell? ⟨gb159, 0, none⟩ = some (.int .u16 a2_0) := (blk_cell BK159.out 0).trans rfl
                                      have hcz49_1 : wc.cell? ⟨gb159, 1, none⟩ = some (.int .u16 a2_1) := (blk_cell BK159.out 1).trans rfl
                                      have hfz49_0 := blk_frozen BK159.out 0
                                      have hfz49_1 := blk_frozen BK159.out 1
                                      have p184 : 0 ≤ (0 : Int) := (by omega)
                                      have q184 : 0 < (l0.length : Int) := of_decide_eq_true (by first | (with_reducible assumption) | assumption)
                                      obtain ⟨ad184, A184_0, c184_0, e184, hx184_0, hl184_0, hi184_0⟩ := at_L1 HR0.out 0 p184 q184
                                      obtain rfl : ad183 = ad184 := (by injection e184)
                                      have qi184 : (0 < l0.length) = True := eq_true (by omega)
                                      (try rw [show ((0 : Int)).toNat = 0 from rfl] at hx184_0)
                                      (try rw [Addr.add_zero'] at hx184_0)
                                      replace hx184_0 := (HB.out.cell (World.block_lt_of_cell? w _ hx184_0)).trans hx184_0
                                      have HR184_0 := Aside0.mk hi184_0
                                      have HC184_0 := Aside0.mk hl184_0
                                      clear hi184_0 hl184_0
                                      replace p184 := eq_true p184
                                      replace q184 := eq_true q184
                                      have ea_ := Option.some.inj (hx183_0.symm.trans hx184_0)
                                      injection ea_ with ea_ en_ ec_
                                      subst ea_
                                      subst ec_
                                      clear en_
                                      go_wp2
                                      go_ret
                                      exact ⟨by first | rfl | (simp [errW_none, errW_some] <;> rfl) | (simp only [← hji32]; first | rfl | (simp [errW_none, errW_some] <;> rfl)) | (simp [*, errW_none, errW_some] <;> rfl), by repeat (first | (with_reducible first | exact HB.out | apply below_alloc | apply pw_below_drewN | apply below_drew1 | refine below_set ?_ GE159.out) | exact HB.out)⟩
                                    · rw [if_neg c48] at H
                                      have c48b0 : decide ((x7_1.length : Int) < (wrap64 (7 + ((rd_L1 l0 0).length : Int)))) = false := decide_eq_false c48
                                      clear c48
                                      obtain ⟨ji50, hji50⟩ : ∃ j_ : Int, (wrap64 (7 + (Int.tmod (wrap64 (a2_0)) ((rd_L1 l0 0).length : Int)))) = j_ := ⟨_, rfl⟩
                                      replace H : (if 0 ≤ (ji50) then (if (ji50) < (x7_1.length : Int) then ((seal_Open.f kj35 (x7_1.set ((ji50) : Int).toNat (Go.bits .xor .u8 (rd x7_1 (ji50)) ((a2_1) % 256)))).bind fun bt188 => (some (bt188.2.2.2 == 6))) else (none)) else (none)) = some r := by first | (rw [hji50] at H; exact H) | (simp only [hji50] at H ⊢; exact H)
                                      have hji50w : (IntKind.i64.wrap (7 + (Int.tmod (wrap64 (a2_0)) ((rd_L1 l0 0).length : Int)))) = ji50 := (i64_w _).trans hji50
                                      by_cases c51 : 0 ≤ (ji50)
                                      · rw [if_pos c51] at H
                                        have c51b0 : decide (0 ≤ (ji50)) = true := decide_eq_true c51
                                        clear c51
                                        by_cases c52 : (ji50) < (x7_1.length : Int)
                                        · rw [if_pos c52] at H
                                          have c52b0 : decide ((ji50) < (x7_1.length : Int)) = true := decide_eq_true c52
                                          clear c52
                                          obtain ⟨y187, hy187⟩ : ∃ y_ : List Int, y_ = (x7_1.set ((ji50) : Int).toNat (Go.bits .xor .u8 (rd x7_1 (ji50)) ((a2_1) % 256))) := ⟨_, rfl⟩
                                          replace H : ((seal_Open.f kj35 y187).bind fun bt188 => (some (bt188.2.2.2 == 6))) = some r := by first | (rw [hy187]; with_reducible exact H) | (have H2_ := (Option.bind_some _ _).symm.trans H; rw [hy187]; with_reducible exact H2_) | (have H2_ := (Option.bind_some _ _).symm.trans H; with_reducible exact H2_) | with_reducible exact H | (rw [hy187]; exact H) | exact H
                                          have Ny187 := Aside0.mk hy187
                                          clear hy187
                                          replace H := Option.bind_eq_some_iff.mp H
                                          obtain ⟨⟨t188, t189, t190, t191⟩, A540, H⟩ := H
                                          replace H : (some (t191 == 6)) = some r := H
                                          have A54 := Aside0.mk A540
                                          clear A540
                                          obtain rfl := Option.some.inj H
                                          have p183 : 0 ≤ (0 : Int) := (by omega)
                                          have q183 : 0 < (l0.length : Int) := of_decide_eq_true (by first | (with_reducible assumption) | assumption)
                                          obtain ⟨ad183, A183_0, c183_0, e183, hx183_0, hl183_0, hi183_0⟩ := at_L1 HR0.out 0 p183 q183
                                          cases e183
                                          have qi183 : (0 < l0.length) = True := eq_true (by omega)
                                          (try rw [show ((0 : Int)).toNat = 0 from rfl] at hx183_0)
                                          (try rw [Addr.add_zero'] at hx183_0)
                                          replace hx183_0 := (HB.out.cell (World.block_lt_of_cell? w _ hx183_0)).trans hx183_0
                                          have HR183_0 := Aside0.mk hi183_0
                                          have HC183_0 := Aside0.mk hl183_0
                                          clear hi183_0 hl183_0
                                          replace p183 := eq_true p183
                                          replace q183 := eq_true q183
                                          have hcz55_0 : wc.cell? ⟨gb159, 0, none⟩ = some (.int .u16 a2_0) := (blk_cell BK159.out 0).trans rfl
                                          have hcz55_1 : wc.cell? ⟨gb159, 1, none⟩ = some (.int .u16 a2_1) := (blk_cell BK159.out 1).trans rfl
                                          have hfz55_0 := blk_frozen BK159.out 0
                                          have hfz55_1 := blk_frozen BK159.out 1
                                          have p184 : 0 ≤ (0 : Int) := (by omega)
                                          have q184 : 0 < (l0.length : Int) := of_decide_eq_true (by first | (with_reducible assumption) | assumption)
                                          obtain ⟨ad184, A184_0, c184_0, e184, hx184_0, hl184_0, hi184_0⟩ := at_L1 HR0.out 0 p184 q184
                                          obtain rfl : ad183 = ad184 := (by injection e184)
                                          have qi184 : (0 < l0.length) = True := eq_true (by omega)
                                          (try rw [show ((0 : Int)).toNat = 0 from rfl] at hx184_0)
                                          (try rw [Addr.add_zero'] at hx184_0)
                                          replace hx184_0 := (HB.out.cell (World.block_lt_of_cell? w _ hx184_0)).trans hx184_0
                                          have HR184_0 := Aside0.mk hi184_0
                                          have HC184_0 := Aside0.mk hl184_0
                                          clear hi184_0 hl184_0
                                          replace p184 := eq_true p184
                                          replace q184 := eq_true q184
                                          have ea_ := Option.some.inj (hx183_0.symm.trans hx184_0)
                                          injection ea_ with ea_ en_ ec_
                                          subst ea_
                                          subst ec_
                                          clear en_
                                          try go_wp2
                                          have n0_ := Aside0.mk (Kd.R_drew HO_7.out)
                                          have n1_ := Aside0.mk (blk_drew BK159.out)
                                          have n2_ := Aside0.mk (Kd.C_drew HR178.out)
                                          have n3_ := Aside0.mk (below_drew1 HB.out)
                                          clear HO_7
                                          clear BK159
                                          clear HR178
                                          clear HB
                                          have HO_7 := n0_
                                          have BK159 := n1_
                                          have HR178 := n2_
                                          have HB := n3_
                                          clear n0_ n1_ n2_ n3_
                                          have p185 : 0 ≤ (0 : Int) := (by omega)
                                          have q185 : 0 < (l0.length : Int) := of_decide_eq_true (by first | (with_reducible assumption) | assumption)
                                          obtain ⟨ad185, A185_0, c185_0, e185, hx185_0, hl185_0, hi185_0⟩ := at_L1 HR0.out 0 p185 q185
                                          have hw185_0 := hx185_0
                                          (try rw [show ((0 : Int)).toNat = 0 from rfl] at hw185_0)
                                          (try rw [show 0 * 1 = 0 from rfl] at hw185_0)
                                          (try rw [Addr.add_zero'] at hw185_0)
                                          obtain rfl : ad183 = ad185 := (by injection e185)
                                          have qi185 : (0 < l0.length) = True := eq_true (by omega)
                                          (try rw [show ((0 : Int)).toNat = 0 from rfl] at hx185_0)
                                          (try rw [Addr.add_zero'] at hx185_0)
                                          replace hx185_0 := (HB.out.cell (World.block_lt_of_cell? w _ hx185_0)).trans hx185_0
                                          have HR185_0 := Aside0.mk hi185_0
                                          have HC185_0 := Aside0.mk hl185_0
                                          clear hi185_0 hl185_0
                                          replace p185 := eq_true p185
                                          replace q185 := eq_true q185
                                          have p186 : 0 ≤ ((ji50) : Int) := of_decide_eq_true (by first | (with_reducible assumption) | assumption)
                                          have q186 : (ji50) < (x7_1.length : Int) := of_decide_eq_true (by first | (with_reducible assumption) | assumption)
                                          obtain ⟨ad186, e186, hx186_0⟩ := Kd.at_int (Kd.R_reads' HO_7.out).2.2 (ji50) p186 q186
                                          cases e186
                                          replace p186 := eq_true p186
                                          replace q186 := eq_true q186
                                          have p53 : 0 ≤ ((ji50) : Int) := of_decide_eq_true (by first | (with_reducible assumption) | assumption)
                                          have q53 : ((ji50) : Int) < ((x7_1.length : Int) : Int) := of_decide_eq_true (by first | (with_reducible assumption) | assumption)
                                          obtain ⟨go53, co53, eo53, gb53, gl53, cl53, HG53⟩ := Kd.R_form HO_7.out (by omega)
                                          (first | cases eo53 | (injection eo53 with ea_ en_ ec_; (first | subst ea_ | (injection ea_ with ea_; subst ea_)); subst ec_; clear en_))
                                          have GB53 := Aside0.mk gb53
                                          have GG53 := Aside0.mk HG53
                                          clear gb53 gl53 HG53
                                          (first | simp only [add_plain] at hx186_0 | skip)
                                          obtain ⟨hx53_0, hf53_0⟩ := Kd.R_celln 0 HO_7.out ((ji50) : Int) p53 q53
                                          replace p53 := eq_true p53
                                          replace q53 := eq_true q53
                                          have HP57 := Kd.R_putn HO_7.out ((ji50) : Int) (Go.bits .xor .u8 (rd x7_1 (ji50)) ((a2_1) % 256))
                                          rw [← Ny187.out] at HP57
                                          have HQ57 := Aside0.mk HP57
                                          clear HP57
                                          refine start_ (n := 18) (S := fun w' => w'.cell? ⟨gb159, 0, none⟩ = some (.int .u16 a2_0) ∧ w'.cell? ⟨gb159, 1, none⟩ = some (.int .u16 a2_1) ∧ w'.cell? ad183 = some (.slice A185_0 (rd_L1 l0 0).length c185_0) ∧ w'.cell? ⟨go53, ((ji50)).toNat, none⟩ = some (.int .u8 (rd x7_1 (ji50)))) (ds := [17]) #[false, false, false, false, false, false, false, false, false, false, false, false, false, false, false, false, false, false] (by kernel_rfl) rfl rfl ⟨(blk_cell BK159.out 0).trans rfl, (blk_cell BK159.out 1).trans rfl, ((HB.out.cell (World.block_lt_of_cell? w _ hw185_0)).trans hw185_0), hx186_0⟩ (fun hHeld => ?_); refine with_tabW gazetteerlaw8_SealCuts.tab27 gazetteerlaw8_SealCuts.bits27 (fun HT_ HW_ => ?_)
                                          generalize wc.drew = w56 at HO_7 BK159 HR178 HB GG53 HQ57 HR185_0 hf53_0 hx185_0 hx186_0 hx53_0 hHeld ⊢
                                          refine pure_ (i := 0) (N := some 124) (v := ?_) (a' := ?_) #[true, false, false, false, false, false, false, false, false, false, false, false, false, false, false, false, false, false] rfl rfl (any_of HT_.out (by kernel_rfl)) (fun _ _ _ h => h) (Or.inl ⟨by rfl, ?_⟩) ?_ ?_
                                          rotate_left
                                          · intro w'
                                            go_simp
                                            with_reducible rfl
                                          rotate_left
                                          · simp only [Act.put, List.setIfInBounds_toArray, List.set_cons_zero, List.set_cons_succ, i64_w, i32_w]
                                            rfl
                                          refine pure_ (i := 1) (N := some 125) (v := ?_) (a' := ?_) #[true, true, false, false, false, false, false, false, false, false, false, false, false, false, false, false, false, false] rfl rfl (any_of HT_.out (by kernel_rfl)) (fun _ _ _ h => h) (Or.inl ⟨by rfl, ?_⟩) ?_ ?_
                                          rotate_left
                                          · intro w'
                                            go_simp
                                            with_reducible rfl
                                          rotate_left
                                          · simp only [Act.put, List.setIfInBounds_toArray, List.set_cons_zero, List.set_cons_succ, i64_w, i32_w]
                                            rfl
                                          refine pure_ (i := 4) (N := some 128) (v := ?_) (a' := ?_) #[true, true, false, false, true, false, false, false, false, false, false, false, false, false, false, false, false, false] rfl rfl (any_of HT_.out (by kernel_rfl)) (fun _ _ _ h => h) (Or.inl ⟨by rfl, ?_⟩) ?_ ?_
                                          rotate_left
                                          · intro w'
                                            go_simp
                                            with_reducible rfl
                                          rotate_left
                                          · simp only [Act.put, List.setIfInBounds_toArray, List.set_cons_zero, List.set_cons_succ, i64_w, i32_w]
                                            rfl
                                          refine pure_ (i := 5) (N := some 129) (v := ?_) (a' := ?_) #[true, true, false, false, true, true, false, false, false, false, false, false, false, false, false, false, false, false] rfl rfl (any_of HT_.out (by kernel_rfl)) (fun _ _ _ h => h) (Or.inl ⟨by rfl, ?_⟩) ?_ ?_
                                          rotate_left
                                          · intro w'
                                            go_simp
                                            with_reducible rfl
                                          rotate_left
                                          · simp only [Act.put, List.setIfInBounds_toArray, List.set_cons_zero, List.set_cons_succ, i64_w, i32_w]
                                            rfl
                                          refine pure_ (i := 12) (N := some 136) (v := ?_) (a' := ?_) #[true, true, false, false, true, true, false, false, false, false, false, false, true, false, false, false, false, false] rfl rfl (any_of HT_.out (by kernel_rfl)) (fun _ _ _ h => h) (Or.inl ⟨by rfl, ?_⟩) ?_ ?_
                                          rotate_left
                                          · intro w'
                                            go_simp
                                            with_reducible rfl
                                          rotate_left
                                          · simp only [Act.put, List.setIfInBounds_toArray, List.set_cons_zero, List.set_cons_succ, i64_w, i32_w]
                                            rfl
                                          refine take_ (i := 2) (N := some 126) (v := ?_) (a' := ?_) #[true, true, true, false, true, true, false, false, false, false, false, false, true, false, false, false, false, false] rfl rfl (take_ofW HT_.out HW_.out (by kernel_rfl)) (fun _ _ _ h => h) (Or.inl ⟨by rfl, ?_⟩) hHeld ?_ ?_
                                          rotate_left
                                          · rintro w' ⟨s0, s1, s2, s3⟩
                                            go_simp
                                            with_reducible rfl
                                          rotate_left
                                          · simp only [Act.put, List.setIfInBounds_toArray, List.set_cons_zero, List.set_cons_succ, i64_w, i32_w]
                                            rfl
                                          refine pure_ (i := 3) (N := some 127) (v := ?_) (a' := ?_) #[true, true, true, true, true, true, false, false, false, false, false, false, true, false, false, false, false, false] rfl rfl (any_of HT_.out (by kernel_rfl)) (fun _ _ _ h => h) (Or.inl ⟨by rfl, ?_⟩) ?_ ?_
                                          rotate_left
                                          · intro w'
                                            go_simp
                                            with_reducible rfl
                                          rotate_left
                                          · simp only [Act.put, List.setIfInBounds_toArray, List.set_cons_zero, List.set_cons_succ, i64_w, i32_w]
                                            rfl
                                          refine take_ (i := 6) (N := some 130) (v := ?_) (a' := ?_) #[true, true, true, true, true, true, true, false, false, false, false, false, true, false, false, false, false, false] rfl rfl (take_ofW HT_.out HW_.out (by kernel_rfl)) (fun _ _ _ h => h) (Or.inl ⟨by rfl, ?_⟩) hHeld ?_ ?_
                                          rotate_left
                                          · rintro w' ⟨s0, s1, s2, s3⟩
                                            go_simp
                                            with_reducible rfl
                                          rotate_left
                                          · simp only [Act.put, List.setIfInBounds_toArray, List.set_cons_zero, List.set_cons_succ, i64_w, i32_w]
                                            rfl
                                          refine pure_ (i := 7) (N := some 131) (v := ?_) (a' := ?_) #[true, true, true, true, true, true, true, true, false, false, false, false, true, false, false, false, false, false] rfl rfl (any_of HT_.out (by kernel_rfl)) (fun _ _ _ h => h) (Or.inl ⟨by rfl, ?_⟩) ?_ ?_
                                          rotate_left
                                          · intro w'
                                            go_simp
                                            with_reducible rfl
                                          rotate_left
                                          · simp only [Act.put, List.setIfInBounds_toArray, List.set_cons_zero, List.set_cons_succ, i64_w, i32_w]
                                            rfl
                                          refine pure_ (i := 8) (N := some 132) (v := ?_) (a' := ?_) #[true, true, true, true, true, true, true, true, true, false, false, false, true, false, false, false, false, false] rfl rfl (any_of HT_.out (by kernel_rfl)) (fun _ _ _ h => h) (Or.inl ⟨by rfl, ?_⟩) ?_ ?_
                                          rotate_left
                                          · intro w'
                                            go_simp
                                            with_reducible rfl
                                          rotate_left
                                          · simp only [Act.put, List.setIfInBounds_toArray, List.set_cons_zero, List.set_cons_succ, i64_w, i32_w]
                                            rfl
                                          refine pure_ (i := 9) (N := some 133) (v := ?_) (a' := ?_) #[true, true, true, true, true, true, true, true, true, true, false, false, true, false, false, false, false, false] rfl rfl (any_of HT_.out (by kernel_rfl)) (fun _ _ _ h => h) (Or.inl ⟨by rfl, ?_⟩) ?_ ?_
                                          rotate_left
                                          · intro w'
                                            go_simp
                                            with_reducible rfl
                                          rotate_left
                                          · simp only [Act.put, List.setIfInBounds_toArray, List.set_cons_zero, List.set_cons_succ, i64_w, i32_w]
                                            rfl
                                          refine pure_ (i := 10) (N := some 134) (v := ?_) (a' := ?_) #[true, true, true, true, true, true, true, true, true, true, true, false, true, false, false, false, false, false] rfl rfl (any_of HT_.out (by kernel_rfl)) (fun _ _ _ h => h) (Or.inl ⟨by rfl, ?_⟩) ?_ ?_
                                          rotate_left
                                          · intro w'
                                            go_simp
                                            with_reducible rfl
                                          rotate_left
                                          · simp only [Act.put, List.setIfInBounds_toArray, List.set_cons_zero, List.set_cons_succ, i64_w, i32_w]
                                            rfl
                                          refine take_ (i := 11) (N := some 135) (v := ?_) (a' := ?_) #[true, true, true, true, true, true, true, true, true, true, true, true, true, false, false, false, false, false] rfl rfl (take_ofW HT_.out HW_.out (by kernel_rfl)) (fun _ _ _ h => h) (Or.inl ⟨by rfl, ?_⟩) hHeld ?_ ?_
                                          rotate_left
                                          · rintro w' ⟨s0, s1, s2, s3⟩
                                            go_simp
                                            with_reducible rfl
                                          rotate_left
                                          · simp only [Act.put, List.setIfInBounds_toArray, List.set_cons_zero, List.set_cons_succ, i64_w, i32_w]
                                            rfl
                                          refine take_ (i := 13) (N := some 137) (v := ?_) (a' := ?_) #[true, true, true, true, true, true, true, true, true, true, true, true, true, true, false, false, false, false] rfl rfl (take_ofW HT_.out HW_.out (by kernel_rfl)) (fun _ _ _ h => h) (Or.inl ⟨by rfl, ?_⟩) hHeld ?_ ?_
                                          rotate_left
                                          · rintro w' ⟨s0, s1, s2, s3⟩
                                            go_simp
                                            with_reducible rfl
                                          rotate_left
                                          · simp only [Act.put, List.setIfInBounds_toArray, List.set_cons_zero, List.set_cons_succ, i64_w, i32_w]
                                            rfl
                                          refine pure_ (i := 14) (N := some 138) (v := ?_) (a' := ?_) #[true, true, true, true, true, true, true, true, true, true, true, true, true, true, true, false, false, false] rfl rfl (any_of HT_.out (by kernel_rfl)) (fun _ _ _ h => h) (Or.inl ⟨by rfl, ?_⟩) ?_ ?_
                                          rotate_left
                                          · intro w'
                                            go_simp
                                            with_reducible rfl
                                          rotate_left
                                          · simp only [Act.put, List.setIfInBounds_toArray, List.set_cons_zero, List.set_cons_succ, i64_w, i32_w]
                                            rfl
                                          refine pure_ (i := 15) (N := some 139) (v := ?_) (a' := ?_) #[true, true, true, true, true, true, true, true, true, true, true, true, true, true, true, true, false, false] rfl rfl (any_of HT_.out (by kernel_rfl)) (fun _ _ _ h => h) (Or.inl ⟨by rfl, ?_⟩) ?_ ?_
                                          rotate_left
                                          · intro w'
                                            go_simp
                                            with_reducible rfl
                                          rotate_left
                                          · simp only [Act.put, List.setIfInBounds_toArray, List.set_cons_zero, List.set_cons_succ, i64_w, i32_w]
                                            rfl
                                          refine pure_ (i := 16) (N := some 140) (v := ?_) (a' := ?_) #[true, true, true, true, true, true, true, true, true, true, true, true, true, true, true, true, true, false] rfl rfl (any_of HT_.out (by kernel_rfl)) (fun _ _ _ h => h) (Or.inl ⟨by rfl, ?_⟩) ?_ ?_
                                          rotate_left
                                          · intro w'
                                            go_simp
                                            with_reducible rfl
                                          rotate_left
                                          · simp only [Act.put, List.setIfInBounds_toArray, List.set_cons_zero, List.set_cons_succ, i64_w, i32_w]
                                            rfl
                                          refine last_ (i := 17) (N := none) #[true, true, true, true, true, true, true, true, true, true, true, true, true, true, true, true, true, true] rfl rfl (one_of HT_.out (by kernel_rfl)) (by decide) (fun K hK => ?_)
                                          refine skip_ (w1 := ?_) (by rfl) rfl ?_ ?_
                                          rotate_left
                                          · go_simp
                                            rfl
                                          refine hK.out _ _ ?_
                                          clear hK K
                                          refine done_ (done_of HT_.out (by kernel_rfl)) ?_
                                          try go_wp2_with (first | ((with_reducible refine gate_callee (f := 24) rfl ?_); refine goesL_ (some 143) rfl rfl Try.func24 (by kernel_rfl) rfl #[.slice (some ⟨go53, 0, none⟩) y187.length co25] rfl (by (try simp only [List.map_toArray, List.map_cons, List.map_nil]); first | done | (rw [show y187.length = x7_1.length from (Kd.R_reads' HQ57.out).1.symm] <;> rfl) | rfl | (simp only [List.length_drop, List.length_take]; done) | (simp only [List.length_drop, List.length_take]; rfl)) ?_; (with_reducible refine (seal_Open.calls kj35 _ _ y187 t188 t189 t190 t191 _ ?side1 ?side2 A54.out).mono ?_); (case side1 => refine (Kd.R_reads' (e := 5) (base := w.heap.size) (ok := fun k_ => True) (n := x7_1.length) (c := co25) ?_).2.2; exact (by (with_reducible repeat (first | apply Kd.R_alloc | apply Kd.R_drewN | apply Kd.R_drew)); exact HQ57.out)); (case side2 => rw [show y187.length = x7_1.length from (Kd.R_reads' HQ57.out).1.symm]; exact (Kd.R_reads' HO_7.out).2.1); rintro e w58 ⟨v192, rfl, ho0, hb⟩; refine ⟨_, rfl, ?_⟩; have n0_ := Aside0.mk (Kd.R_elder' (by (with_reducible repeat (first | apply Kd.R_alloc | apply Kd.R_drewN | apply Kd.R_drew)); exact HQ57.out) (Kd.R_base ho0) hb); have n1_ := Aside0.mk (Kd.R_lower (Kd.R_new' ho0 (Kd.R_lt (by (with_reducible repeat (first | apply Kd.R_alloc | apply Kd.R_drewN | apply Kd.R_drew)); exact HQ57.out))) (below_size (by repeat (first | (with_reducible first | exact HB.out | apply below_alloc | apply pw_below_drewN | apply below_drew1 | refine below_set ?_ GB53.out | refine below_set ?_ GE159.out) | exact HB.out)))); have n2_ := Aside0.mk (blk_below (g := gb159) (o := .cells #[.int .u16 a2_0, .int .u16 a2_1] 54 (0, 0)) (by (with_reducible repeat (first | refine blk_drewN ?_ _ | refine blk_drew ?_ | refine blk_alloc ?_ _)); refine blk_far ?_ (by have h_ := Kd.R_ne HO_7.out BK159.out (by decide); intro e_; exact h_ (by rw [e_]; rfl)) _; (with_reducible repeat (first | refine blk_drewN ?_ _ | refine blk_drew ?_ | refine blk_alloc ?_ _)); exact BK159.out) hb); have n3_ := Aside0.mk (below_step (by repeat (first | (with_reducible first | exact HB.out | apply below_alloc | apply pw_below_drewN | apply below_drew1 | refine below_set ?_ GB53.out | refine below_set ?_ GE159.out) | exact HB.out)) hb); clear HO_7; clear BK159; clear HB; have HO_7 := n0_; have HO193 := n1_; have BK159 := n2_; have HB := n3_; clear n0_ n1_ n2_ n3_; (try clear hb); (try clear hb2); (try clear hk); (try clear hi); (try clear ho0)))
                                          go_ret
                                          exact ⟨by first | rfl | (simp [errW_none, errW_some] <;> rfl) | (simp only [← hji32, ← hji50]; first | rfl | (simp [errW_none, errW_some] <;> rfl)) | (simp [*, errW_none, errW_some] <;> rfl), by repeat (first | (with_reducible first | exact HB.out | apply below_alloc | apply pw_below_drewN | apply below_drew1 | refine below_set ?_ GE159.out) | exact HB.out)⟩
                                        · rw [if_neg c52] at H
                                          exact absurd H (by simp)
                                      · rw [if_neg c51] at H
                                        exact absurd H (by simp)
                              · rw [if_neg c44] at H
                                exact absurd H (by simp)
                    · rw [if_neg c34] at H
                      exact absurd H (by simp)
                  · rw [if_neg c33] at H
                    exact absurd H (by simp)
  · replace c5 := Bool.eq_false_iff.mpr c5
    subst c5
    have H1 : (some false) = some r := by rw [if_neg (show ¬ (false = true) by decide)] at H; exact H
    clear H
    have H := H1
    clear H1
    exact absurd H (by rw [HLT.out]; repeat' first | (with_reducible exact dead_none) | (with_reducible exact dead_false) | (with_reducible refine dead_ite ?_ ?_) | (with_reducible refine dead_bind (fun _ => ?_)) | (refine dead_ite ?_ ?_) | (refine dead_bind (fun _ => ?_)) | (simp; done))

end Go.Proofs.Ytkolcgofhjbebaa.PSealCuts

-- printed by a program of this session (wip/tools), a turned form of the kit's print
import Derived.Test.YtfagobhhhljajaaWPeel
import Derived.Test.YtfagobhhhljajaaPWeighRowsx0
import Derived.Test.YtfagobhhhljajaaPWeighRowsx7
import Derived.Test.YtfagobhhhljajaaPWeighRowsx8
import Derived.Test.YtfagobhhhljajaaPWeighRowsx11
import Derived.Test.YtfagobhhhljajaaPWeighRowsx12
namespace Go.Proofs.Ytfagobhhhljajaa.PWeighRows
open Go.RowKit Go.Proofs.YtfagobhhhljajaaW.PrintWords Go.Proofs.YtfagobhhhljajaaW.PrintLast Go.Proofs.YtfagobhhhljajaaW.PrintMore
attribute [local go_sem] max2_int min2_int max_two min_two max_three min_three max_four min_four max2_str min2_str str_geq str_leq str_gtr   -- for this text's walks alone
set_option linter.unusedVariables false
set_option linter.unusedSimpArgs false

/-! ### gazetteerlaw3_WeighRows: function 8 -/
mutual
def gazetteerlaw3_WeighRows.j0 : Nat → Int → Bool → List (S42) → List (S44) → Int → Bool → Option (Bool)
  | 0, _, _, _, _, _, _ => none
  | k + 1, x1, x26, x196000, x196001, x196002, x196003 => if x26 = true then (some true) else (if (x196001.length : Int) = 0 then (none) else (if 0 ≤ (Int.tmod (wrap64 (x1)) (x196001.length : Int)) then (if (Int.tmod (wrap64 (x1)) (x196001.length : Int)) < (x196001.length : Int) then ((gazetteerref1_Normal.f k x196000 ((rd_T44 x196001 (Int.tmod (wrap64 (x1)) (x196001.length : Int))).f0)).bind fun bt201 => ((weigh_Elements.f x196000 x196001 x196002 x196003 ((rd_T44 x196001 (Int.tmod (wrap64 (x1)) (x196001.length : Int))).f0)).bind fun bt205 => (if bt201.2 = 0 then (gazetteerlaw3_WeighRows.j1 k bt201.1 bt205.1 (bt205.2 != 0) ((rd_T44 x196001 (Int.tmod (wrap64 (x1)) (x196001.length : Int))).f0) ((rd_T44 x196001 (Int.tmod (wrap64 (x1)) (x196001.length : Int))).f1)) else (gazetteerlaw3_WeighRows.j1 k bt201.1 bt205.1 true ((rd_T44 x196001 (Int.tmod (wrap64 (x1)) (x196001.length : Int))).f0) ((rd_T44 x196001 (Int.tmod (wrap64 (x1)) (x196001.length : Int))).f1))))) else (none)) else (none)))
def gazetteerlaw3_WeighRows.j1 : Nat → List Int → List (S39) → Bool → List Int → List (S39) → Option (Bool)
  | 0, _, _, _, _, _ => none
  | k + 1, x6, x8, x57, x201000, x201001 => if x57 = true then (some false) else (gazetteerlaw3_WeighRows.l0 k x6 x8 0 x201000 x201001)
def gazetteerlaw3_WeighRows.l0 : Nat → List Int → List (S39) → Int → List Int → List (S39) → Option (Bool)
  | 0, _, _, _, _, _ => none
  | k + 1, x6, x8, x10, x201000, x201001 => if x10 < (x6.length : Int) then (if 0 ≤ x10 then (if x10 < (x201000.length : Int) then (if (rd x6 x10) = (rd x201000 x10) then (gazetteerlaw3_WeighRows.l0 k x6 x8 (wrap64 (x10 + 1)) x201000 x201001) else (some true)) else (none)) else (none)) else ((gazetteerlaw3_Same.f k x8 x201001).bind fun t211 => (some t211))
end
def gazetteerlaw3_WeighRows.f (k : Nat) (l0_0 : List (S42)) (l0_1 : List (S44)) (a0_2 : Int) (a0_3 : Bool) (a1 : Int) : Option (Bool) := (gazetteerlaw3_awake.f).bind fun t196 => (if t196 = true then ((gazetteerlaw3_Few.f k l0_0 l0_1 a0_2 a0_3 ([] : List Int)).bind fun t197 => (if t197 = true then ((gazetteerref1_TableMay.f l0_0 l0_1 a0_2 a0_3).bind fun t198 => (if t198 = true then (gazetteerlaw3_WeighRows.j0 k a1 ((l0_1.length : Int) == 0) l0_0 l0_1 a0_2 a0_3) else (gazetteerlaw3_WeighRows.j0 k a1 true l0_0 l0_1 a0_2 a0_3))) else (gazetteerlaw3_WeighRows.j0 k a1 true l0_0 l0_1 a0_2 a0_3))) else (some false))
theorem gazetteerlaw3_WeighRows.mono_l : ∀ k, (∀ y0 y1 y2 y3 y4 y5, LeO (gazetteerlaw3_WeighRows.j0 k y0 y1 y2 y3 y4 y5) (gazetteerlaw3_WeighRows.j0 (k + 1) y0 y1 y2 y3 y4 y5)) ∧ (∀ y0 y1 y2 y3 y4, LeO (gazetteerlaw3_WeighRows.j1 k y0 y1 y2 y3 y4) (gazetteerlaw3_WeighRows.j1 (k + 1) y0 y1 y2 y3 y4)) ∧ (∀ y0 y1 y2 y3 y4, LeO (gazetteerlaw3_WeighRows.l0 k y0 y1 y2 y3 y4) (gazetteerlaw3_WeighRows.l0 (k + 1) y0 y1 y2 y3 y4))
  | 0 => ⟨fun _ _ _ _ _ _ r h => by simp [gazetteerlaw3_WeighRows.j0] at h, fun _ _ _ _ _ r h => by simp [gazetteerlaw3_WeighRows.j1] at h, fun _ _ _ _ _ r h => by simp [gazetteerlaw3_WeighRows.l0] at h⟩
  | k + 1 => by
    obtain ⟨ih0, ih1, ih2⟩ := gazetteerlaw3_WeighRows.mono_l k
    refine ⟨?_, ?_, ?_⟩
    · intro y0 y1 y2 y3 y4 y5
      unfold gazetteerlaw3_WeighRows.j0
      repeat' first
      | (with_reducible exact ih0 _ _ _ _ _ _)
      | (with_reducible exact ih1 _ _ _ _ _)
      | (with_reducible exact ih2 _ _ _ _ _)
      | (with_reducible exact gazetteerlaw3_Few.mono _ _ _ _ _ _)
      | (with_reducible exact gazetteerlaw3_Same.mono _ _ _)
      | (with_reducible exact gazetteerref1_Normal.mono _ _ _)
      | (with_reducible exact LeO.refl _)
      | (with_reducible exact LeO.none _)
      | (with_reducible refine LeO.ite ?_ ?_)
      | (with_reducible refine LeO.bind ?_ (fun _ => ?_))
      | exact ih0 _ _ _ _ _ _
      | exact ih1 _ _ _ _ _
      | exact ih2 _ _ _ _ _
      | exact gazetteerlaw3_Few.mono _ _ _ _ _ _
      | exact gazetteerlaw3_Same.mono _ _ _
      | exact gazetteerref1_Normal.mono _ _ _
      | exact LeO.none _
      | refine LeO.ite ?_ ?_
      | refine LeO.bind ?_ (fun _ => ?_)
    · intro y0 y1 y2 y3 y4
      unfold gazetteerlaw3_WeighRows.j1
      repeat' first
      | (with_reducible exact ih0 _ _ _ _ _ _)
      | (with_reducible exact ih1 _ _ _ _ _)
      | (with_reducible exact ih2 _ _ _ _ _)
      | (with_reducible exact gazetteerlaw3_Few.mono _ _ _ _ _ _)
      | (with_reducible exact gazetteerlaw3_Same.mono _ _ _)
      | (with_reducible exact gazetteerref1_Normal.mono _ _ _)
      | (with_reducible exact LeO.refl _)
      | (with_reducible exact LeO.none _)
      | (with_reducible refine LeO.ite ?_ ?_)
      | (with_reducible refine LeO.bind ?_ (fun _ => ?_))
      | exact ih0 _ _ _ _ _ _
      | exact ih1 _ _ _ _ _
      | exact ih2 _ _ _ _ _
      | exact gazetteerlaw3_Few.mono _ _ _ _ _ _
      | exact gazetteerlaw3_Same.mono _ _ _
      | exact gazetteerref1_Normal.mono _ _ _
      | exact LeO.none _
      | refine LeO.ite ?_ ?_
      | refine LeO.bind ?_ (fun _ => ?_)
    · intro y0 y1 y2 y3 y4
      unfold gazetteerlaw3_WeighRows.l0
      repeat' first
      | (with_reducible exact ih0 _ _ _ _ _ _)
      | (with_reducible exact ih1 _ _ _ _ _)
      | (with_reducible exact ih2 _ _ _ _ _)
      | (with_reducible exact gazetteerlaw3_Few.mono _ _ _ _ _ _)
      | (with_reducible exact gazetteerlaw3_Same.mono _ _ _)
      | (with_reducible exact gazetteerref1_Normal.mono _ _ _)
      | (with_reducible exact LeO.refl _)
      | (with_reducible exact LeO.none _)
      | (with_reducible refine LeO.ite ?_ ?_)
      | (with_reducible refine LeO.bind ?_ (fun _ => ?_))
      | exact ih0 _ _ _ _ _ _
      | exact ih1 _ _ _ _ _
      | exact ih2 _ _ _ _ _
      | exact gazetteerlaw3_Few.mono _ _ _ _ _ _
      | exact gazetteerlaw3_Same.mono _ _ _
      | exact gazetteerref1_Normal.mono _ _ _
      | exact LeO.none _
      | refine LeO.ite ?_ ?_
      | refine LeO.bind ?_ (fun _ => ?_)
theorem gazetteerlaw3_WeighRows.mono : ∀ a0 a1 a2 a3 a4 k, LeO (gazetteerlaw3_WeighRows.f k a0 a1 a2 a3 a4) (gazetteerlaw3_WeighRows.f (k + 1) a0 a1 a2 a3 a4) := by
  intro a0 a1 a2 a3 a4 k
  obtain ⟨ih0, ih1, ih2⟩ := gazetteerlaw3_WeighRows.mono_l k
  unfold gazetteerlaw3_WeighRows.f
  repeat' first
      | (with_reducible exact ih0 _ _ _ _ _ _)
      | (with_reducible exact ih1 _ _ _ _ _)
      | (with_reducible exact ih2 _ _ _ _ _)
      | (with_reducible exact gazetteerlaw3_Few.mono _ _ _ _ _ _)
      | (with_reducible exact gazetteerlaw3_Same.mono _ _ _)
      | (with_reducible exact gazetteerref1_Normal.mono _ _ _)
      | (with_reducible exact LeO.refl _)
      | (with_reducible exact LeO.none _)
      | (with_reducible refine LeO.ite ?_ ?_)
      | (with_reducible refine LeO.bind ?_ (fun _ => ?_))
      | exact ih0 _ _ _ _ _ _
      | exact ih1 _ _ _ _ _
      | exact ih2 _ _ _ _ _
      | exact gazetteerlaw3_Few.mono _ _ _ _ _ _
      | exact gazetteerlaw3_Same.mono _ _ _
      | exact gazetteerref1_Normal.mono _ _ _
      | exact LeO.none _
      | refine LeO.ite ?_ ?_
      | refine LeO.bind ?_ (fun _ => ?_)
def gazetteerlaw3_WeighRows.T5 : Bool × List (List Nat × List Nat) := (true, [([], []), ([0], [0]), ([], []), ([2], [2]), ([], []), ([4], [4]), ([5], [5]), ([3, 6], [3, 6]), ([1, 7], [1, 7]), ([8], [8]), ([], []), ([10, 9, 0, 1, 2, 3, 4, 5, 6, 7, 8, 9, 10], [9, 10])])
def gazetteerlaw3_WeighRows.B5 : List Nat := [0, 1, 0, 4, 0, 16, 48, 124, 255, 511, 0, 2047]
theorem gazetteerlaw3_WeighRows.tab5 : rtab .any (opsOf Try.f8 5) = gazetteerlaw3_WeighRows.T5 := by kernel_rfl
theorem gazetteerlaw3_WeighRows.bits5 : waitsOk gazetteerlaw3_WeighRows.T5.2 gazetteerlaw3_WeighRows.B5 = true := by kernel_rfl
def gazetteerlaw3_WeighRows.T13 : Bool × List (List Nat × List Nat) := (true, [([], []), ([], []), ([0, 1], [0, 1]), ([2], [2]), ([], []), ([4], [4]), ([], []), ([5, 6], [5, 6]), ([7], [7]), ([3, 8], [3, 8])])
def gazetteerlaw3_WeighRows.B13 : List Nat := [0, 0, 3, 7, 0, 16, 0, 112, 240, 511]
theorem gazetteerlaw3_WeighRows.tab13 : rtab .any (opsOf Try.f8 13) = gazetteerlaw3_WeighRows.T13 := by kernel_rfl
theorem gazetteerlaw3_WeighRows.bits13 : waitsOk gazetteerlaw3_WeighRows.T13.2 gazetteerlaw3_WeighRows.B13 = true := by kernel_rfl
set_option maxHeartbeats 8000000 in
set_option maxRecDepth 100000 in
theorem gazetteerlaw3_WeighRows.calls (k : Nat) (A0_0 : Option Addr) (c0_0 : Nat) (l0_0 : List (S42)) (A0_1 : Option Addr) (c0_1 : Nat) (l0_1 : List (S44)) (a0_2 : Int) (a0_3 : Bool) (a1 : Int) (r : Bool) (w : World) (hr0_0 : Kd.C k42 w A0_0 l0_0.length l0_0) (hc0_0 : l0_0.length ≤ c0_0) (hr0_1 : Kd.C k44 w A0_1 l0_1.length l0_1) (hc0_1 : l0_1.length ≤ c0_1) (HLT0 : r = true) (h : gazetteerlaw3_WeighRows.f k l0_0 l0_1 a0_2 a0_3 a1 = some r) :
    Calls Try.prog 8 #[.agg #[.slice A0_0 l0_0.length c0_0, .slice A0_1 l0_1.length c0_1, .int .i64 a0_2, .bool a0_3], .int .u8 a1] w fun e w' => e = .returned (.bool r) ∧ Below w.heap.size w w' := by
  have hu25 := Try.underlying25
  have hu44 := Try.underlying44
  have HLT := Aside0.mk HLT0
  clear HLT0
  have HR0_0 := Aside0.mk hr0_0
  have HC0_0 := Aside0.mk hc0_0
  clear hr0_0 hc0_0
  have HR0_1 := Aside0.mk hr0_1
  have HC0_1 := Aside0.mk hc0_1
  clear hr0_1 hc0_1
  have HB := Aside0.mk (Below.refl w.heap.size w)
  have H : ((gazetteerlaw3_awake.f).bind fun t196 => (if t196 = true then ((gazetteerlaw3_Few.f k l0_0 l0_1 a0_2 a0_3 ([] : List Int)).bind fun t197 => (if t197 = true then ((gazetteerref1_TableMay.f l0_0 l0_1 a0_2 a0_3).bind fun t198 => (if t198 = true then (gazetteerlaw3_WeighRows.j0 k a1 ((l0_1.length : Int) == 0) l0_0 l0_1 a0_2 a0_3) else (gazetteerlaw3_WeighRows.j0 k a1 true l0_0 l0_1 a0_2 a0_3))) else (gazetteerlaw3_WeighRows.j0 k a1 true l0_0 l0_1 a0_2 a0_3))) else (some false))) = some r := h
  clear h
  replace H := Option.bind_eq_some_iff.mp H
  obtain ⟨t196, A30, H⟩ := H
  replace H : (if t196 = true then ((gazetteerlaw3_Few.f k l0_0 l0_1 a0_2 a0_3 ([] : List Int)).bind fun t197 => (if t197 = true then ((gazetteerref1_TableMay.f l0_0 l0_1 a0_2 a0_3).bind fun t198 => (if t198 = true then (gazetteerlaw3_WeighRows.j0 k a1 ((l0_1.length : Int) == 0) l0_0 l0_1 a0_2 a0_3) else (gazetteerlaw3_WeighRows.j0 k a1 true l0_0 l0_1 a0_2 a0_3))) else (gazetteerlaw3_WeighRows.j0 k a1 true l0_0 l0_1 a0_2 a0_3))) else (some false)) = some r := H
  have A3 := Aside0.mk A30
  clear A30
  by_cases c4 : t196 = true
  rotate_left
  · replace c4 := Bool.eq_false_iff.mpr c4
    subst c4
    have H1 : (some false) = some r := by rw [if_neg (show ¬ (false = true) by decide)] at H; exact H
    clear H
    have H := H1
    clear H1
    exact absurd H (by rw [HLT.out]; repeat' first | (with_reducible exact dead_none) | (with_reducible exact dead_false) | (with_reducible refine dead_ite ?_ ?_) | (with_reducible refine dead_bind (fun _ => ?_)) | (refine dead_ite ?_ ?_) | (refine dead_bind (fun _ => ?_)) | (simp; done))
  subst c4
  have H1 : ((gazetteerlaw3_Few.f k l0_0 l0_1 a0_2 a0_3 ([] : List Int)).bind fun t197 => (if t197 = true then ((gazetteerref1_TableMay.f l0_0 l0_1 a0_2 a0_3).bind fun t198 => (if t198 = true then (gazetteerlaw3_WeighRows.j0 k a1 ((l0_1.length : Int) == 0) l0_0 l0_1 a0_2 a0_3) else (gazetteerlaw3_WeighRows.j0 k a1 true l0_0 l0_1 a0_2 a0_3))) else (gazetteerlaw3_WeighRows.j0 k a1 true l0_0 l0_1 a0_2 a0_3))) = some r := by rw [if_pos rfl] at H; exact H
  clear H
  have H := H1
  clear H1
  have HC5 := Aside0.mk H
  clear H
  go_enter Try.func8, Try.ntmps8
  go_upto_region 3 with (first | ((with_reducible refine gate_dst (N := 2) rfl ?_); (try (refine gate_guard (by rfl) ?_; dsimp only)); refine box_event ?hg (N := 2) ?hd (cs := #[.slice A0_0 l0_0.length c0_0, .slice A0_1 l0_1.length c0_1, .int .i64 a0_2, .bool a0_3]) (t := 25) ?hr ?_; (case hd => rfl); (case hg => rfl); (case hr => first | (go_simp; done) | (go_simp; rfl)); intro gb195 hg w6 hbox hb; have BK195 := Aside0.mk (hbox); have GW195 := geL hg HB.out; have GE195 := geL hg HB.out; replace HB := Aside0.mk (below_step (pB HB.out) hb); clear hb hbox hg) | ((with_reducible refine gate_callee (f := 9) rfl ?_); refine goesL_ (some 11) rfl rfl Try.func9 (by kernel_rfl) rfl #[] rfl (by (try simp only [List.map_toArray, List.map_cons, List.map_nil]); first | done | rfl | (simp only [List.length_drop, List.length_take]; done) | (simp only [List.length_drop, List.length_take]; rfl)) ?_; (with_reducible refine (gazetteerlaw3_awake.calls  true _ A3.out).mono ?_); rintro e w7 ⟨rfl, hb⟩; refine ⟨_, rfl, ?_⟩; replace BK195 := Aside0.mk (blk_below (pb BK195.out) hb); replace HB := Aside0.mk (below_step (pB HB.out) hb); (try clear hb); (try clear hb2); (try clear hk); (try clear hi)))
  (try simp only [Act.put, List.setIfInBounds_toArray, List.set_cons_zero, List.set_cons_succ])
  go_cut [26] (fun v26 wc => ∃ (kq : Nat) (x26_4 : Bool), v26 = .bool x26_4 ∧ Aside0 (gazetteerlaw3_WeighRows.j0 kq a1 x26_4 l0_0 l0_1 a0_2 a0_3 = some r) ∧ Aside0 (kq ≤ k) ∧ Aside0 (wc.heap[gb195]? = some (.cells #[(.slice A0_0 l0_0.length c0_0), (.slice A0_1 l0_1.length c0_1), .int .i64 a0_2, .bool a0_3] 25 (0, 0))) ∧ Aside0 (Below w.heap.size w wc))
  case first =>
   have H := HC5.out
   clear HC5
   replace H := Option.bind_eq_some_iff.mp H
   obtain ⟨t197, A80, H⟩ := H
   replace H : (if t197 = true then ((gazetteerref1_TableMay.f l0_0 l0_1 a0_2 a0_3).bind fun t198 => (if t198 = true then (gazetteerlaw3_WeighRows.j0 k a1 ((l0_1.length : Int) == 0) l0_0 l0_1 a0_2 a0_3) else (gazetteerlaw3_WeighRows.j0 k a1 true l0_0 l0_1 a0_2 a0_3))) else (gazetteerlaw3_WeighRows.j0 k a1 true l0_0 l0_1 a0_2 a0_3)) = some r := H
   have A8 := Aside0.mk A80
   clear A80
   by_cases c9 : t197 = true
   rotate_left
   ·
    replace c9 := Bool.eq_false_iff.mpr c9
    subst c9
    have H1 : (gazetteerlaw3_WeighRows.j0 k a1 true l0_0 l0_1 a0_2 a0_3) = some r := by rw [if_neg (show ¬ (false = true) by decide)] at H; exact H
    clear H
    have H := H1
    clear H1
    have H' := Aside0.mk H
    clear H
    have hcz21_0 : w7.cell? ⟨gb195, 0, none⟩ = some (.slice A0_0 l0_0.length c0_0) := blk_cell BK195.out 0
    have hcz21_1 : w7.cell? ⟨gb195, 1, none⟩ = some (.slice A0_1 l0_1.length c0_1) := blk_cell BK195.out 1
    have hcz21_2 : w7.cell? ⟨gb195, 2, none⟩ = some (.int .i64 a0_2) := blk_cell BK195.out 2
    have hcz21_3 : w7.cell? ⟨gb195, 3, none⟩ = some (.bool a0_3) := blk_cell BK195.out 3
    have hfz21_0 := blk_frozen BK195.out 0
    have hfz21_1 := blk_frozen BK195.out 1
    have hfz21_2 := blk_frozen BK195.out 2
    have hfz21_3 := blk_frozen BK195.out 3
    go_wp2_with (first | ((with_reducible refine gate_callee (f := 10) rfl ?_); refine goesL_ (some 14) rfl rfl Try.func10 (by kernel_rfl) rfl #[.agg #[.slice A0_0 l0_0.length c0_0, .slice A0_1 l0_1.length c0_1, .int .i64 a0_2, .bool a0_3], .slice none 0 0] rfl (by (try simp only [List.map_toArray, List.map_cons, List.map_nil]); first | done | rfl | (simp only [List.length_drop, List.length_take]; done) | (simp only [List.length_drop, List.length_take]; rfl)) ?_; (refine (gazetteerlaw3_Few.calls k _ _ l0_0 _ _ l0_1 a0_2 a0_3 _ _ ([] : List Int) false _ ?side1 ?side2 ?side3 ?side4 ?side5 ?side6 A8.out).mono ?_); (case side1 => repeat (first | exact (Kd.C_below HR0_0.out HB.out) | (with_reducible refine Kd.C_alloc ?_ _) | (with_reducible refine Kd.C_drewN ?_ _) | (with_reducible refine Kd.C_drew ?_))); (case side2 => exact HC0_0.out); (case side3 => repeat (first | exact (Kd.C_below HR0_1.out HB.out) | (with_reducible refine Kd.C_alloc ?_ _) | (with_reducible refine Kd.C_drewN ?_ _) | (with_reducible refine Kd.C_drew ?_))); (case side4 => exact HC0_1.out); (case side5 => exact Kd.C_nil _ _); (case side6 => exact Nat.le_refl _); rintro e w22 ⟨rfl, hb⟩; refine ⟨_, rfl, ?_⟩; replace BK195 := Aside0.mk (blk_below (pb BK195.out) hb); replace HB := Aside0.mk (below_step (pB HB.out) hb); (try clear hb); (try clear hb2); (try clear hk); (try clear hi)))
    go_meet
    case rel => exact ⟨_, (true), (by first | rfl | (simp; done) | (simp [*]; done)), H', ⟨by first | omega | exact Nat.le_refl _⟩, ⟨by (with_reducible repeat (first | refine blk_drewN ?_ _ | refine blk_drew ?_ | refine blk_alloc ?_ _)); exact BK195.out⟩, ⟨by repeat (first | (with_reducible first | exact HB.out | apply below_alloc | apply pw_below_drewN | apply below_drew1 | refine below_set ?_ GE195.out) | exact HB.out)⟩⟩
   subst c9
   have H1 : ((gazetteerref1_TableMay.f l0_0 l0_1 a0_2 a0_3).bind fun t198 => (if t198 = true then (gazetteerlaw3_WeighRows.j0 k a1 ((l0_1.length : Int) == 0) l0_0 l0_1 a0_2 a0_3) else (gazetteerlaw3_WeighRows.j0 k a1 true l0_0 l0_1 a0_2 a0_3))) = some r := by rw [if_pos rfl] at H; exact H
   clear H
   have H := H1
   clear H1
   replace H := Option.bind_eq_some_iff.mp H
   obtain ⟨t198, A100, H⟩ := H
   replace H : (if t198 = true then (gazetteerlaw3_WeighRows.j0 k a1 ((l0_1.length : Int) == 0) l0_0 l0_1 a0_2 a0_3) else (gazetteerlaw3_WeighRows.j0 k a1 true l0_0 l0_1 a0_2 a0_3)) = some r := H
   have A10 := Aside0.mk A100
   clear A100
   by_cases c11 : t198 = true
   rotate_left
   ·
    replace c11 := Bool.eq_false_iff.mpr c11
    subst c11
    have H1 : (gazetteerlaw3_WeighRows.j0 k a1 true l0_0 l0_1 a0_2 a0_3) = some r := by rw [if_neg (show ¬ (false = true) by decide)] at H; exact H
    clear H
    have H := H1
    clear H1
    have H' := Aside0.mk H
    clear H
    have hcz17_0 : w7.cell? ⟨gb195, 0, none⟩ = some (.slice A0_0 l0_0.length c0_0) := blk_cell BK195.out 0
    have hcz17_1 : w7.cell? ⟨gb195, 1, none⟩ = some (.slice A0_1 l0_1.length c0_1) := blk_cell BK195.out 1
    have hcz17_2 : w7.cell? ⟨gb195, 2, none⟩ = some (.int .i64 a0_2) := blk_cell BK195.out 2
    have hcz17_3 : w7.cell? ⟨gb195, 3, none⟩ = some (.bool a0_3) := blk_cell BK195.out 3
    have hfz17_0 := blk_frozen BK195.out 0
    have hfz17_1 := blk_frozen BK195.out 1
    have hfz17_2 := blk_frozen BK195.out 2
    have hfz17_3 := blk_frozen BK195.out 3
    go_wp2_with (first | ((with_reducible refine gate_callee (f := 10) rfl ?_); refine goesL_ (some 14) rfl rfl Try.func10 (by kernel_rfl) rfl #[.agg #[.slice A0_0 l0_0.length c0_0, .slice A0_1 l0_1.length c0_1, .int .i64 a0_2, .bool a0_3], .slice none 0 0] rfl (by (try simp only [List.map_toArray, List.map_cons, List.map_nil]); first | done | rfl | (simp only [List.length_drop, List.length_take]; done) | (simp only [List.length_drop, List.length_take]; rfl)) ?_; (refine (gazetteerlaw3_Few.calls k _ _ l0_0 _ _ l0_1 a0_2 a0_3 _ _ ([] : List Int) true _ ?side1 ?side2 ?side3 ?side4 ?side5 ?side6 A8.out).mono ?_); (case side1 => repeat (first | exact (Kd.C_below HR0_0.out HB.out) | (with_reducible refine Kd.C_alloc ?_ _) | (with_reducible refine Kd.C_drewN ?_ _) | (with_reducible refine Kd.C_drew ?_))); (case side2 => exact HC0_0.out); (case side3 => repeat (first | exact (Kd.C_below HR0_1.out HB.out) | (with_reducible refine Kd.C_alloc ?_ _) | (with_reducible refine Kd.C_drewN ?_ _) | (with_reducible refine Kd.C_drew ?_))); (case side4 => exact HC0_1.out); (case side5 => exact Kd.C_nil _ _); (case side6 => exact Nat.le_refl _); rintro e w18 ⟨rfl, hb⟩; refine ⟨_, rfl, ?_⟩; replace BK195 := Aside0.mk (blk_below (pb BK195.out) hb); replace HB := Aside0.mk (below_step (pB HB.out) hb); (try clear hb); (try clear hb2); (try clear hk); (try clear hi); have hcz19_0 : w18.cell? ⟨gb195, 0, none⟩ = some (.slice A0_0 l0_0.length c0_0) := blk_cell BK195.out 0; have hcz19_1 : w18.cell? ⟨gb195, 1, none⟩ = some (.slice A0_1 l0_1.length c0_1) := blk_cell BK195.out 1; have hcz19_2 : w18.cell? ⟨gb195, 2, none⟩ = some (.int .i64 a0_2) := blk_cell BK195.out 2; have hcz19_3 : w18.cell? ⟨gb195, 3, none⟩ = some (.bool a0_3) := blk_cell BK195.out 3; have hfz19_0 := blk_frozen BK195.out 0; have hfz19_1 := blk_frozen BK195.out 1; have hfz19_2 := blk_frozen BK195.out 2; have hfz19_3 := blk_frozen BK195.out 3) | (go_at_call 15; (with_reducible refine (gazetteerref1_TableMay.calls _ _ l0_0 _ _ l0_1 a0_2 a0_3 false _ ?side1 ?side2 ?side3 ?side4 A10.out).mono ?_); (case side1 => repeat (first | exact (Kd.C_below HR0_0.out HB.out) | (with_reducible refine Kd.C_alloc ?_ _) | (with_reducible refine Kd.C_drewN ?_ _) | (with_reducible refine Kd.C_drew ?_))); (case side2 => exact HC0_0.out); (case side3 => repeat (first | exact (Kd.C_below HR0_1.out HB.out) | (with_reducible refine Kd.C_alloc ?_ _) | (with_reducible refine Kd.C_drewN ?_ _) | (with_reducible refine Kd.C_drew ?_))); (case side4 => exact HC0_1.out); rintro e w20 ⟨rfl, hb⟩; replace BK195 := Aside0.mk (blk_below (pb BK195.out) hb); replace HB := Aside0.mk (below_step (pB HB.out) hb); (try clear hb); (try clear hb2); (try clear hk); (try clear hi)))
    go_meet
    case rel => exact ⟨_, (true), (by first | rfl | (simp; done) | (simp [*]; done)), H', ⟨by first | omega | exact Nat.le_refl _⟩, ⟨by (with_reducible repeat (first | refine blk_drewN ?_ _ | refine blk_drew ?_ | refine blk_alloc ?_ _)); exact BK195.out⟩, ⟨by repeat (first | (with_reducible first | exact HB.out | apply below_alloc | apply pw_below_drewN | apply below_drew1 | refine below_set ?_ GE195.out) | exact HB.out)⟩⟩
   subst c11
   have H1 : (gazetteerlaw3_WeighRows.j0 k a1 ((l0_1.length : Int) == 0) l0_0 l0_1 a0_2 a0_3) = some r := by rw [if_pos rfl] at H; exact H
   clear H
   have H := H1
   clear H1
   have H' := Aside0.mk H
   clear H
   have hcz12_0 : w7.cell? ⟨gb195, 0, none⟩ = some (.slice A0_0 l0_0.length c0_0) := blk_cell BK195.out 0
   have hcz12_1 : w7.cell? ⟨gb195, 1, none⟩ = some (.slice A0_1 l0_1.length c0_1) := blk_cell BK195.out 1
   have hcz12_2 : w7.cell? ⟨gb195, 2, none⟩ = some (.int .i64 a0_2) := blk_cell BK195.out 2
   have hcz12_3 : w7.cell? ⟨gb195, 3, none⟩ = some (.bool a0_3) := blk_cell BK195.out 3
   have hfz12_0 := blk_frozen BK195.out 0
   have hfz12_1 := blk_frozen BK195.out 1
   have hfz12_2 := blk_frozen BK195.out 2
   have hfz12_3 := blk_frozen BK195.out 3
   go_wp2_with (first | ((with_reducible refine gate_callee (f := 10) rfl ?_); refine goesL_ (some 14) rfl rfl Try.func10 (by kernel_rfl) rfl #[.agg #[.slice A0_0 l0_0.length c0_0, .slice A0_1 l0_1.length c0_1, .int .i64 a0_2, .bool a0_3], .slice none 0 0] rfl (by (try simp only [List.map_toArray, List.map_cons, List.map_nil]); first | done | rfl | (simp only [List.length_drop, List.length_take]; done) | (simp only [List.length_drop, List.length_take]; rfl)) ?_; (refine (gazetteerlaw3_Few.calls k _ _ l0_0 _ _ l0_1 a0_2 a0_3 _ _ ([] : List Int) true _ ?side1 ?side2 ?side3 ?side4 ?side5 ?side6 A8.out).mono ?_); (case side1 => repeat (first | exact (Kd.C_below HR0_0.out HB.out) | (with_reducible refine Kd.C_alloc ?_ _) | (with_reducible refine Kd.C_drewN ?_ _) | (with_reducible refine Kd.C_drew ?_))); (case side2 => exact HC0_0.out); (case side3 => repeat (first | exact (Kd.C_below HR0_1.out HB.out) | (with_reducible refine Kd.C_alloc ?_ _) | (with_reducible refine Kd.C_drewN ?_ _) | (with_reducible refine Kd.C_drew ?_))); (case side4 => exact HC0_1.out); (case side5 => exact Kd.C_nil _ _); (case side6 => exact Nat.le_refl _); rintro e w13 ⟨rfl, hb⟩; refine ⟨_, rfl, ?_⟩; replace BK195 := Aside0.mk (blk_below (pb BK195.out) hb); replace HB := Aside0.mk (below_step (pB HB.out) hb); (try clear hb); (try clear hb2); (try clear hk); (try clear hi); have hcz14_0 : w13.cell? ⟨gb195, 0, none⟩ = some (.slice A0_0 l0_0.length c0_0) := blk_cell BK195.out 0; have hcz14_1 : w13.cell? ⟨gb195, 1, none⟩ = some (.slice A0_1 l0_1.length c0_1) := blk_cell BK195.out 1; have hcz14_2 : w13.cell? ⟨gb195, 2, none⟩ = some (.int .i64 a0_2) := blk_cell BK195.out 2; have hcz14_3 : w13.cell? ⟨gb195, 3, none⟩ = some (.bool a0_3) := blk_cell BK195.out 3; have hfz14_0 := blk_frozen BK195.out 0; have hfz14_1 := blk_frozen BK195.out 1; have hfz14_2 := blk_frozen BK195.out 2; have hfz14_3 := blk_frozen BK195.out 3) | (go_at_call 15; (with_reducible refine (gazetteerref1_TableMay.calls _ _ l0_0 _ _ l0_1 a0_2 a0_3 true _ ?side1 ?side2 ?side3 ?side4 A10.out).mono ?_); (case side1 => repeat (first | exact (Kd.C_below HR0_0.out HB.out) | (with_reducible refine Kd.C_alloc ?_ _) | (with_reducible refine Kd.C_drewN ?_ _) | (with_reducible refine Kd.C_drew ?_))); (case side2 => exact HC0_0.out); (case side3 => repeat (first | exact (Kd.C_below HR0_1.out HB.out) | (with_reducible refine Kd.C_alloc ?_ _) | (with_reducible refine Kd.C_drewN ?_ _) | (with_reducible refine Kd.C_drew ?_))); (case side4 => exact HC0_1.out); rintro e w15 ⟨rfl, hb⟩; replace BK195 := Aside0.mk (blk_below (pb BK195.out) hb); replace HB := Aside0.mk (below_step (pB HB.out) hb); (try clear hb); (try clear hb2); (try clear hk); (try clear hi); have hcz16_0 : w15.cell? ⟨gb195, 0, none⟩ = some (.slice A0_0 l0_0.length c0_0) := blk_cell BK195.out 0; have hcz16_1 : w15.cell? ⟨gb195, 1, none⟩ = some (.slice A0_1 l0_1.length c0_1) := blk_cell BK195.out 1; have hcz16_2 : w15.cell? ⟨gb195, 2, none⟩ = some (.int .i64 a0_2) := blk_cell BK195.out 2; have hcz16_3 : w15.cell? ⟨gb195, 3, none⟩ = some (.bool a0_3) := blk_cell BK195.out 3; have hfz16_0 := blk_frozen BK195.out 0; have hfz16_1 := blk_frozen BK195.out 1; have hfz16_2 := blk_frozen BK195.out 2; have hfz16_3 := blk_frozen BK195.out 3))
   go_meet
   case rel => exact ⟨_, (((l0_1.length : Int) == 0)), (by first | rfl | (simp; done) | (simp [*]; done)), H', ⟨by first | omega | exact Nat.le_refl _⟩, ⟨by (with_reducible repeat (first | refine blk_drewN ?_ _ | refine blk_drew ?_ | refine blk_alloc ?_ _)); exact BK195.out⟩, ⟨by repeat (first | (with_reducible first | exact HB.out | apply below_alloc | apply pw_below_drewN | apply below_drew1 | refine below_set ?_ GE195.out) | exact HB.out)⟩⟩
  case rest =>
   clear HC5
   try clear c1
   try clear p2
   try clear c4
   try clear c8
   try clear c9
   try clear c10
   try clear c11
   try clear hcz12_0
   try clear hcz12_1
   try clear hcz12_2
   try clear hcz12_3
   try clear hcz14_0
   try clear hcz14_1
   try clear hcz14_2
   try clear hcz14_3
   try clear hcz16_0
   try clear hcz16_1
   try clear hcz16_2
   try clear hcz16_3
   try clear hcz17_0
   try clear hcz17_1
   try clear hcz17_2
   try clear hcz17_3
   try clear hcz19_0
   try clear hcz19_1
   try clear hcz19_2
   try clear hcz19_3
   try clear hcz21_0
   try clear hcz21_1
   try clear hcz21_2
   try clear hcz21_3
   try clear hfz12_0
   try clear hfz12_1
   try clear hfz12_2
   try clear hfz12_3
   try clear hfz14_0
   try clear hfz14_1
   try clear hfz14_2
   try clear hfz14_3
   try clear hfz16_0
   try clear hfz16_1
   try clear hfz16_2
   try clear hfz16_3
   try clear hfz17_0
   try clear hfz17_1
   try clear hfz17_2
   try clear hfz17_3
   try clear hfz19_0
   try clear hfz19_1
   try clear hfz19_2
   try clear hfz19_3
   try clear hfz21_0
   try clear hfz21_1
   try clear hfz21_2
   try clear hfz21_3
   obtain ⟨kq, x26_4, rfl, HA, HJ4, BK195, HB⟩ := hcut
   cases kq with
   | zero => exact absurd HA.out (by simp [gazetteerlaw3_WeighRows.j0])
   | succ kj4 =>
    have H := HA.out
    clear HA
    simp only [gazetteerlaw3_WeighRows.j0] at H
    by_cases c23 : x26_4 = true
    ·
     subst c23
     have H1 : (some true) = some r := by rw [if_pos rfl] at H; exact H
     clear H
     have H := H1
     clear H1
     obtain rfl := Option.some.inj H
     go_wp2
     go_ret
     exact ⟨by first | rfl | (simp [errW_none, errW_some] <;> rfl) | (simp [*, errW_none, errW_some] <;> rfl), by repeat (first | (with_reducible first | exact HB.out | apply below_alloc | apply pw_below_drewN | apply below_drew1 | refine below_set ?_ GE195.out) | exact HB.out)⟩
    replace c23 := Bool.eq_false_iff.mpr c23
    subst c23
    have H1 : (if (l0_1.length : Int) = 0 then (none) else (if 0 ≤ (Int.tmod (wrap64 (a1)) (l0_1.length : Int)) then (if (Int.tmod (wrap64 (a1)) (l0_1.length : Int)) < (l0_1.length : Int) then ((gazetteerref1_Normal.f kj4 l0_0 ((rd_T44 l0_1 (Int.tmod (wrap64 (a1)) (l0_1.length : Int))).f0)).bind fun bt201 => ((weigh_Elements.f l0_0 l0_1 a0_2 a0_3 ((rd_T44 l0_1 (Int.tmod (wrap64 (a1)) (l0_1.length : Int))).f0)).bind fun bt205 => (if bt201.2 = 0 then (gazetteerlaw3_WeighRows.j1 kj4 bt201.1 bt205.1 (bt205.2 != 0) ((rd_T44 l0_1 (Int.tmod (wrap64 (a1)) (l0_1.length : Int))).f0) ((rd_T44 l0_1 (Int.tmod (wrap64 (a1)) (l0_1.length : Int))).f1)) else (gazetteerlaw3_WeighRows.j1 kj4 bt201.1 bt205.1 true ((rd_T44 l0_1 (Int.tmod (wrap64 (a1)) (l0_1.length : Int))).f0) ((rd_T44 l0_1 (Int.tmod (wrap64 (a1)) (l0_1.length : Int))).f1))))) else (none)) else (none))) = some r := by rw [if_neg (show ¬ (false = true) by decide)] at H; exact H
    clear H
    have H := H1
    clear H1
    by_cases c24 : (l0_1.length : Int) = 0
    · rw [if_pos c24] at H
      exact absurd H (by simp)
    rw [if_neg c24] at H
    have c24b0 : ((l0_1.length : Int) == 0) = false := beq_eq_false_iff_ne.mpr c24
    have c24b1 : ((l0_1.length : Int) != 0) = true := bne_iff_ne.mpr c24
    have c24b2 : ¬ (l0_1 = []) := fun h_ => c24 (by rw [h_]; rfl)
    obtain ⟨ji25, hji25⟩ : ∃ j_ : Int, (Int.tmod (wrap64 (a1)) (l0_1.length : Int)) = j_ := ⟨_, rfl⟩
    replace H : (if 0 ≤ (ji25) then (if (ji25) < (l0_1.length : Int) then ((gazetteerref1_Normal.f kj4 l0_0 ((rd_T44 l0_1 (ji25)).f0)).bind fun bt201 => ((weigh_Elements.f l0_0 l0_1 a0_2 a0_3 ((rd_T44 l0_1 (ji25)).f0)).bind fun bt205 => (if bt201.2 = 0 then (gazetteerlaw3_WeighRows.j1 kj4 bt201.1 bt205.1 (bt205.2 != 0) ((rd_T44 l0_1 (ji25)).f0) ((rd_T44 l0_1 (ji25)).f1)) else (gazetteerlaw3_WeighRows.j1 kj4 bt201.1 bt205.1 true ((rd_T44 l0_1 (ji25)).f0) ((rd_T44 l0_1 (ji25)).f1))))) else (none)) else (none)) = some r := by first | (rw [hji25] at H; exact H) | (simp only [hji25] at H ⊢; exact H)
    by_cases c26 : 0 ≤ (ji25)
    rotate_left
    · rw [if_neg c26] at H
      exact absurd H (by simp)
    rw [if_pos c26] at H
    have c26b0 : decide (0 ≤ (ji25)) = true := decide_eq_true c26
    clear c26
    by_cases c27 : (ji25) < (l0_1.length : Int)
    rotate_left
    · rw [if_neg c27] at H
      exact absurd H (by simp)
    rw [if_pos c27] at H
    have c27b0 : decide ((ji25) < (l0_1.length : Int)) = true := decide_eq_true c27
    clear c27
    replace H := Option.bind_eq_some_iff.mp H
    obtain ⟨⟨t201, t202⟩, A280, H⟩ := H
    replace H : ((weigh_Elements.f l0_0 l0_1 a0_2 a0_3 ((rd_T44 l0_1 (ji25)).f0)).bind fun bt205 => (if t202 = 0 then (gazetteerlaw3_WeighRows.j1 kj4 t201 bt205.1 (bt205.2 != 0) ((rd_T44 l0_1 (ji25)).f0) ((rd_T44 l0_1 (ji25)).f1)) else (gazetteerlaw3_WeighRows.j1 kj4 t201 bt205.1 true ((rd_T44 l0_1 (ji25)).f0) ((rd_T44 l0_1 (ji25)).f1)))) = some r := H
    have A28 := Aside0.mk A280
    clear A280
    replace H := Option.bind_eq_some_iff.mp H
    obtain ⟨⟨t205, t208⟩, A290, H⟩ := H
    replace H : (if t202 = 0 then (gazetteerlaw3_WeighRows.j1 kj4 t201 t205 (t208 != 0) ((rd_T44 l0_1 (ji25)).f0) ((rd_T44 l0_1 (ji25)).f1)) else (gazetteerlaw3_WeighRows.j1 kj4 t201 t205 true ((rd_T44 l0_1 (ji25)).f0) ((rd_T44 l0_1 (ji25)).f1))) = some r := H
    have A29 := Aside0.mk A290
    clear A290
    have HC30 := Aside0.mk H
    clear H
    try go_wp2
    replace BK195 := Aside0.mk (blk_drew BK195.out)
    replace HB := Aside0.mk (below_drew1 HB.out)
    have p199 : 0 ≤ ((ji25) : Int) := of_decide_eq_true (by first | (with_reducible assumption) | assumption)
    have q199 : (ji25) < (l0_1.length : Int) := of_decide_eq_true (by first | (with_reducible assumption) | assumption)
    obtain ⟨ad199, A199_0, c199_0, A199_1, c199_1, e199, hx199_0, hx199_1, hl199_0, hi199_0, hl199_1, hi199_1⟩ := at_T44 HR0_1.out (ji25) p199 q199
    have hw199_1 := hx199_1
    have hw199_0 := hx199_0
    cases e199
    replace hx199_0 := (HB.out.cell (World.block_lt_of_cell? w _ hx199_0)).trans hx199_0
    replace hx199_1 := (HB.out.cell (World.block_lt_of_cell? w _ hx199_1)).trans hx199_1
    have HR199_0 := Aside0.mk hi199_0
    have HC199_0 := Aside0.mk hl199_0
    clear hi199_0 hl199_0
    have HR199_1 := Aside0.mk hi199_1
    have HC199_1 := Aside0.mk hl199_1
    clear hi199_1 hl199_1
    replace p199 := eq_true p199
    replace q199 := eq_true q199
    refine start_ (n := 12) (S := fun w' => w'.cell? ⟨gb195, 0, none⟩ = some (.slice A0_0 l0_0.length c0_0) ∧ w'.cell? ⟨gb195, 1, none⟩ = some (.slice (some ad199) l0_1.length c0_1) ∧ w'.cell? ⟨gb195, 2, none⟩ = some (.int .i64 a0_2) ∧ w'.cell? ⟨gb195, 3, none⟩ = some (.bool a0_3) ∧ w'.cell? (ad199.add (((ji25)).toNat * 2)) = some (.slice A199_0 ((rd_T44 l0_1 (ji25)).f0).length c199_0) ∧ w'.cell? ⟨(ad199.add (((ji25)).toNat * 2)).block, (ad199.add (((ji25)).toNat * 2)).off + 1, none⟩ = some (.slice A199_1 ((rd_T44 l0_1 (ji25)).f1).length c199_1)) (ds := []) (fl 0 12) (by kernel_rfl) rfl rfl ⟨blk_cell BK195.out 0, blk_cell BK195.out 1, blk_cell BK195.out 2, blk_cell BK195.out 3, ((HB.out.cell (World.block_lt_of_cell? w _ hw199_0)).trans hw199_0), ((HB.out.cell (World.block_lt_of_cell? w _ hw199_1)).trans hw199_1)⟩ (fun hHeld => ?_); refine with_tabW gazetteerlaw3_WeighRows.tab5 gazetteerlaw3_WeighRows.bits5 (fun HT_ HW_ => ?_)
    generalize wc.drew = w31 at BK195 HB HR199_0 HR199_1 hx199_0 hx199_1 hHeld ⊢
    refine pure_ (i := 0) (N := some 27) (v := ?_) (a' := ?_) (fl 1 11) rfl rfl (any_of HT_.out (by kernel_rfl)) (fun _ _ _ h => h) (Or.inl ⟨by rfl, ?_⟩) ?_ ?_
    rotate_left
    · intro w'
      go_simp
      with_reducible rfl
    rotate_left
    · simp only [Act.put, List.setIfInBounds_toArray, List.set_cons_zero, List.set_cons_succ, i64_w, i32_w]; rfl
    refine pure_ (i := 2) (N := some 29) (v := ?_) (a' := ?_) #[true, false, true, false, false, false, false, false, false, false, false, false] rfl rfl (any_of HT_.out (by kernel_rfl)) (fun _ _ _ h => h) (Or.inl ⟨by rfl, ?_⟩) ?_ ?_
    rotate_left
    · intro w'
      go_simp
      with_reducible rfl
    rotate_left
    · simp only [Act.put, List.setIfInBounds_toArray, List.set_cons_zero, List.set_cons_succ, i64_w, i32_w]; rfl
    refine pure_ (i := 3) (N := some 30) (v := ?_) (a' := ?_) #[true, false, true, true, false, false, false, false, false, false, false, false] rfl rfl (any_of HT_.out (by kernel_rfl)) (fun _ _ _ h => h) (Or.inl ⟨by rfl, ?_⟩) ?_ ?_
    rotate_left
    · intro w'
      go_simp
      with_reducible rfl
    rotate_left
    · simp only [Act.put, List.setIfInBounds_toArray, List.set_cons_zero, List.set_cons_succ, i64_w, i32_w]; rfl
    refine pure_ (i := 4) (N := some 31) (v := ?_) (a' := ?_) #[true, false, true, true, true, false, false, false, false, false, false, false] rfl rfl (any_of HT_.out (by kernel_rfl)) (fun _ _ _ h => h) (Or.inl ⟨by rfl, ?_⟩) ?_ ?_
    rotate_left
    · intro w'
      go_simp
      with_reducible rfl
    rotate_left
    · simp only [Act.put, List.setIfInBounds_toArray, List.set_cons_zero, List.set_cons_succ, i64_w, i32_w]; rfl
    refine take_ (i := 1) (N := some 28) (v := ?_) (a' := ?_) (fl 5 7) rfl rfl (take_ofW HT_.out HW_.out (by kernel_rfl)) (fun _ _ _ h => h) (Or.inl ⟨by rfl, ?_⟩) hHeld ?_ ?_
    rotate_left
    · rintro w' ⟨s0, s1, s2, s3, s4, s5⟩; go_simp; with_reducible rfl
    rotate_left
    · simp only [Act.put, List.setIfInBounds_toArray, List.set_cons_zero, List.set_cons_succ, i64_w, i32_w]; rfl
    refine take_ (i := 5) (N := some 32) (v := ?_) (a' := ?_) (fl 6 6) rfl rfl (take_ofW HT_.out HW_.out (by kernel_rfl)) (fun _ _ _ h => h) (Or.inl ⟨by rfl, ?_⟩) hHeld ?_ ?_
    rotate_left
    · rintro w' ⟨s0, s1, s2, s3, s4, s5⟩; go_simp; with_reducible rfl
    rotate_left
    · simp only [Act.put, List.setIfInBounds_toArray, List.set_cons_zero, List.set_cons_succ, i64_w, i32_w]; rfl
    refine pure_ (i := 6) (N := some 33) (v := ?_) (a' := ?_) (fl 7 5) rfl rfl (any_of HT_.out (by kernel_rfl)) (fun _ _ _ h => h) (Or.inl ⟨by rfl, ?_⟩) ?_ ?_
    rotate_left
    · intro w'
      go_simp
      with_reducible rfl
    rotate_left
    · simp only [Act.put, List.setIfInBounds_toArray, List.set_cons_zero, List.set_cons_succ, i64_w, i32_w]; rfl
    refine pure_ (i := 7) (N := some 34) (v := ?_) (a' := ?_) (fl 8 4) rfl rfl (any_of HT_.out (by kernel_rfl)) (fun _ _ _ h => h) (Or.inl ⟨by rfl, ?_⟩) ?_ ?_
    rotate_left
    · intro w'
      go_simp
      with_reducible rfl
    rotate_left
    · simp only [Act.put, List.setIfInBounds_toArray, List.set_cons_zero, List.set_cons_succ, i64_w, i32_w]; rfl
    refine pure_ (i := 8) (N := some 35) (v := ?_) (a' := ?_) (fl 9 3) rfl rfl (any_of HT_.out (by kernel_rfl)) (fun _ _ _ h => h) (Or.inl ⟨by rfl, ?_⟩) ?_ ?_
    rotate_left
    · intro w'
      go_simp
      with_reducible rfl
    rotate_left
    · simp only [Act.put, List.setIfInBounds_toArray, List.set_cons_zero, List.set_cons_succ, i64_w, i32_w]; rfl
    refine take_ (i := 9) (N := some 36) (v := ?_) (a' := ?_) (fl 10 2) rfl rfl (take_ofW HT_.out HW_.out (by kernel_rfl)) (fun _ _ _ h => h) (Or.inl ⟨by rfl, ?_⟩) hHeld ?_ ?_
    rotate_left
    · rintro w' ⟨s0, s1, s2, s3, s4, s5⟩; go_simp; with_reducible rfl
    rotate_left
    · simp only [Act.put, List.setIfInBounds_toArray, List.set_cons_zero, List.set_cons_succ, i64_w, i32_w]; rfl
    refine one_ (i := 10) (N := some 5) (fl 11 1) rfl rfl (one_of HT_.out (by kernel_rfl)) (by decide) (fun K hK => ?_)
    refine box_step ?hg (N := 5) ?hd (cs := #[.slice none 0 0, .slice none 0 0]) (t := 44) ?hr ?_; (case hd => rfl); (case hg => rfl); (case hr => first | (go_simp; done) | (go_simp; rfl))
    intro gb200 hg w32 hbox hb
    have BK200 := Aside0.mk (hbox)
    have GW200 := geL hg HB.out
    have GE200 := geL hg HB.out
    have NB195_200 := neL hg BK195.out
    have NB200_195 := neG hg BK195.out
    replace BK195 := Aside0.mk (blk_below (pb BK195.out) hb)
    replace HB := Aside0.mk (below_step (pB HB.out) hb)
    clear hb hbox hg
    refine hK.out _ _ ⟨blk_cell BK195.out 0, blk_cell BK195.out 1, blk_cell BK195.out 2, blk_cell BK195.out 3, ((HB.out.cell (World.block_lt_of_cell? w _ hw199_0)).trans hw199_0), ((HB.out.cell (World.block_lt_of_cell? w _ hw199_1)).trans hw199_1)⟩ (fun hHeld => ?_)
    clear hK K
    refine norm_ (a' := ?_) ?_ ?_
    rotate_left
    · show Act.put _ (some 5) _ = _; simp only [Act.put, List.setIfInBounds_toArray, List.set_cons_zero, List.set_cons_succ, i64_w, i32_w]; rfl
    refine one_ (i := 11) (N := none) (fl 12 0) rfl rfl (one_of HT_.out (by kernel_rfl)) (by decide) (fun K hK => ?_)
    have hs33 : w32.cell? ⟨gb200, 0, none⟩ = some (.slice none 0 0) := blk_cell BK200.out 0
    have hfs33 := blk_frozen BK200.out 0
    have hns33_0 := NB195_200.out
    have hms33_0 := NB200_195.out
    have hs34 : w32.cell? ⟨gb200, 1, none⟩ = some (.slice none 0 0) := blk_cell BK200.out 1
    have hfs34 := blk_frozen BK200.out 1
    have hns34_0 := NB195_200.out
    have hms34_0 := NB200_195.out
    refine skip_ (w1 := ?_) (by rfl) rfl ?_ ?_
    rotate_left
    · go_simp; rfl
    refine hK.out _ _ ⟨((cell_far (p := ⟨gb200, _, none⟩) NB195_200.out _).trans (((cell_far (p := ⟨gb200, _, none⟩) NB195_200.out _).trans (hHeld.1)))), ((cell_far (p := ⟨gb200, _, none⟩) NB195_200.out _).trans (((cell_far (p := ⟨gb200, _, none⟩) NB195_200.out _).trans (hHeld.2.1)))), ((cell_far (p := ⟨gb200, _, none⟩) NB195_200.out _).trans (((cell_far (p := ⟨gb200, _, none⟩) NB195_200.out _).trans (hHeld.2.2.1)))), ((cell_far (p := ⟨gb200, _, none⟩) NB195_200.out _).trans (((cell_far (p := ⟨gb200, _, none⟩) NB195_200.out _).trans (hHeld.2.2.2.1)))), ((cell_far (p := ⟨gb200, _, none⟩) (by first | exact Nat.ne_of_lt (Nat.lt_of_lt_of_le (by have := World.block_lt_of_cell? _ _ hw199_0; first | rwa [add_block] at this | exact this) GW200.out) | (rw [add_block]; exact Nat.ne_of_lt (Nat.lt_of_lt_of_le (by have := World.block_lt_of_cell? _ _ hw199_0; first | rwa [add_block] at this | exact this) GW200.out)) | (show (Addr.add _ _).block ≠ _; rw [add_block]; exact Nat.ne_of_lt (Nat.lt_of_lt_of_le (by have := World.block_lt_of_cell? _ _ hw199_0; first | rwa [add_block] at this | exact this) GW200.out)) | (dsimp only; exact Nat.ne_of_lt (Nat.lt_of_lt_of_le (by have := World.block_lt_of_cell? _ _ hw199_0; first | rwa [add_block] at this | exact this) GW200.out))) _).trans (((cell_far (p := ⟨gb200, _, none⟩) (by first | exact Nat.ne_of_lt (Nat.lt_of_lt_of_le (by have := World.block_lt_of_cell? _ _ hw199_0; first | rwa [add_block] at this | exact this) GW200.out) | (rw [add_block]; exact Nat.ne_of_lt (Nat.lt_of_lt_of_le (by have := World.block_lt_of_cell? _ _ hw199_0; first | rwa [add_block] at this | exact this) GW200.out)) | (show (Addr.add _ _).block ≠ _; rw [add_block]; exact Nat.ne_of_lt (Nat.lt_of_lt_of_le (by have := World.block_lt_of_cell? _ _ hw199_0; first | rwa [add_block] at this | exact this) GW200.out)) | (dsimp only; exact Nat.ne_of_lt (Nat.lt_of_lt_of_le (by have := World.block_lt_of_cell? _ _ hw199_0; first | rwa [add_block] at this | exact this) GW200.out))) _).trans (hHeld.2.2.2.2.1)))), ((cell_far (p := ⟨gb200, _, none⟩) (by first | exact Nat.ne_of_lt (Nat.lt_of_lt_of_le (by have := World.block_lt_of_cell? _ _ hw199_1; first | rwa [add_block] at this | exact this) GW200.out) | (rw [add_block]; exact Nat.ne_of_lt (Nat.lt_of_lt_of_le (by have := World.block_lt_of_cell? _ _ hw199_1; first | rwa [add_block] at this | exact this) GW200.out)) | (show (Addr.add _ _).block ≠ _; rw [add_block]; exact Nat.ne_of_lt (Nat.lt_of_lt_of_le (by have := World.block_lt_of_cell? _ _ hw199_1; first | rwa [add_block] at this | exact this) GW200.out)) | (dsimp only; exact Nat.ne_of_lt (Nat.lt_of_lt_of_le (by have := World.block_lt_of_cell? _ _ hw199_1; first | rwa [add_block] at this | exact this) GW200.out))) _).trans (((cell_far (p := ⟨gb200, _, none⟩) (by first | exact Nat.ne_of_lt (Nat.lt_of_lt_of_le (by have := World.block_lt_of_cell? _ _ hw199_1; first | rwa [add_block] at this | exact this) GW200.out) | (rw [add_block]; exact Nat.ne_of_lt (Nat.lt_of_lt_of_le (by have := World.block_lt_of_cell? _ _ hw199_1; first | rwa [add_block] at this | exact this) GW200.out)) | (show (Addr.add _ _).block ≠ _; rw [add_block]; exact Nat.ne_of_lt (Nat.lt_of_lt_of_le (by have := World.block_lt_of_cell? _ _ hw199_1; first | rwa [add_block] at this | exact this) GW200.out)) | (dsimp only; exact Nat.ne_of_lt (Nat.lt_of_lt_of_le (by have := World.block_lt_of_cell? _ _ hw199_1; first | rwa [add_block] at this | exact this) GW200.out))) _).trans (hHeld.2.2.2.2.2))))⟩ (fun hHeld => ?_)
    clear hK K
    refine done_ (done_of HT_.out (by kernel_rfl)) ?_
    have hnb35 := NB195_200.out
    have hnc35 := NB200_195.out
    have hcz36_0 : w32.cell? ⟨gb195, 0, none⟩ = some (.slice A0_0 l0_0.length c0_0) := blk_cell BK195.out 0
    have hcz36_1 : w32.cell? ⟨gb195, 1, none⟩ = some (.slice (some ad199) l0_1.length c0_1) := blk_cell BK195.out 1
    have hcz36_2 : w32.cell? ⟨gb195, 2, none⟩ = some (.int .i64 a0_2) := blk_cell BK195.out 2
    have hcz36_3 : w32.cell? ⟨gb195, 3, none⟩ = some (.bool a0_3) := blk_cell BK195.out 3
    have hfz36_0 := blk_frozen BK195.out 0
    have hfz36_1 := blk_frozen BK195.out 1
    have hfz36_2 := blk_frozen BK195.out 2
    have hfz36_3 := blk_frozen BK195.out 3
    have hcz37_0 : w32.cell? ⟨gb200, 0, none⟩ = some (.slice none 0 0) := blk_cell BK200.out 0
    have hcz37_1 : w32.cell? ⟨gb200, 1, none⟩ = some (.slice none 0 0) := blk_cell BK200.out 1
    have hfz37_0 := blk_frozen BK200.out 0
    have hfz37_1 := blk_frozen BK200.out 1
    go_upto_region 8 with (first | ((with_reducible refine gate_callee (f := 19) rfl ?_); refine goesL_ (some 42) rfl rfl Try.func19 (by kernel_rfl) rfl #[.slice A0_0 l0_0.length c0_0, .slice A199_0 ((rd_T44 l0_1 (ji25)).f0).length c199_0] rfl (by (try simp only [List.map_toArray, List.map_cons, List.map_nil]); first | done | (simp only [hji25]; rfl) | rfl | (simp only [List.length_drop, List.length_take]; done) | (simp only [List.length_drop, List.length_take]; rfl)) ?_; (with_reducible refine (gazetteerref1_Normal.calls kj4 _ _ l0_0 _ _ ((rd_T44 l0_1 (ji25)).f0) t201 t202 _ ?side1 ?side2 ?side3 ?side4 A28.out).mono ?_); (case side1 => exact Kd.C_below HR0_0.out (by repeat (first | (with_reducible first | exact HB.out | apply below_alloc | apply pw_below_drewN | apply below_drew1 | refine below_set ?_ GE195.out | refine below_set ?_ GE200.out) | exact HB.out))); (case side2 => exact HC0_0.out); (case side3 => exact Kd.C_below HR199_0.out (by repeat (first | (with_reducible first | exact HB.out | apply below_alloc | apply pw_below_drewN | apply below_drew1 | refine below_set ?_ GE195.out | refine below_set ?_ GE200.out) | exact HB.out))); (case side4 => exact HC199_0.out); rintro e w38 ⟨v203, rfl, ho0, hb⟩; refine ⟨_, rfl, ?_⟩; have HO204 := Aside0.mk (Kd.R_lower ho0 (below_size (by repeat (first | (with_reducible first | exact HB.out | apply below_alloc | apply pw_below_drewN | apply below_drew1 | refine below_set ?_ GE195.out | refine below_set ?_ GE200.out) | exact HB.out)))); replace BK195 := Aside0.mk (blk_below (g := gb195) (o := .cells #[.slice A0_0 l0_0.length c0_0, .slice (some ad199) l0_1.length c0_1, .int .i64 a0_2, .bool a0_3] 25 (0, 0)) (by (with_reducible repeat (first | refine blk_drewN ?_ _ | refine blk_drew ?_ | refine blk_alloc ?_ _)); refine blk_far ?_ NB195_200.out _; (with_reducible repeat (first | refine blk_drewN ?_ _ | refine blk_drew ?_ | refine blk_alloc ?_ _)); refine blk_far ?_ NB195_200.out _; (with_reducible repeat (first | refine blk_drewN ?_ _ | refine blk_drew ?_ | refine blk_alloc ?_ _)); exact BK195.out) hb); replace BK200 := Aside0.mk (blk_below (g := gb200) (o := .cells #[.slice A199_0 ((rd_T44 l0_1 (ji25)).f0).length c199_0, .slice A199_1 ((rd_T44 l0_1 (ji25)).f1).length c199_1] 44 (0, 0)) (by (with_reducible repeat (first | refine blk_drewN ?_ _ | refine blk_drew ?_ | refine blk_alloc ?_ _)); refine blk_put (cs := #[.slice A199_0 ((rd_T44 l0_1 (ji25)).f0).length c199_0, .slice none 0 0]) ?_ 1 _ rfl; (with_reducible repeat (first | refine blk_drewN ?_ _ | refine blk_drew ?_ | refine blk_alloc ?_ _)); refine blk_put (cs := #[.slice none 0 0, .slice none 0 0]) ?_ 0 _ rfl; (with_reducible repeat (first | refine blk_drewN ?_ _ | refine blk_drew ?_ | refine blk_alloc ?_ _)); exact BK200.out) hb); replace HB := Aside0.mk (below_step (by repeat (first | (with_reducible first | exact HB.out | apply below_alloc | apply pw_below_drewN | apply below_drew1 | refine below_set ?_ GE195.out | refine below_set ?_ GE200.out) | exact HB.out)) hb); (try clear hb); (try clear hb2); (try clear hk); (try clear hi); (try clear ho0); have hcz39_0 : w38.cell? ⟨gb195, 0, none⟩ = some (.slice A0_0 l0_0.length c0_0) := blk_cell BK195.out 0; have hcz39_1 : w38.cell? ⟨gb195, 1, none⟩ = some (.slice (some ad199) l0_1.length c0_1) := blk_cell BK195.out 1; have hcz39_2 : w38.cell? ⟨gb195, 2, none⟩ = some (.int .i64 a0_2) := blk_cell BK195.out 2; have hcz39_3 : w38.cell? ⟨gb195, 3, none⟩ = some (.bool a0_3) := blk_cell BK195.out 3; have hfz39_0 := blk_frozen BK195.out 0; have hfz39_1 := blk_frozen BK195.out 1; have hfz39_2 := blk_frozen BK195.out 2; have hfz39_3 := blk_frozen BK195.out 3; have hcz40_0 : w38.cell? ⟨gb200, 0, none⟩ = some (.slice A199_0 ((rd_T44 l0_1 (ji25)).f0).length c199_0) := blk_cell BK200.out 0; have hcz40_1 : w38.cell? ⟨gb200, 1, none⟩ = some (.slice A199_1 ((rd_T44 l0_1 (ji25)).f1).length c199_1) := blk_cell BK200.out 1; have hfz40_0 := blk_frozen BK200.out 0; have hfz40_1 := blk_frozen BK200.out 1) | ((with_reducible refine gate_callee (f := 11) rfl ?_); refine goesL_ (some 49) rfl rfl Try.func11 (by kernel_rfl) rfl #[.agg #[.slice A0_0 l0_0.length c0_0, .slice (some ad199) l0_1.length c0_1, .int .i64 a0_2, .bool a0_3], .slice A199_0 ((rd_T44 l0_1 (ji25)).f0).length c199_0] rfl (by (try simp only [List.map_toArray, List.map_cons, List.map_nil]); first | done | (simp only [hji25]; rfl) | rfl | (simp only [List.length_drop, List.length_take]; done) | (simp only [List.length_drop, List.length_take]; rfl)) ?_; (with_reducible refine (weigh_Elements.calls _ _ l0_0 _ _ l0_1 a0_2 a0_3 _ _ ((rd_T44 l0_1 (ji25)).f0) t205 t208 _ ?side1 ?side2 ?side3 ?side4 ?side5 ?side6 A29.out).mono ?_); (case side1 => repeat (first | exact (Kd.C_below HR0_0.out HB.out) | (with_reducible refine Kd.C_alloc ?_ _) | (with_reducible refine Kd.C_drewN ?_ _) | (with_reducible refine Kd.C_drew ?_))); (case side2 => exact HC0_0.out); (case side3 => repeat (first | exact (Kd.C_below HR0_1.out HB.out) | (with_reducible refine Kd.C_alloc ?_ _) | (with_reducible refine Kd.C_drewN ?_ _) | (with_reducible refine Kd.C_drew ?_))); (case side4 => exact HC0_1.out); (case side5 => repeat (first | exact (Kd.C_below HR199_0.out HB.out) | (with_reducible refine Kd.C_alloc ?_ _) | (with_reducible refine Kd.C_drewN ?_ _) | (with_reducible refine Kd.C_drew ?_))); (case side6 => exact HC199_0.out); rintro e w41 ⟨v206, rfl, ho0, hb⟩; refine ⟨_, rfl, ?_⟩; have HO207 := Aside0.mk (Kd.R_lower ho0 (below_size (by repeat (first | (with_reducible first | exact HB.out | apply below_alloc | apply pw_below_drewN | apply below_drew1 | refine below_set ?_ GE195.out | refine below_set ?_ GE200.out) | exact HB.out)))); replace HO204 := Aside0.mk (Kd.R_below (pR HO204.out) hb); replace BK195 := Aside0.mk (blk_below (pb BK195.out) hb); replace BK200 := Aside0.mk (blk_below (pb BK200.out) hb); replace HB := Aside0.mk (below_step (by repeat (first | (with_reducible first | exact HB.out | apply below_alloc | apply pw_below_drewN | apply below_drew1 | refine below_set ?_ GE195.out | refine below_set ?_ GE200.out) | exact HB.out)) hb); (try clear hb); (try clear hb2); (try clear hk); (try clear hi); (try clear ho0)))
    (try simp only [Act.put, List.setIfInBounds_toArray, List.set_cons_zero, List.set_cons_succ])
    go_cut [57] (fun v57 wc => ∃ (kq : Nat) (x57_29 : Bool), v57 = .bool x57_29 ∧ Aside0 (gazetteerlaw3_WeighRows.j1 kq t201 t205 x57_29 ((rd_T44 l0_1 (ji25)).f0) ((rd_T44 l0_1 (ji25)).f1) = some r) ∧ Aside0 (kq ≤ kj4) ∧ Aside0 (Kd.R (Kd.int .i32) 21 wc w.heap.size (fun _ => True) v203 t201) ∧ Aside0 (Kd.R k39 39 wc w.heap.size (fun _ => True) v206 t205) ∧ Aside0 (wc.heap[gb195]? = some (.cells #[(.slice A0_0 l0_0.length c0_0), (.slice (some ad199) l0_1.length c0_1), .int .i64 a0_2, .bool a0_3] 25 (0, 0))) ∧ Aside0 (wc.heap[gb200]? = some (.cells #[(.slice A199_0 ((rd_T44 l0_1 (ji25)).f0).length c199_0), (.slice A199_1 ((rd_T44 l0_1 (ji25)).f1).length c199_1)] 44 (0, 0))) ∧ Aside0 (Below w.heap.size w wc))
    case first =>
     have H := HC30.out
     clear HC30
     by_cases c42 : t202 = 0
     rotate_left
     ·
      rw [if_neg c42] at H
      have c42b0 : (t202 == 0) = false := beq_eq_false_iff_ne.mpr c42
      have c42b1 : (t202 != 0) = true := bne_iff_ne.mpr c42
      (first | rw [c42b0] | (simp only [i64_w, i32_w]; rw [c42b0]) | skip)
      have H' := Aside0.mk H
      clear H
      go_wp2
      go_meet
      case rel => exact ⟨_, (true), (by first | rfl | (simp; done) | (simp [*]; done)), H', ⟨by have := HJ4.out; first | omega | exact Nat.le_refl _⟩, ⟨by (with_reducible repeat (first | apply Kd.R_alloc | apply Kd.R_drewN | apply Kd.R_drew)); exact HO204.out⟩, ⟨by (with_reducible repeat (first | apply Kd.R_alloc | apply Kd.R_drewN | apply Kd.R_drew)); exact HO207.out⟩, ⟨by (with_reducible repeat (first | refine blk_drewN ?_ _ | refine blk_drew ?_ | refine blk_alloc ?_ _)); exact BK195.out⟩, ⟨by (with_reducible repeat (first | refine blk_drewN ?_ _ | refine blk_drew ?_ | refine blk_alloc ?_ _)); exact BK200.out⟩, ⟨by repeat (first | (with_reducible first | exact HB.out | apply below_alloc | apply pw_below_drewN | apply below_drew1 | refine below_set ?_ GE195.out | refine below_set ?_ GE200.out) | exact HB.out)⟩⟩
     rw [if_pos c42] at H
     have c42b0 : (t202 == 0) = true := beq_iff_eq.mpr c42
     have c42b1 : (t202 != 0) = false := bne_eq_false_iff_eq.mpr c42
     clear c42
     (first | rw [c42b0] | (simp only [i64_w, i32_w]; rw [c42b0]) | skip)
     have H' := Aside0.mk H
     clear H
     go_wp2
     go_meet
     case rel => exact ⟨_, ((t208 != 0)), (by first | rfl | (simp; done) | (simp [*]; done)), H', ⟨by have := HJ4.out; first | omega | exact Nat.le_refl _⟩, ⟨by (with_reducible repeat (first | apply Kd.R_alloc | apply Kd.R_drewN | apply Kd.R_drew)); exact HO204.out⟩, ⟨by (with_reducible repeat (first | apply Kd.R_alloc | apply Kd.R_drewN | apply Kd.R_drew)); exact HO207.out⟩, ⟨by (with_reducible repeat (first | refine blk_drewN ?_ _ | refine blk_drew ?_ | refine blk_alloc ?_ _)); exact BK195.out⟩, ⟨by (with_reducible repeat (first | refine blk_drewN ?_ _ | refine blk_drew ?_ | refine blk_alloc ?_ _)); exact BK200.out⟩, ⟨by repeat (first | (with_reducible first | exact HB.out | apply below_alloc | apply pw_below_drewN | apply below_drew1 | refine below_set ?_ GE195.out | refine below_set ?_ GE200.out) | exact HB.out)⟩⟩
    case rest =>
     clear HC30
     try clear c1
     try clear p1
     try clear q1
     try clear hx1
     try clear c2
     try clear p2
     try clear c3
     try clear c4
     try clear p6
     try clear c8
     try clear c9
     try clear c10
     try clear c11
     try clear c19
     try clear p19
     try clear q19
     try clear hx19
     try clear c23
     try clear c24
     try clear c24b0
     try clear c24b1
     try clear c24b2
     try clear c26
     try clear c26b0
     try clear c27
     try clear c27b0
     try clear c35
     try clear c42
     try clear c42b0
     try clear c42b1
     try clear hcz12_0
     try clear hcz12_1
     try clear hcz12_2
     try clear hcz12_3
     try clear hcz14_0
     try clear hcz14_1
     try clear hcz14_2
     try clear hcz14_3
     try clear hcz16_0
     try clear hcz16_1
     try clear hcz16_2
     try clear hcz16_3
     try clear hcz17_0
     try clear hcz17_1
     try clear hcz17_2
     try clear hcz17_3
     try clear hcz19_0
     try clear hcz19_1
     try clear hcz19_2
     try clear hcz19_3
     try clear hcz21_0
     try clear hcz21_1
     try clear hcz21_2
     try clear hcz21_3
     try clear hcz36_0
     try clear hcz36_1
     try clear hcz36_2
     try clear hcz36_3
     try clear hcz37_0
     try clear hcz37_1
     try clear hcz39_0
     try clear hcz39_1
     try clear hcz39_2
     try clear hcz39_3
     try clear hcz40_0
     try clear hcz40_1
     try clear hfz12_0
     try clear hfz12_1
     try clear hfz12_2
     try clear hfz12_3
     try clear hfz14_0
     try clear hfz14_1
     try clear hfz14_2
     try clear hfz14_3
     try clear hfz16_0
     try clear hfz16_1
     try clear hfz16_2
     try clear hfz16_3
     try clear hfz17_0
     try clear hfz17_1
     try clear hfz17_2
     try clear hfz17_3
     try clear hfz19_0
     try clear hfz19_1
     try clear hfz19_2
     try clear hfz19_3
     try clear hfz21_0
     try clear hfz21_1
     try clear hfz21_2
     try clear hfz21_3
     try clear hfz36_0
     try clear hfz36_1
     try clear hfz36_2
     try clear hfz36_3
     try clear hfz37_0
     try clear hfz37_1
     try clear hfz39_0
     try clear hfz39_1
     try clear hfz39_2
     try clear hfz39_3
     try clear hfz40_0
     try clear hfz40_1
     try clear hx199_0
     try clear hx199_1
     try clear p199
     try clear p2
     try clear q199
     obtain ⟨kq, x57_29, rfl, HA, HJ29, HO_6, HO_8, BK195, BK200, HB⟩ := hcut
     cases kq with
     | zero => exact absurd HA.out (by simp [gazetteerlaw3_WeighRows.j1])
     | succ kj29 =>
      have H := HA.out
      clear HA
      simp only [gazetteerlaw3_WeighRows.j1] at H
      by_cases c43 : x57_29 = true
      · subst c43
        have H1 : (some false) = some r := by rw [if_pos rfl] at H; exact H
        clear H
        have H := H1
        clear H1
        exact absurd H (by rw [HLT.out]; repeat' first | (with_reducible exact dead_none) | (with_reducible exact dead_false) | (with_reducible refine dead_ite ?_ ?_) | (with_reducible refine dead_bind (fun _ => ?_)) | (refine dead_ite ?_ ?_) | (refine dead_bind (fun _ => ?_)) | (simp; done))
      replace c43 := Bool.eq_false_iff.mpr c43
      subst c43
      have H1 : (gazetteerlaw3_WeighRows.l0 kj29 t201 t205 0 ((rd_T44 l0_1 (ji25)).f0) ((rd_T44 l0_1 (ji25)).f1)) = some r := by rw [if_neg (show ¬ (false = true) by decide)] at H; exact H
      clear H
      have H := H1
      clear H1
      have H' := Aside0.mk H
      clear H
      go_wp2
      go_loopg [10] kj29 (fun kq v10 w' => ∃ (x10_3 : Int), v10 = .int .i64 x10_3 ∧ Aside0 (gazetteerlaw3_WeighRows.l0 kq t201 t205 x10_3 ((rd_T44 l0_1 (ji25)).f0) ((rd_T44 l0_1 (ji25)).f1) = some r) ∧ Aside0 (kq ≤ kj29) ∧ Aside0 (Kd.R (Kd.int .i32) 21 w' w.heap.size (fun _ => True) v203 t201) ∧ Aside0 (Kd.R k39 39 w' w.heap.size (fun _ => True) v206 t205) ∧ Aside0 (w'.heap[gb195]? = some (.cells #[(.slice A0_0 l0_0.length c0_0), (.slice (some ad199) l0_1.length c0_1), .int .i64 a0_2, .bool a0_3] 25 (0, 0))) ∧ Aside0 (w'.heap[gb200]? = some (.cells #[(.slice A199_0 ((rd_T44 l0_1 (ji25)).f0).length c199_0), (.slice A199_1 ((rd_T44 l0_1 (ji25)).f1).length c199_1)] 44 (0, 0))) ∧ Aside0 (Below w.heap.size w w'))
      case atStart => exact ⟨(0), (by first | rfl | (simp; done) | (simp [*]; done)), H', ⟨Nat.le_refl _⟩, ⟨by (with_reducible repeat (first | apply Kd.R_alloc | apply Kd.R_drewN | apply Kd.R_drew)); exact HO_6.out⟩, ⟨by (with_reducible repeat (first | apply Kd.R_alloc | apply Kd.R_drewN | apply Kd.R_drew)); exact HO_8.out⟩, ⟨by (with_reducible repeat (first | refine blk_drewN ?_ _ | refine blk_drew ?_ | refine blk_alloc ?_ _)); exact BK195.out⟩, ⟨by (with_reducible repeat (first | refine blk_drewN ?_ _ | refine blk_drew ?_ | refine blk_alloc ?_ _)); exact BK200.out⟩, ⟨by repeat (first | (with_reducible first | exact HB.out | apply below_alloc | apply pw_below_drewN | apply below_drew1 | refine below_set ?_ GE195.out | refine below_set ?_ GE200.out) | exact HB.out)⟩⟩
      case round =>
       clear H'
       try clear c1
       try clear p1
       try clear q1
       try clear hx1
       try clear c2
       try clear p2
       try clear c3
       try clear c4
       try clear p6
       try clear c8
       try clear c9
       try clear c10
       try clear c11
       try clear c19
       try clear p19
       try clear q19
       try clear hx19
       try clear c23
       try clear c24
       try clear c24b0
       try clear c24b1
       try clear c24b2
       try clear c26
       try clear c26b0
       try clear c27
       try clear c27b0
       try clear c35
       try clear c42
       try clear c42b0
       try clear c42b1
       try clear c43
       try clear hcz12_0
       try clear hcz12_1
       try clear hcz12_2
       try clear hcz12_3
       try clear hcz14_0
       try clear hcz14_1
       try clear hcz14_2
       try clear hcz14_3
       try clear hcz16_0
       try clear hcz16_1
       try clear hcz16_2
       try clear hcz16_3
       try clear hcz17_0
       try clear hcz17_1
       try clear hcz17_2
       try clear hcz17_3
       try clear hcz19_0
       try clear hcz19_1
       try clear hcz19_2
       try clear hcz19_3
       try clear hcz21_0
       try clear hcz21_1
       try clear hcz21_2
       try clear hcz21_3
       try clear hcz36_0
       try clear hcz36_1
       try clear hcz36_2
       try clear hcz36_3
       try clear hcz37_0
       try clear hcz37_1
       try clear hcz39_0
       try clear hcz39_1
       try clear hcz39_2
       try clear hcz39_3
       try clear hcz40_0
       try clear hcz40_1
       try clear hfz12_0
       try clear hfz12_1
       try clear hfz12_2
       try clear hfz12_3
       try clear hfz14_0
       try clear hfz14_1
       try clear hfz14_2
       try clear hfz14_3
       try clear hfz16_0
       try clear hfz16_1
       try clear hfz16_2
       try clear hfz16_3
       try clear hfz17_0
       try clear hfz17_1
       try clear hfz17_2
       try clear hfz17_3
       try clear hfz19_0
       try clear hfz19_1
       try clear hfz19_2
       try clear hfz19_3
       try clear hfz21_0
       try clear hfz21_1
       try clear hfz21_2
       try clear hfz21_3
       try clear hfz36_0
       try clear hfz36_1
       try clear hfz36_2
       try clear hfz36_3
       try clear hfz37_0
       try clear hfz37_1
       try clear hfz39_0
       try clear hfz39_1
       try clear hfz39_2
       try clear hfz39_3
       try clear hfz40_0
       try clear hfz40_1
       try clear hx199_0
       try clear hx199_1
       try clear p1
       try clear p19
       try clear p199
       try clear p2
       try clear p6
       try clear q1
       try clear q19
       try clear q199
       obtain ⟨x10_3, rfl, HA, HK3, HO_6, HO_8, BK195, BK200, HB⟩ := hrel
       cases gk with
       | zero => exact absurd HA.out (by simp [gazetteerlaw3_WeighRows.l0])
       | succ k3 =>
        have H := HA.out
        clear HA
        simp only [gazetteerlaw3_WeighRows.l0] at H
        by_cases c44 : x10_3 < (t201.length : Int)
        rotate_left
        ·
         rw [if_neg c44] at H
         have c44b0 : decide (x10_3 < (t201.length : Int)) = false := decide_eq_false c44
         clear c44
         replace H := Option.bind_eq_some_iff.mp H
         obtain ⟨t211, A520, H⟩ := H
         replace H : (some t211) = some r := H
         have A52 := Aside0.mk A520
         clear A520
         obtain rfl := Option.some.inj H
         obtain ⟨Ao53, co53, eo53⟩ := Kd.R_slice HO_6.out
         subst eo53
         have hnb54 := NB200_195.out
         have hnc54 := NB195_200.out
         have hcz55_0 : wr.cell? ⟨gb200, 0, none⟩ = some (.slice A199_0 ((rd_T44 l0_1 (ji25)).f0).length c199_0) := blk_cell BK200.out 0
         have hcz55_1 : wr.cell? ⟨gb200, 1, none⟩ = some (.slice A199_1 ((rd_T44 l0_1 (ji25)).f1).length c199_1) := blk_cell BK200.out 1
         have hfz55_0 := blk_frozen BK200.out 0
         have hfz55_1 := blk_frozen BK200.out 1
         obtain ⟨Ao56, co56, eo56⟩ := Kd.R_slice HO_8.out
         subst eo56
         go_wp2_with (first | ((with_reducible refine gate_callee (f := 13) rfl ?_); refine goesL_ (some 77) rfl rfl Try.func13 (by kernel_rfl) rfl #[.slice Ao56 t205.length co56, .slice A199_1 ((rd_T44 l0_1 (ji25)).f1).length c199_1] rfl (by (try simp only [List.map_toArray, List.map_cons, List.map_nil]); first | done | rfl | (simp only [List.length_drop, List.length_take]; done) | (simp only [List.length_drop, List.length_take]; rfl)) ?_; (with_reducible refine (gazetteerlaw3_Same.calls k3 _ _ t205 _ _ ((rd_T44 l0_1 (ji25)).f1) t211 _ ?side1 ?side2 ?side3 ?side4 A52.out).mono ?_); (case side1 => repeat (first | exact (Kd.R_reads' HO_8.out).2.2 | (with_reducible refine Kd.C_alloc ?_ _) | (with_reducible refine Kd.C_drewN ?_ _) | (with_reducible refine Kd.C_drew ?_))); (case side2 => exact (Kd.R_reads' HO_8.out).2.1); (case side3 => repeat (first | exact (Kd.C_below HR199_1.out HB.out) | (with_reducible refine Kd.C_alloc ?_ _) | (with_reducible refine Kd.C_drewN ?_ _) | (with_reducible refine Kd.C_drew ?_))); (case side4 => exact HC199_1.out); rintro e w' ⟨rfl, ⟨nd, rfl⟩⟩; refine ⟨_, rfl, ?_⟩))
         go_ret
         exact ⟨by first | rfl | (simp [errW_none, errW_some] <;> rfl) | (simp only [← hji25]; first | rfl | (simp [errW_none, errW_some] <;> rfl)) | (simp [*, errW_none, errW_some] <;> rfl), by repeat (first | (with_reducible first | exact HB.out | apply below_alloc | apply pw_below_drewN | apply below_drew1 | refine below_set ?_ GE195.out | refine below_set ?_ GE200.out) | exact HB.out)⟩
        rw [if_pos c44] at H
        have c44b0 : decide (x10_3 < (t201.length : Int)) = true := decide_eq_true c44
        clear c44
        by_cases c45 : 0 ≤ x10_3
        rotate_left
        · rw [if_neg c45] at H
          exact absurd H (by simp)
        rw [if_pos c45] at H
        have c45b0 : decide (0 ≤ x10_3) = true := decide_eq_true c45
        clear c45
        by_cases c46 : x10_3 < (((rd_T44 l0_1 (ji25)).f0).length : Int)
        rotate_left
        · rw [if_neg c46] at H
          exact absurd H (by simp)
        rw [if_pos c46] at H
        have c46b0 : decide (x10_3 < (((rd_T44 l0_1 (ji25)).f0).length : Int)) = true := decide_eq_true c46
        clear c46
        by_cases c47 : (rd t201 x10_3) = (rd ((rd_T44 l0_1 (ji25)).f0) x10_3)
        rotate_left
        ·
         rw [if_neg c47] at H
         have c47b0 : ((rd t201 x10_3) == (rd ((rd_T44 l0_1 (ji25)).f0) x10_3)) = false := beq_eq_false_iff_ne.mpr c47
         have c47b1 : ((rd t201 x10_3) != (rd ((rd_T44 l0_1 (ji25)).f0) x10_3)) = true := bne_iff_ne.mpr c47
         obtain rfl := Option.some.inj H
         obtain ⟨Ao50, co50, eo50⟩ := Kd.R_slice HO_6.out
         subst eo50
         try go_wp2
         replace HO_6 := Aside0.mk (Kd.R_drew HO_6.out)
         replace HO_8 := Aside0.mk (Kd.R_drew HO_8.out)
         replace BK195 := Aside0.mk (blk_drew BK195.out)
         replace BK200 := Aside0.mk (blk_drew BK200.out)
         replace HB := Aside0.mk (below_drew1 HB.out)
         have p209 : 0 ≤ (x10_3 : Int) := of_decide_eq_true (by first | (with_reducible assumption) | assumption)
         have q209 : x10_3 < (t201.length : Int) := of_decide_eq_true (by first | (with_reducible assumption) | assumption)
         obtain ⟨ad209, e209, hx209_0⟩ := Kd.at_int (Kd.R_reads' HO_6.out).2.2 x10_3 p209 q209
         cases e209
         replace p209 := eq_true p209
         replace q209 := eq_true q209
         have p210 : 0 ≤ (x10_3 : Int) := of_decide_eq_true (by first | (with_reducible assumption) | assumption)
         have q210 : x10_3 < (((rd_T44 l0_1 (ji25)).f0).length : Int) := of_decide_eq_true (by first | (with_reducible assumption) | assumption)
         obtain ⟨ad210, e210, hx210_0⟩ := Kd.at_int HR199_0.out x10_3 p210 q210
         have hw210_0 := hx210_0
         cases e210
         replace hx210_0 := (HB.out.cell (World.block_lt_of_cell? w _ hx210_0)).trans hx210_0
         replace p210 := eq_true p210
         replace q210 := eq_true q210
         refine start_ (n := 10) (S := fun w' => w'.cell? ⟨gb200, 0, none⟩ = some (.slice (some ad210) ((rd_T44 l0_1 (ji25)).f0).length c199_0) ∧ w'.cell? ⟨gb200, 1, none⟩ = some (.slice A199_1 ((rd_T44 l0_1 (ji25)).f1).length c199_1) ∧ w'.cell? (ad209.add (x10_3).toNat) = some (.int .i32 (rd t201 x10_3)) ∧ w'.cell? (ad210.add (x10_3).toNat) = some (.int .i32 (rd ((rd_T44 l0_1 (ji25)).f0) x10_3))) (ds := []) (fl 0 10) (by kernel_rfl) rfl rfl ⟨blk_cell BK200.out 0, blk_cell BK200.out 1, hx209_0, ((HB.out.cell (World.block_lt_of_cell? w _ hw210_0)).trans hw210_0)⟩ (fun hHeld => ?_); refine with_tabW gazetteerlaw3_WeighRows.tab13 gazetteerlaw3_WeighRows.bits13 (fun HT_ HW_ => ?_)
         generalize wr.drew = w51 at HO_6 HO_8 BK195 BK200 HB hx209_0 hx210_0 hHeld ⊢
         refine pure_ (i := 0) (N := some 64) (v := ?_) (a' := ?_) (fl 1 9) rfl rfl (any_of HT_.out (by kernel_rfl)) (fun _ _ _ h => h) (Or.inl ⟨by rfl, ?_⟩) ?_ ?_
         rotate_left
         · intro w'
           go_simp
           with_reducible rfl
         rotate_left
         · simp only [Act.put, List.setIfInBounds_toArray, List.set_cons_zero, List.set_cons_succ, i64_w, i32_w]; rfl
         refine pure_ (i := 1) (N := some 65) (v := ?_) (a' := ?_) (fl 2 8) rfl rfl (any_of HT_.out (by kernel_rfl)) (fun _ _ _ h => h) (Or.inl ⟨by rfl, ?_⟩) ?_ ?_
         rotate_left
         · intro w'
           go_simp
           with_reducible rfl
         rotate_left
         · simp only [Act.put, List.setIfInBounds_toArray, List.set_cons_zero, List.set_cons_succ, i64_w, i32_w]; rfl
         refine pure_ (i := 2) (N := some 66) (v := ?_) (a' := ?_) (fl 3 7) rfl rfl (any_of HT_.out (by kernel_rfl)) (fun _ _ _ h => h) (Or.inl ⟨by rfl, ?_⟩) ?_ ?_
         rotate_left
         · intro w'
           go_simp
           with_reducible rfl
         rotate_left
         · simp only [Act.put, List.setIfInBounds_toArray, List.set_cons_zero, List.set_cons_succ, i64_w, i32_w]; rfl
         refine pure_ (i := 4) (N := some 68) (v := ?_) (a' := ?_) #[true, true, true, false, true, false, false, false, false, false] rfl rfl (any_of HT_.out (by kernel_rfl)) (fun _ _ _ h => h) (Or.inl ⟨by rfl, ?_⟩) ?_ ?_
         rotate_left
         · intro w'
           go_simp
           with_reducible rfl
         rotate_left
         · simp only [Act.put, List.setIfInBounds_toArray, List.set_cons_zero, List.set_cons_succ, i64_w, i32_w]; rfl
         refine pure_ (i := 6) (N := some 70) (v := ?_) (a' := ?_) #[true, true, true, false, true, false, true, false, false, false] rfl rfl (any_of HT_.out (by kernel_rfl)) (fun _ _ _ h => h) (Or.inl ⟨by rfl, ?_⟩) ?_ ?_
         rotate_left
         · intro w'
           go_simp
           with_reducible rfl
         rotate_left
         · simp only [Act.put, List.setIfInBounds_toArray, List.set_cons_zero, List.set_cons_succ, i64_w, i32_w]; rfl
         refine take_ (i := 3) (N := some 67) (v := ?_) (a' := ?_) #[true, true, true, true, true, false, true, false, false, false] rfl rfl (take_ofW HT_.out HW_.out (by kernel_rfl)) (fun _ _ _ h => h) (Or.inl ⟨by rfl, ?_⟩) hHeld ?_ ?_
         rotate_left
         · rintro w' ⟨s0, s1, s2, s3⟩; go_simp; with_reducible rfl
         rotate_left
         · simp only [Act.put, List.setIfInBounds_toArray, List.set_cons_zero, List.set_cons_succ, i64_w, i32_w]; rfl
         refine take_ (i := 5) (N := some 69) (v := ?_) (a' := ?_) (fl 7 3) rfl rfl (take_ofW HT_.out HW_.out (by kernel_rfl)) (fun _ _ _ h => h) (Or.inl ⟨by rfl, ?_⟩) hHeld ?_ ?_
         rotate_left
         · rintro w' ⟨s0, s1, s2, s3⟩; go_simp; with_reducible rfl
         rotate_left
         · simp only [Act.put, List.setIfInBounds_toArray, List.set_cons_zero, List.set_cons_succ, i64_w, i32_w]; rfl
         refine pure_ (i := 7) (N := some 71) (v := ?_) (a' := ?_) (fl 8 2) rfl rfl (any_of HT_.out (by kernel_rfl)) (fun _ _ _ h => h) (Or.inl ⟨by rfl, ?_⟩) ?_ ?_
         rotate_left
         · intro w'
           go_simp
           with_reducible rfl
         rotate_left
         · simp only [Act.put, List.setIfInBounds_toArray, List.set_cons_zero, List.set_cons_succ, i64_w, i32_w]; rfl
         refine take_ (i := 8) (N := some 72) (v := ?_) (a' := ?_) (fl 9 1) rfl rfl (take_ofW HT_.out HW_.out (by kernel_rfl)) (fun _ _ _ h => h) (Or.inl ⟨by rfl, ?_⟩) hHeld ?_ ?_
         rotate_left
         · rintro w' ⟨s0, s1, s2, s3⟩; go_simp; with_reducible rfl
         rotate_left
         · simp only [Act.put, List.setIfInBounds_toArray, List.set_cons_zero, List.set_cons_succ, i64_w, i32_w]; rfl
         refine pure_ (i := 9) (N := some 73) (v := ?_) (a' := ?_) (fl 10 0) rfl rfl (any_of HT_.out (by kernel_rfl)) (fun _ _ _ h => h) (Or.inl ⟨by rfl, ?_⟩) ?_ ?_
         rotate_left
         · intro w'
           go_simp
           with_reducible rfl
         rotate_left
         · simp only [Act.put, List.setIfInBounds_toArray, List.set_cons_zero, List.set_cons_succ, i64_w, i32_w]; rfl
         refine done_ (done_of HT_.out (by kernel_rfl)) ?_
         try go_wp2
         go_ret
         exact ⟨by first | rfl | (simp [errW_none, errW_some] <;> rfl) | (simp only [← hji25]; first | rfl | (simp [errW_none, errW_some] <;> rfl)) | (simp [*, errW_none, errW_some] <;> rfl), by repeat (first | (with_reducible first | exact HB.out | apply below_alloc | apply pw_below_drewN | apply below_drew1 | refine below_set ?_ GE195.out | refine below_set ?_ GE200.out) | exact HB.out)⟩
        rw [if_pos c47] at H
        have c47b0 : ((rd t201 x10_3) == (rd ((rd_T44 l0_1 (ji25)).f0) x10_3)) = true := beq_iff_eq.mpr c47
        have c47b1 : ((rd t201 x10_3) != (rd ((rd_T44 l0_1 (ji25)).f0) x10_3)) = false := bne_eq_false_iff_eq.mpr c47
        clear c47
        have H' := Aside0.mk H
        clear H
        obtain ⟨Ao48, co48, eo48⟩ := Kd.R_slice HO_6.out
        subst eo48
        try go_wp2
        replace HO_6 := Aside0.mk (Kd.R_drew HO_6.out)
        replace HO_8 := Aside0.mk (Kd.R_drew HO_8.out)
        replace BK195 := Aside0.mk (blk_drew BK195.out)
        replace BK200 := Aside0.mk (blk_drew BK200.out)
        replace HB := Aside0.mk (below_drew1 HB.out)
        have p209 : 0 ≤ (x10_3 : Int) := of_decide_eq_true (by first | (with_reducible assumption) | assumption)
        have q209 : x10_3 < (t201.length : Int) := of_decide_eq_true (by first | (with_reducible assumption) | assumption)
        obtain ⟨ad209, e209, hx209_0⟩ := Kd.at_int (Kd.R_reads' HO_6.out).2.2 x10_3 p209 q209
        cases e209
        replace p209 := eq_true p209
        replace q209 := eq_true q209
        have p210 : 0 ≤ (x10_3 : Int) := of_decide_eq_true (by first | (with_reducible assumption) | assumption)
        have q210 : x10_3 < (((rd_T44 l0_1 (ji25)).f0).length : Int) := of_decide_eq_true (by first | (with_reducible assumption) | assumption)
        obtain ⟨ad210, e210, hx210_0⟩ := Kd.at_int HR199_0.out x10_3 p210 q210
        have hw210_0 := hx210_0
        cases e210
        replace hx210_0 := (HB.out.cell (World.block_lt_of_cell? w _ hx210_0)).trans hx210_0
        replace p210 := eq_true p210
        replace q210 := eq_true q210
        refine start_ (n := 10) (S := fun w' => w'.cell? ⟨gb200, 0, none⟩ = some (.slice (some ad210) ((rd_T44 l0_1 (ji25)).f0).length c199_0) ∧ w'.cell? ⟨gb200, 1, none⟩ = some (.slice A199_1 ((rd_T44 l0_1 (ji25)).f1).length c199_1) ∧ w'.cell? (ad209.add (x10_3).toNat) = some (.int .i32 (rd t201 x10_3)) ∧ w'.cell? (ad210.add (x10_3).toNat) = some (.int .i32 (rd ((rd_T44 l0_1 (ji25)).f0) x10_3))) (ds := []) (fl 0 10) (by kernel_rfl) rfl rfl ⟨blk_cell BK200.out 0, blk_cell BK200.out 1, hx209_0, ((HB.out.cell (World.block_lt_of_cell? w _ hw210_0)).trans hw210_0)⟩ (fun hHeld => ?_); refine with_tabW gazetteerlaw3_WeighRows.tab13 gazetteerlaw3_WeighRows.bits13 (fun HT_ HW_ => ?_)
        generalize wr.drew = w49 at HO_6 HO_8 BK195 BK200 HB hx209_0 hx210_0 hHeld ⊢
        refine pure_ (i := 0) (N := some 64) (v := ?_) (a' := ?_) (fl 1 9) rfl rfl (any_of HT_.out (by kernel_rfl)) (fun _ _ _ h => h) (Or.inl ⟨by rfl, ?_⟩) ?_ ?_
        rotate_left
        · intro w'
          go_simp
          with_reducible rfl
        rotate_left
        · simp only [Act.put, List.setIfInBounds_toArray, List.set_cons_zero, List.set_cons_succ, i64_w, i32_w]; rfl
        refine pure_ (i := 1) (N := some 65) (v := ?_) (a' := ?_) (fl 2 8) rfl rfl (any_of HT_.out (by kernel_rfl)) (fun _ _ _ h => h) (Or.inl ⟨by rfl, ?_⟩) ?_ ?_
        rotate_left
        · intro w'
          go_simp
          with_reducible rfl
        rotate_left
        · simp only [Act.put, List.setIfInBounds_toArray, List.set_cons_zero, List.set_cons_succ, i64_w, i32_w]; rfl
        refine pure_ (i := 2) (N := some 66) (v := ?_) (a' := ?_) (fl 3 7) rfl rfl (any_of HT_.out (by kernel_rfl)) (fun _ _ _ h => h) (Or.inl ⟨by rfl, ?_⟩) ?_ ?_
        rotate_left
        · intro w'
          go_simp
          with_reducible rfl
        rotate_left
        · simp only [Act.put, List.setIfInBounds_toArray, List.set_cons_zero, List.set_cons_succ, i64_w, i32_w]; rfl
        refine pure_ (i := 4) (N := some 68) (v := ?_) (a' := ?_) #[true, true, true, false, true, false, false, false, false, false] rfl rfl (any_of HT_.out (by kernel_rfl)) (fun _ _ _ h => h) (Or.inl ⟨by rfl, ?_⟩) ?_ ?_
        rotate_left
        · intro w'
          go_simp
          with_reducible rfl
        rotate_left
        · simp only [Act.put, List.setIfInBounds_toArray, List.set_cons_zero, List.set_cons_succ, i64_w, i32_w]; rfl
        refine pure_ (i := 6) (N := some 70) (v := ?_) (a' := ?_) #[true, true, true, false, true, false, true, false, false, false] rfl rfl (any_of HT_.out (by kernel_rfl)) (fun _ _ _ h => h) (Or.inl ⟨by rfl, ?_⟩) ?_ ?_
        rotate_left
        · intro w'
          go_simp
          with_reducible rfl
        rotate_left
        · simp only [Act.put, List.setIfInBounds_toArray, List.set_cons_zero, List.set_cons_succ, i64_w, i32_w]; rfl
        refine take_ (i := 3) (N := some 67) (v := ?_) (a' := ?_) #[true, true, true, true, true, false, true, false, false, false] rfl rfl (take_ofW HT_.out HW_.out (by kernel_rfl)) (fun _ _ _ h => h) (Or.inl ⟨by rfl, ?_⟩) hHeld ?_ ?_
        rotate_left
        · rintro w' ⟨s0, s1, s2, s3⟩; go_simp; with_reducible rfl
        rotate_left
        · simp only [Act.put, List.setIfInBounds_toArray, List.set_cons_zero, List.set_cons_succ, i64_w, i32_w]; rfl
        refine take_ (i := 5) (N := some 69) (v := ?_) (a' := ?_) (fl 7 3) rfl rfl (take_ofW HT_.out HW_.out (by kernel_rfl)) (fun _ _ _ h => h) (Or.inl ⟨by rfl, ?_⟩) hHeld ?_ ?_
        rotate_left
        · rintro w' ⟨s0, s1, s2, s3⟩; go_simp; with_reducible rfl
        rotate_left
        · simp only [Act.put, List.setIfInBounds_toArray, List.set_cons_zero, List.set_cons_succ, i64_w, i32_w]; rfl
        refine pure_ (i := 7) (N := some 71) (v := ?_) (a' := ?_) (fl 8 2) rfl rfl (any_of HT_.out (by kernel_rfl)) (fun _ _ _ h => h) (Or.inl ⟨by rfl, ?_⟩) ?_ ?_
        rotate_left
        · intro w'
          go_simp
          with_reducible rfl
        rotate_left
        · simp only [Act.put, List.setIfInBounds_toArray, List.set_cons_zero, List.set_cons_succ, i64_w, i32_w]; rfl
        refine take_ (i := 8) (N := some 72) (v := ?_) (a' := ?_) (fl 9 1) rfl rfl (take_ofW HT_.out HW_.out (by kernel_rfl)) (fun _ _ _ h => h) (Or.inl ⟨by rfl, ?_⟩) hHeld ?_ ?_
        rotate_left
        · rintro w' ⟨s0, s1, s2, s3⟩; go_simp; with_reducible rfl
        rotate_left
        · simp only [Act.put, List.setIfInBounds_toArray, List.set_cons_zero, List.set_cons_succ, i64_w, i32_w]; rfl
        refine pure_ (i := 9) (N := some 73) (v := ?_) (a' := ?_) (fl 10 0) rfl rfl (any_of HT_.out (by kernel_rfl)) (fun _ _ _ h => h) (Or.inl ⟨by rfl, ?_⟩) ?_ ?_
        rotate_left
        · intro w'
          go_simp
          with_reducible rfl
        rotate_left
        · simp only [Act.put, List.setIfInBounds_toArray, List.set_cons_zero, List.set_cons_succ, i64_w, i32_w]; rfl
        refine done_ (done_of HT_.out (by kernel_rfl)) ?_
        try go_wp2
        go_roundg k3
        case measure => have := HJ4.out; have := HJ29.out; have := HK3.out; omega
        case rel => exact ⟨(wrap64 (x10_3 + 1)), (by first | rfl | (simp; done) | (simp [*]; done)), H', ⟨by have := HJ4.out; have := HJ29.out; have := HK3.out; omega⟩, ⟨by (with_reducible repeat (first | apply Kd.R_alloc | apply Kd.R_drewN | apply Kd.R_drew)); exact HO_6.out⟩, ⟨by (with_reducible repeat (first | apply Kd.R_alloc | apply Kd.R_drewN | apply Kd.R_drew)); exact HO_8.out⟩, ⟨by (with_reducible repeat (first | refine blk_drewN ?_ _ | refine blk_drew ?_ | refine blk_alloc ?_ _)); exact BK195.out⟩, ⟨by (with_reducible repeat (first | refine blk_drewN ?_ _ | refine blk_drew ?_ | refine blk_alloc ?_ _)); exact BK200.out⟩, ⟨by repeat (first | (with_reducible first | exact HB.out | apply below_alloc | apply pw_below_drewN | apply below_drew1 | refine below_set ?_ GE195.out | refine below_set ?_ GE200.out) | exact HB.out)⟩⟩
end Go.Proofs.Ytfagobhhhljajaa.PWeighRows

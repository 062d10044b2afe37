-- printed by a program of this session (wip/tools), a turned form of the kit's print
import Derived.Test.YtbajekndbamcmaaWPeel
import Derived.Test.YtbajekndbamcmaaPAtlasBackx0
import Derived.Test.YtbajekndbamcmaaPAtlasBackx1
namespace Go.Proofs.Ytbajekndbamcmaa.PAtlasBack
open Go.RowKit Go.Proofs.YtbajekndbamcmaaW.PrintWords Go.Proofs.YtbajekndbamcmaaW.PrintLast Go.Proofs.YtbajekndbamcmaaW.PrintMore
attribute [local go_sem] max2_int min2_int max_two min_two max_three min_three max_four min_four max2_str min2_str str_geq str_leq str_gtr   -- for this text's walks alone
set_option linter.unusedVariables false
set_option linter.unusedSimpArgs false

/-! ### atlas_goes: function 65 -/
def atlas_goes.f (k : Nat) (a0_0 : Int) (l0_1 : List (S30)) (a1 : Int) : Option (Bool) := (atlas_May.f k a0_0 l0_1 a1).bind fun t124 => (if t124 = true then (some (decide (a0_0 < 268435455))) else (some false))
theorem atlas_goes.mono : ∀ a0 a1 a2 k, LeO (atlas_goes.f k a0 a1 a2) (atlas_goes.f (k + 1) a0 a1 a2) := by
  intro a0 a1 a2 k
  unfold atlas_goes.f
  repeat' first
      | (with_reducible exact atlas_May.mono _ _ _ _)
      | (with_reducible exact LeO.refl _)
      | (with_reducible exact LeO.none _)
      | (with_reducible refine LeO.ite ?_ ?_)
      | (with_reducible refine LeO.bind ?_ (fun _ => ?_))
      | exact atlas_May.mono _ _ _ _
      | exact LeO.none _
      | refine LeO.ite ?_ ?_
      | refine LeO.bind ?_ (fun _ => ?_)
set_option maxHeartbeats 8000000 in
set_option maxRecDepth 100000 in
theorem atlas_goes.calls (k : Nat) (a0_0 : Int) (A0_1 : Option Addr) (c0_1 : Nat) (l0_1 : List (S30)) (a1 : Int) (r : Bool) (w : World) (hr0_1 : Kd.C k30 w A0_1 l0_1.length l0_1) (hc0_1 : l0_1.length ≤ c0_1) (h : atlas_goes.f k a0_0 l0_1 a1 = some r) :
    Calls Try.prog 65 #[.agg #[.int .i64 a0_0, .slice A0_1 l0_1.length c0_1], .int .i64 a1] w fun e w' => e = .returned (.bool r) ∧ Below w.heap.size w w' := by
  have hu35 := Try.underlying35
  have HR0_1 := Aside0.mk hr0_1
  have HC0_1 := Aside0.mk hc0_1
  clear hr0_1 hc0_1
  have HB := Aside0.mk (Below.refl w.heap.size w)
  have H : ((atlas_May.f k a0_0 l0_1 a1).bind fun t124 => (if t124 = true then (some (decide (a0_0 < 268435455))) else (some false))) = some r := h
  clear h
  replace H := Option.bind_eq_some_iff.mp H
  obtain ⟨t124, A30, H⟩ := H
  replace H : (if t124 = true then (some (decide (a0_0 < 268435455))) else (some false)) = some r := H
  have A3 := Aside0.mk A30
  clear A30
  by_cases c4 : t124 = true
  rotate_left
  ·
   replace c4 := Bool.eq_false_iff.mpr c4
   subst c4
   have H1 : (some false) = some r := by rw [if_neg (show ¬ (false = true) by decide)] at H; exact H
   clear H
   have H := H1
   clear H1
   obtain rfl := Option.some.inj H
   go_enter Try.func65, Try.ntmps65
   go_wp2_with (first | ((with_reducible refine gate_dst (N := 2) rfl ?_); refine box_event ?hg (N := 2) ?hd (cs := #[.int .i64 a0_0, .slice A0_1 l0_1.length c0_1]) (t := 35) ?hr ?_; (case hd => rfl); (case hg => rfl); (case hr => first | (go_simp; done) | (go_simp; rfl)); intro gb123 hg w9 hbox hb; have BK123 := Aside0.mk (hbox); have GW123 := geL hg HB.out; have GE123 := geL hg HB.out; replace HB := Aside0.mk (below_step (pB HB.out) hb); clear hb hbox hg; have hcz10_0 : w9.cell? ⟨gb123, 0, none⟩ = some (.int .i64 a0_0) := blk_cell BK123.out 0; have hcz10_1 : w9.cell? ⟨gb123, 1, none⟩ = some (.slice A0_1 l0_1.length c0_1) := blk_cell BK123.out 1; have hfz10_0 := blk_frozen BK123.out 0; have hfz10_1 := blk_frozen BK123.out 1) | ((with_reducible refine gate_callee (f := 28) rfl ?_); refine goesL_ (some 7) rfl rfl Try.func28 (by kernel_rfl) rfl #[.agg #[.int .i64 a0_0, .slice A0_1 l0_1.length c0_1], .int .i64 a1] rfl (by (try simp only [List.map_toArray, List.map_cons, List.map_nil]); first | done | rfl | (simp only [List.length_drop, List.length_take]; done) | (simp only [List.length_drop, List.length_take]; rfl)) ?_; (with_reducible refine (atlas_May.calls k a0_0 _ _ l0_1 a1 false _ ?side1 ?side2 A3.out).mono ?_); (case side1 => repeat (first | exact (Kd.C_below HR0_1.out HB.out) | (with_reducible refine Kd.C_alloc ?_ _) | (with_reducible refine Kd.C_drewN ?_ _) | (with_reducible refine Kd.C_drew ?_))); (case side2 => exact HC0_1.out); rintro e w11 ⟨rfl, hb⟩; refine ⟨_, rfl, ?_⟩; replace BK123 := Aside0.mk (blk_below BK123.out hb); replace HB := Aside0.mk (below_step (pB HB.out) hb); (try clear hb); (try clear hb2); (try clear hk); (try clear hi)))
   go_ret
   exact ⟨by first | rfl | (simp [errW_none, errW_some] <;> rfl) | (simp [*, errW_none, errW_some] <;> rfl), by repeat (first | (with_reducible first | exact HB.out | apply below_alloc | apply pw_below_drewN | apply below_drew1 | refine below_set ?_ GE123.out) | exact HB.out)⟩
  subst c4
  have H1 : (some (decide (a0_0 < 268435455))) = some r := by rw [if_pos rfl] at H; exact H
  clear H
  have H := H1
  clear H1
  obtain rfl := Option.some.inj H
  go_enter Try.func65, Try.ntmps65
  go_wp2_with (first | ((with_reducible refine gate_dst (N := 2) rfl ?_); refine box_event ?hg (N := 2) ?hd (cs := #[.int .i64 a0_0, .slice A0_1 l0_1.length c0_1]) (t := 35) ?hr ?_; (case hd => rfl); (case hg => rfl); (case hr => first | (go_simp; done) | (go_simp; rfl)); intro gb123 hg w5 hbox hb; have BK123 := Aside0.mk (hbox); have GW123 := geL hg HB.out; have GE123 := geL hg HB.out; replace HB := Aside0.mk (below_step (pB HB.out) hb); clear hb hbox hg; have hcz6_0 : w5.cell? ⟨gb123, 0, none⟩ = some (.int .i64 a0_0) := blk_cell BK123.out 0; have hcz6_1 : w5.cell? ⟨gb123, 1, none⟩ = some (.slice A0_1 l0_1.length c0_1) := blk_cell BK123.out 1; have hfz6_0 := blk_frozen BK123.out 0; have hfz6_1 := blk_frozen BK123.out 1) | ((with_reducible refine gate_callee (f := 28) rfl ?_); refine goesL_ (some 7) rfl rfl Try.func28 (by kernel_rfl) rfl #[.agg #[.int .i64 a0_0, .slice A0_1 l0_1.length c0_1], .int .i64 a1] rfl (by (try simp only [List.map_toArray, List.map_cons, List.map_nil]); first | done | rfl | (simp only [List.length_drop, List.length_take]; done) | (simp only [List.length_drop, List.length_take]; rfl)) ?_; (with_reducible refine (atlas_May.calls k a0_0 _ _ l0_1 a1 true _ ?side1 ?side2 A3.out).mono ?_); (case side1 => repeat (first | exact (Kd.C_below HR0_1.out HB.out) | (with_reducible refine Kd.C_alloc ?_ _) | (with_reducible refine Kd.C_drewN ?_ _) | (with_reducible refine Kd.C_drew ?_))); (case side2 => exact HC0_1.out); rintro e w7 ⟨rfl, hb⟩; refine ⟨_, rfl, ?_⟩; replace BK123 := Aside0.mk (blk_below BK123.out hb); replace HB := Aside0.mk (below_step (pB HB.out) hb); (try clear hb); (try clear hb2); (try clear hk); (try clear hi); have hcz8_0 : w7.cell? ⟨gb123, 0, none⟩ = some (.int .i64 a0_0) := blk_cell BK123.out 0; have hcz8_1 : w7.cell? ⟨gb123, 1, none⟩ = some (.slice A0_1 l0_1.length c0_1) := blk_cell BK123.out 1; have hfz8_0 := blk_frozen BK123.out 0; have hfz8_1 := blk_frozen BK123.out 1))
  go_ret
  exact ⟨by first | rfl | (simp [errW_none, errW_some] <;> rfl) | (simp [*, errW_none, errW_some] <;> rfl), by repeat (first | (with_reducible first | exact HB.out | apply below_alloc | apply pw_below_drewN | apply below_drew1 | refine below_set ?_ GE123.out) | exact HB.out)⟩
/-! ### atlas_Shard_89: function 89 -/
def atlas_Shard_89.f (l0 : List S30) : Option (List S30) := if l0.length * 48 ≤ 140737488355328 then some l0 else none

set_option maxHeartbeats 8000000 in
set_option maxRecDepth 100000 in
theorem atlas_Shard_89.calls (A0 : Option Addr) (c0 : Nat) (l0 : List (S30)) (r : List (S30)) (w : World) (hr0 : Kd.C k30 w A0 l0.length l0) (hc0 : l0.length ≤ c0) (h : atlas_Shard_89.f l0 = some r) :
    Calls Try.prog 89 #[.slice A0 l0.length c0] w fun e w' => ∃ v0_ : Value, e = .returned (v0_) ∧ Kd.R k30 30 w' w.heap.size (fun _ => True) v0_ r ∧ Below w.heap.size w w' := by
  unfold atlas_Shard_89.f at h
  split at h
  case isFalse => cases h
  case isTrue hl =>
  obtain rfl := Option.some.inj h
  have he := fun wx => run_eql_row_nil (P := Try.prog) wx 33 _ A0 l0.length c0 Try.underlying33
  cases A0 with
  | none =>
   obtain rfl := C_none hr0
   have he0 : ∀ wx, (binOp .eql 33 (.slice none 0 c0) (.slice none 0 0)).run Try.prog wx = .ok (.bool true) wx := fun wx => he wx
   clear hr0 hc0 h hl he
   go_enter Try.func89, Try.ntmps89
   go_wp2
   go_ret
   exact ⟨_, rfl, Kd.R_nil _ _ _ _ _, Below.refl _ _⟩
  | some ad =>
   have HR := Aside0.mk hr0
   have HL := Aside0.mk hl
   clear hr0 hc0 h hl
   go_enter Try.func89, Try.ntmps89
   go_wp2_with (first
     | ((with_reducible refine gate_dst (N := 5) rfl ?_); refine Kd.R_lit k30 w.heap.size 30 ?hg (N := 5) ?hd (xs := ([] : List S30)) (inner := []) (ok := fun _ => True) (okp := fun _ => True) ?hr ?hp (fun _ hk => hk) trivial (Below.refl _ _) (Nat.le_refl _) (by simp) ?_; (case hd => rfl); (case hg => rfl); (case hr => first | (go_simp; done) | (go_simp; rfl)); (case hp => exact (Reps.none _ _)); intro v1 w1 ho1 hb1 hg_ hnew_; have HO := Aside0.mk ho1; have HB := Aside0.mk hb1; clear hg_ hnew_ ho1 hb1)
     | ((with_reducible refine gate_builtin (b := .append) (xs := #[.tmp 5, .tmp 6]) rfl ?_); at_builtin; refine Kd.R_append_rows k30 (Rr := Kd.K k30 w1) (w0 := w) w.heap.size rfl (.tmp 5) (.tmp 6) 33 30 (.agg #[(.string ⟨#[]⟩), (.string ⟨#[]⟩), (.int .i64 0), (.int .i64 0)]) 48 rfl Try.underlying33 info30 rfl (by decide) (by omega) v1 [] l0 _ _ _ (fun _ => True) (fun _ => False) rfl rfl ?aO ?aR ?aM (fun _ h => h.elim) (fun _ _ => trivial) ?aB ?aS ?aL ?_; (case aO => exact HO.out); (case aR => exact Kd.C_below HR.out HB.out); (case aM => intro x cs hx; obtain rfl := k30_open hx; exact k30_mkM _ _ _ _); (case aB => exact HB.out); (case aS => exact below_size HB.out); (case aL => have := HL.out; simpa using this); intro v2 w2 ho2 hb2 hg2 hat2; have HO2 := Aside0.mk ho2; have HB2 := Aside0.mk hb2; clear ho2 hb2 hg2 hat2))
   go_ret
   exact ⟨_, rfl, HO2.out, HB2.out⟩
/-! ### atlas_changed: function 66 -/
mutual
def atlas_changed.l0 : Nat → Int → Int → List (S30) → Int → Int → Int → List (S30) → Int → List (S30) → Option (Int × (List (S30)) × List Int × Int)
  | 0, _, _, _, _, _, _, _, _, _ => none
  | k + 1, x1, x2, x25, x26, x27, x126000, x126001, x135000, x135001 => if x27 < x26 then (if 0 ≤ x27 then (if x27 < (x25.length : Int) then (if x135001.length < 2932031007402 then (atlas_changed.l0 k x1 x2 x25 x26 (wrap64 (x27 + 1)) x126000 x126001 x135000 (x135001 ++ [(⟨(⟨(rd_T30 x25 x27).f0.f0, (rd_T30 x25 x27).f0.f1⟩ : S28), (rd_T30 x25 x27).f1, x135000⟩ : S30)])) else (none)) else (none)) else (none)) else (if 0 ≤ x2 then (if x2 ≤ (x126001.length : Int) then ((some (x126001.drop (x2 : Int).toNat : List (S30))).bind fun y140 => (if x135001.length + y140.length < 2932031007402 then (atlas_changed.l1 k x2 ([] : List Int) x1 x135000 (x135001 ++ y140)) else (none))) else (none)) else (none))
def atlas_changed.l1 : Nat → Int → List Int → Int → Int → List (S30) → Option (Int × (List (S30)) × List Int × Int)
  | 0, _, _, _, _, _ => none
  | k + 1, x2, x14, x15, x135000, x135001 => if x15 < x2 then (if x14.length < 17592186044416 then (atlas_changed.l1 k x2 (x14 ++ [x15]) (wrap64 (x15 + 1)) x135000 x135001) else (none)) else (some (x135000, x135001, x14, 0))
end
def atlas_changed.f (k : Nat) (a0_0 : Int) (l0_1 : List (S30)) (a1 : Int) (a2 : Int) (l3 : List (S30)) : Option (Int × (List (S30)) × List Int × Int) := if 0 ≤ a1 then (if a1 ≤ (l0_1.length : Int) then ((atlas_Shard_89.f (l0_1.take (a1 : Int).toNat)).bind fun t131 => (atlas_changed.l0 k a1 a2 l3 (l3.length : Int) 0 a0_0 l0_1 (wrap64 (a0_0 + 1)) t131)) else (none)) else (none)
theorem atlas_changed.mono_l : ∀ k, (∀ y0 y1 y2 y3 y4 y5 y6 y7 y8, LeO (atlas_changed.l0 k y0 y1 y2 y3 y4 y5 y6 y7 y8) (atlas_changed.l0 (k + 1) y0 y1 y2 y3 y4 y5 y6 y7 y8)) ∧ (∀ y0 y1 y2 y3 y4, LeO (atlas_changed.l1 k y0 y1 y2 y3 y4) (atlas_changed.l1 (k + 1) y0 y1 y2 y3 y4))
  | 0 => ⟨fun _ _ _ _ _ _ _ _ _ r h => by simp [atlas_changed.l0] at h, fun _ _ _ _ _ r h => by simp [atlas_changed.l1] at h⟩
  | k + 1 => by
    obtain ⟨ih0, ih1⟩ := atlas_changed.mono_l k
    refine ⟨?_, ?_⟩
    · intro y0 y1 y2 y3 y4 y5 y6 y7 y8
      unfold atlas_changed.l0
      repeat' first
      | (with_reducible exact ih0 _ _ _ _ _ _ _ _ _)
      | (with_reducible exact ih1 _ _ _ _ _)
      | (with_reducible exact LeO.refl _)
      | (with_reducible exact LeO.none _)
      | (with_reducible refine LeO.ite ?_ ?_)
      | (with_reducible refine LeO.bind ?_ (fun _ => ?_))
      | exact ih0 _ _ _ _ _ _ _ _ _
      | exact ih1 _ _ _ _ _
      | exact LeO.none _
      | refine LeO.ite ?_ ?_
      | refine LeO.bind ?_ (fun _ => ?_)
    · intro y0 y1 y2 y3 y4
      unfold atlas_changed.l1
      repeat' first
      | (with_reducible exact ih0 _ _ _ _ _ _ _ _ _)
      | (with_reducible exact ih1 _ _ _ _ _)
      | (with_reducible exact LeO.refl _)
      | (with_reducible exact LeO.none _)
      | (with_reducible refine LeO.ite ?_ ?_)
      | (with_reducible refine LeO.bind ?_ (fun _ => ?_))
      | exact ih0 _ _ _ _ _ _ _ _ _
      | exact ih1 _ _ _ _ _
      | exact LeO.none _
      | refine LeO.ite ?_ ?_
      | refine LeO.bind ?_ (fun _ => ?_)
theorem atlas_changed.mono : ∀ a0 a1 a2 a3 a4 k, LeO (atlas_changed.f k a0 a1 a2 a3 a4) (atlas_changed.f (k + 1) a0 a1 a2 a3 a4) := by
  intro a0 a1 a2 a3 a4 k
  obtain ⟨ih0, ih1⟩ := atlas_changed.mono_l k
  unfold atlas_changed.f
  repeat' first
      | (with_reducible exact ih0 _ _ _ _ _ _ _ _ _)
      | (with_reducible exact ih1 _ _ _ _ _)
      | (with_reducible exact LeO.refl _)
      | (with_reducible exact LeO.none _)
      | (with_reducible refine LeO.ite ?_ ?_)
      | (with_reducible refine LeO.bind ?_ (fun _ => ?_))
      | exact ih0 _ _ _ _ _ _ _ _ _
      | exact ih1 _ _ _ _ _
      | exact LeO.none _
      | refine LeO.ite ?_ ?_
      | refine LeO.bind ?_ (fun _ => ?_)
def atlas_changed.T1 : Bool × List (List Nat × List Nat) := (true, [([], []), ([0], [0]), ([1], [1]), ([], []), ([3], [3]), ([], []), ([4, 5], [4, 5]), ([6], [6]), ([2, 7], [2, 7]), ([], []), ([9, 8, 7, 0, 1, 2, 3, 4, 5, 6, 7, 8, 9], [8, 9])])
def atlas_changed.B1 : List Nat := [0, 1, 3, 0, 8, 0, 56, 120, 255, 0, 1023]
theorem atlas_changed.tab1 : rtab .any (opsOf Try.f66 1) = atlas_changed.T1 := by kernel_rfl
theorem atlas_changed.bits1 : waitsOk atlas_changed.T1.2 atlas_changed.B1 = true := by kernel_rfl
def atlas_changed.T8 : Bool × List (List Nat × List Nat) := (true, [([], []), ([0], [0]), ([], []), ([2], [2]), ([], []), ([3, 4], [3, 4]), ([1, 5], [1, 5]), ([0, 1, 2, 3, 4, 5, 6], []), ([7, 6, 6, 0, 1, 2, 3, 4, 5, 6], [6, 7])])
def atlas_changed.B8 : List Nat := [0, 1, 0, 4, 0, 28, 63, 127, 255]
theorem atlas_changed.tab8 : rtab .any (opsOf Try.f66 8) = atlas_changed.T8 := by kernel_rfl
theorem atlas_changed.bits8 : waitsOk atlas_changed.T8.2 atlas_changed.B8 = true := by kernel_rfl
set_option maxHeartbeats 8000000 in
set_option maxRecDepth 100000 in
theorem atlas_changed.calls (k : Nat) (a0_0 : Int) (A0_1 : Option Addr) (c0_1 : Nat) (l0_1 : List (S30)) (a1 : Int) (a2 : Int) (A3 : Option Addr) (c3 : Nat) (l3 : List (S30)) (r1 : Int) (r2 : List (S30)) (r3 : List Int) (r4 : Int) (w : World) (hr0_1 : Kd.C k30 w A0_1 l0_1.length l0_1) (hc0_1 : l0_1.length ≤ c0_1) (hr3 : Kd.C k30 w A3 l3.length l3) (hc3 : l3.length ≤ c3) (h : atlas_changed.f k a0_0 l0_1 a1 a2 l3 = some (r1, r2, r3, r4)) :
    Calls Try.prog 66 #[.agg #[.int .i64 a0_0, .slice A0_1 l0_1.length c0_1], .int .i64 a1, .int .i64 a2, .slice A3 l3.length c3] w fun e w' => ∃ v1_ v2_ : Value, e = .returned (.tuple #[.agg #[.int .i64 r1, v1_], v2_, .int .i64 r4]) ∧ Kd.R k30 30 w' w.heap.size (fun _ => True) v1_ r2 ∧ Kd.R (Kd.int .i64) 3 w' w.heap.size (fun _ => True) v2_ r3 ∧ Below w.heap.size w w' := by
  have hu35 := Try.underlying35
  have hu30 := Try.underlying30
  have HR0_1 := Aside0.mk hr0_1
  have HC0_1 := Aside0.mk hc0_1
  clear hr0_1 hc0_1
  have HR3 := Aside0.mk hr3
  have HC3 := Aside0.mk hc3
  clear hr3 hc3
  have HB := Aside0.mk (Below.refl w.heap.size w)
  have H : (if 0 ≤ a1 then (if a1 ≤ (l0_1.length : Int) then ((atlas_Shard_89.f (l0_1.take (a1 : Int).toNat)).bind fun t131 => (atlas_changed.l0 k a1 a2 l3 (l3.length : Int) 0 a0_0 l0_1 (wrap64 (a0_0 + 1)) t131)) else (none)) else (none)) = some (r1, r2, r3, r4) := h
  clear h
  by_cases c5 : 0 ≤ a1
  rotate_left
  · rw [if_neg c5] at H
    exact absurd H (by simp)
  rw [if_pos c5] at H
  have c5b0 := eq_true c5
  have c5b1 : decide (0 ≤ a1) = true := decide_eq_true c5
  clear c5
  by_cases c6 : a1 ≤ (l0_1.length : Int)
  rotate_left
  · rw [if_neg c6] at H
    exact absurd H (by simp)
  rw [if_pos c6] at H
  have c6b0 := eq_true c6
  have c6b1 : decide (a1 ≤ (l0_1.length : Int)) = true := decide_eq_true c6
  clear c6
  obtain ⟨y127, hy127⟩ : ∃ y_ : List (S30), y_ = (l0_1.take (a1 : Int).toNat) := ⟨_, rfl⟩
  replace H : ((atlas_Shard_89.f y127).bind fun t131 => (atlas_changed.l0 k a1 a2 l3 (l3.length : Int) 0 a0_0 l0_1 (wrap64 (a0_0 + 1)) t131)) = some (r1, r2, r3, r4) := by first | (rw [hy127]; with_reducible exact H) | (have H2_ := (Option.bind_some _ _).symm.trans H; rw [hy127]; with_reducible exact H2_) | (have H2_ := (Option.bind_some _ _).symm.trans H; with_reducible exact H2_) | with_reducible exact H | (rw [hy127]; exact H) | exact H
  have Ny127 := Aside0.mk hy127
  clear hy127
  replace H := Option.bind_eq_some_iff.mp H
  obtain ⟨t131, A70, H⟩ := H
  replace H : (atlas_changed.l0 k a1 a2 l3 (l3.length : Int) 0 a0_0 l0_1 (wrap64 (a0_0 + 1)) t131) = some (r1, r2, r3, r4) := H
  have A7 := Aside0.mk A70
  clear A70
  have H' := Aside0.mk H
  clear H
  go_enter Try.func66, Try.ntmps66
  try go_wp2_with (first | ((with_reducible refine gate_dst (N := 4) rfl ?_); refine box_event ?hg (N := 4) ?hd (cs := #[.int .i64 a0_0, .slice A0_1 l0_1.length c0_1]) (t := 35) ?hr ?_; (case hd => rfl); (case hg => rfl); (case hr => first | (go_simp; done) | (go_simp; rfl)); intro gb125 hg w8 hbox hb; have BK125 := Aside0.mk (hbox); have GW125 := geL hg HB.out; have GE125 := geL hg HB.out; replace HB := Aside0.mk (below_step (pB HB.out) hb); clear hb hbox hg) | ((with_reducible refine gate_dst (N := 8) rfl ?_); refine box_event ?hg (N := 8) ?hd (cs := #[.int .i64 0, .slice none 0 0]) (t := 35) ?hr ?_; (case hd => rfl); (case hg => rfl); (case hr => first | (go_simp; done) | (go_simp; rfl)); intro gb126 hg w9 hbox hb; have BK126 := Aside0.mk (hbox); have GW126 := geL hg HB.out; have GE126 := geL hg HB.out; have NB125_126 := neL hg BK125.out; have NB126_125 := neG hg BK125.out; replace BK125 := Aside0.mk (blk_below BK125.out hb); replace HB := Aside0.mk (below_step (pB HB.out) hb); clear hb hbox hg))
  replace BK125 := Aside0.mk (blk_drew BK125.out)
  replace BK126 := Aside0.mk (blk_drew BK126.out)
  replace HB := Aside0.mk (below_drew1 HB.out)
  have q11 : (a1 : Int) ≤ ((l0_1.length : Int) : Int) := of_decide_eq_true (by first | (with_reducible assumption) | assumption)
  obtain ⟨i011, hi011, _, hsz11, _⟩ := info_parts info30
  have hroom11 : l0_1.length ≤ c0_1 := HC0_1.out
  have hC11 : Kd.C k30 _ A0_1 l0_1.length l0_1 := HR0_1.out
  have hcut11 := cut_to (P := Try.prog) 33 30 .i64 Try.underlying33 hi011 A0_1 l0_1.length c0_1 a1 (of_decide_eq_true (by first | (with_reducible assumption) | assumption)) q11 hroom11
  have hr11 := Kd.C_take (m := (a1 : Int).toNat) hC11 (by omega)
  have hy11 : y127.length = (a1 : Int).toNat := (by rw [Ny127.out, List.length_take]; omega)
  rw [← Ny127.out] at hr11
  rw [← hy11] at hcut11
  have HR130 := Aside0.mk hr11
  have HC130 := Aside0.mk (show y127.length ≤ c0_1 from by omega)
  clear hr11 hC11 hroom11 hi011 hsz11
  have KY11 := Aside0.mk hy11
  clear hy11
  replace q11 := eq_true q11
  refine start_ (n := 11) (S := fun w' => w'.cell? ⟨gb125, 0, none⟩ = some (.int .i64 a0_0) ∧ w'.cell? ⟨gb125, 1, none⟩ = some (.slice A0_1 l0_1.length c0_1)) (ds := []) #[false, false, false, false, false, false, false, false, false, false, false] (by kernel_rfl) rfl rfl ⟨blk_cell BK125.out 0, blk_cell BK125.out 1⟩ (fun hHeld => ?_); refine with_tabW atlas_changed.tab1 atlas_changed.bits1 (fun HT_ HW_ => ?_)
  generalize w9.drew = w10 at BK125 BK126 HB HR130 hHeld ⊢
  refine pure_ (i := 0) (N := some 16) (v := ?_) (a' := ?_) #[true, false, false, false, false, false, false, false, false, false, false] rfl rfl (any_of HT_.out (by kernel_rfl)) (fun _ _ _ h => h) (Or.inl ⟨by rfl, ?_⟩) ?_ ?_
  rotate_left
  · intro w'
    go_simp
    with_reducible rfl
  rotate_left
  · simp only [Act.put, List.setIfInBounds_toArray, List.set_cons_zero, List.set_cons_succ, i64_w, i32_w]; rfl
  refine pure_ (i := 3) (N := some 19) (v := ?_) (a' := ?_) #[true, false, false, true, false, false, false, false, false, false, false] rfl rfl (any_of HT_.out (by kernel_rfl)) (fun _ _ _ h => h) (Or.inl ⟨by rfl, ?_⟩) ?_ ?_
  rotate_left
  · intro w'
    go_simp
    with_reducible rfl
  rotate_left
  · simp only [Act.put, List.setIfInBounds_toArray, List.set_cons_zero, List.set_cons_succ, i64_w, i32_w]; rfl
  refine pure_ (i := 5) (N := some 21) (v := ?_) (a' := ?_) #[true, false, false, true, false, true, false, false, false, false, false] rfl rfl (any_of HT_.out (by kernel_rfl)) (fun _ _ _ h => h) (Or.inl ⟨by rfl, ?_⟩) ?_ ?_
  rotate_left
  · intro w'
    go_simp
    with_reducible rfl
  rotate_left
  · simp only [Act.put, List.setIfInBounds_toArray, List.set_cons_zero, List.set_cons_succ, i64_w, i32_w]; rfl
  refine take_ (i := 1) (N := some 17) (v := ?_) (a' := ?_) #[true, true, false, true, false, true, false, false, false, false, false] rfl rfl (take_ofW HT_.out HW_.out (by kernel_rfl)) (fun _ _ _ h => h) (Or.inl ⟨by rfl, ?_⟩) hHeld ?_ ?_
  rotate_left
  · rintro w' ⟨s0, s1⟩; go_simp; with_reducible rfl
  rotate_left
  · simp only [Act.put, List.setIfInBounds_toArray, List.set_cons_zero, List.set_cons_succ, i64_w, i32_w]; rfl
  refine pure_ (i := 2) (N := some 18) (v := ?_) (a' := ?_) #[true, true, true, true, false, true, false, false, false, false, false] rfl rfl (any_of HT_.out (by kernel_rfl)) (fun _ _ _ h => h) (Or.inl ⟨by rfl, ?_⟩) ?_ ?_
  rotate_left
  · intro w'
    go_simp
    with_reducible rfl
  rotate_left
  · simp only [Act.put, List.setIfInBounds_toArray, List.set_cons_zero, List.set_cons_succ, i64_w, i32_w]; rfl
  refine take_ (i := 4) (N := some 20) (v := ?_) (a' := ?_) #[true, true, true, true, true, true, false, false, false, false, false] rfl rfl (take_ofW HT_.out HW_.out (by kernel_rfl)) (fun _ _ _ h => h) (Or.inl ⟨by rfl, ?_⟩) hHeld ?_ ?_
  rotate_left
  · rintro w' ⟨s0, s1⟩; go_simp; with_reducible rfl
  rotate_left
  · simp only [Act.put, List.setIfInBounds_toArray, List.set_cons_zero, List.set_cons_succ, i64_w, i32_w]; rfl
  refine pure_ (i := 6) (N := some 22) (v := ?_) (a' := ?_) #[true, true, true, true, true, true, true, false, false, false, false] rfl rfl (any_of HT_.out (by kernel_rfl)) (fun _ _ _ h => h) (Or.inl ⟨by rfl, ?_⟩) ?_ ?_
  rotate_left
  · intro w'
    go_simp
    with_reducible rfl
  rotate_left
  · simp only [Act.put, List.setIfInBounds_toArray, List.set_cons_zero, List.set_cons_succ, i64_w, i32_w]; rfl
  refine join_ (σ := Value × Nat) 1 #[true, true, true, true, true, true, true, true, true, true, false] (fun s_ => [(23, s_.1), (11, .pointer (some ⟨s_.2, 0, none⟩)), (24, .agg #[.int .i64 (wrap64 (a0_0 + 1)), s_.1])]) (fun s_ w' => (w'.cell? ⟨gb125, 0, none⟩ = some (.int .i64 a0_0) ∧ w'.cell? ⟨gb125, 1, none⟩ = some (.slice A0_1 l0_1.length c0_1)) ∧ (Kd.R k30 30 w' w.heap.size (fun _ => True) s_.1 t131) ∧ (w'.heap[gb125]? = some (.cells #[.int .i64 a0_0, .slice A0_1 l0_1.length c0_1] 35 (0, 0))) ∧ (w'.heap[gb126]? = some (.cells #[.int .i64 0, .slice none 0 0] 35 (0, 0))) ∧ (w'.heap[s_.2]? = some (.cells #[.int .i64 0, .slice none 0 0] 35 (0, 0))) ∧ (w.heap.size ≤ s_.2) ∧ (w.heap.size ≤ s_.2) ∧ (gb125 ≠ s_.2) ∧ (s_.2 ≠ gb125) ∧ (gb126 ≠ s_.2) ∧ (s_.2 ≠ gb126) ∧ (Below w.heap.size w w')) ?_ ?_
  rotate_left
  ·
   intro hCont
   refine two_ (i := 7) (j := 9) (Ni := some 23) (Nj := some 11) #[true, true, true, true, true, true, true, true, false, false, false] #[true, true, true, true, true, true, true, false, false, true, false] rfl rfl rfl rfl (two_of HT_.out (by kernel_rfl)) (by decide) (by decide) (fun K hK => ?_) (fun K hK => ?_)
   ·
    skip
    refine goes_ Try.func89 (by kernel_rfl) rfl #[.slice A0_1 y127.length c0_1] (by rfl) rfl rfl (by (try simp only [List.map_toArray, List.map_cons, List.map_nil]); first | done | rfl | (simp only [List.length_drop, List.length_take]; done) | (simp only [List.length_drop, List.length_take]; rfl)) ?_
    with_reducible refine (atlas_Shard_89.calls _ _ y127 t131 _ ?side1 ?side2 A7.out).mono ?_
    (case side1 => repeat (first | exact (Kd.C_below HR130.out HB.out) | (with_reducible refine Kd.C_alloc ?_ _) | (with_reducible refine Kd.C_drewN ?_ _) | (with_reducible refine Kd.C_drew ?_)))
    (case side2 => exact HC130.out)
    rintro e w12 ⟨v132, rfl, ho0, hb⟩
    refine ⟨_, rfl, ?_⟩
    have HO133 := Aside0.mk (Kd.R_lower ho0 (below_size (pB HB.out)))
    replace BK125 := Aside0.mk (blk_below BK125.out hb)
    replace BK126 := Aside0.mk (blk_below BK126.out hb)
    replace HB := Aside0.mk (below_step (pB HB.out) hb)
    (try clear hb)
    (try clear hb2)
    (try clear hk)
    (try clear hi)
    (try clear ho0)
    obtain ⟨Ao13, co13, eo13⟩ := Kd.R_slice HO133.out
    (first | subst eo13 | (injection eo13 with f1_ f2_ f3_; have f4_ := f1_.symm; have f5_ := f3_.symm; clear f1_ f2_ f3_; subst f4_; subst f5_))
    refine hK.out _ _ ⟨blk_cell BK125.out 0, blk_cell BK125.out 1⟩ (fun hHeld => ?_)
    clear hK K
    refine norm_ (a' := ?_) ?_ ?_
    rotate_left
    · show Act.put _ (some 23) _ = _; simp only [Act.put, List.setIfInBounds_toArray, List.set_cons_zero, List.set_cons_succ, i64_w, i32_w]; rfl
    refine pure_ (i := 8) (N := some 24) (v := ?_) (a' := ?_) #[true, true, true, true, true, true, true, true, true, false, false] rfl rfl (any_of HT_.out (by kernel_rfl)) (fun _ _ _ h => h) (Or.inl ⟨by rfl, ?_⟩) ?_ ?_
    rotate_left
    · intro w'
      go_simp
      with_reducible rfl
    rotate_left
    · simp only [Act.put, List.setIfInBounds_toArray, List.set_cons_zero, List.set_cons_succ, i64_w, i32_w]; rfl
    refine one_ (i := 9) (N := some 11) #[true, true, true, true, true, true, true, true, true, true, false] rfl rfl (one_of HT_.out (by kernel_rfl)) (by decide) (fun K hK => ?_)
    refine box_step ?hg (N := 11) ?hd (cs := #[.int .i64 0, .slice none 0 0]) (t := 35) ?hr ?_; (case hd => rfl); (case hg => rfl); (case hr => first | (go_simp; done) | (go_simp; rfl))
    intro gb134 hg w14 hbox hb
    have BK134 := Aside0.mk (hbox)
    have GW134 := geL hg HB.out
    have GE134 := geL hg HB.out
    have NB125_134 := neL hg BK125.out
    have NB134_125 := neG hg BK125.out
    have NB126_134 := neL hg BK126.out
    have NB134_126 := neG hg BK126.out
    replace HO133 := Aside0.mk (Kd.R_below (pR HO133.out) hb)
    replace BK125 := Aside0.mk (blk_below BK125.out hb)
    replace BK126 := Aside0.mk (blk_below BK126.out hb)
    replace HB := Aside0.mk (below_step (pB HB.out) hb)
    clear hb hbox hg
    refine hK.out _ _ ⟨blk_cell BK125.out 0, blk_cell BK125.out 1⟩ (fun hHeld => ?_)
    clear hK K
    refine norm_ (a' := ?_) ?_ ?_
    rotate_left
    · show Act.put _ (some 11) _ = _; simp only [Act.put, List.setIfInBounds_toArray, List.set_cons_zero, List.set_cons_succ, i64_w, i32_w]; rfl
    exact norm_ (by simp only [putAll, Act.put, List.setIfInBounds_toArray, List.set_cons_zero, List.set_cons_succ]) (hCont (.slice Ao13 t131.length co13, gb134) _ ⟨hHeld, (pR HO133.out), (pb BK125.out), (pb BK126.out), (pb BK134.out), GW134.out, GE134.out, NB125_134.out, NB134_125.out, NB126_134.out, NB134_126.out, (pB HB.out)⟩)
   skip
   refine box_step ?hg (N := 11) ?hd (cs := #[.int .i64 0, .slice none 0 0]) (t := 35) ?hr ?_; (case hd => rfl); (case hg => rfl); (case hr => first | (go_simp; done) | (go_simp; rfl))
   intro gb134 hg w12 hbox hb
   have BK134 := Aside0.mk (hbox)
   have GW134 := geL hg HB.out
   have GE134 := geL hg HB.out
   have NB125_134 := neL hg BK125.out
   have NB134_125 := neG hg BK125.out
   have NB126_134 := neL hg BK126.out
   have NB134_126 := neG hg BK126.out
   replace BK125 := Aside0.mk (blk_below BK125.out hb)
   replace BK126 := Aside0.mk (blk_below BK126.out hb)
   replace HB := Aside0.mk (below_step (pB HB.out) hb)
   clear hb hbox hg
   refine hK.out _ _ ⟨blk_cell BK125.out 0, blk_cell BK125.out 1⟩ (fun hHeld => ?_)
   clear hK K
   refine norm_ (a' := ?_) ?_ ?_
   rotate_left
   · show Act.put _ (some 11) _ = _; simp only [Act.put, List.setIfInBounds_toArray, List.set_cons_zero, List.set_cons_succ, i64_w, i32_w]; rfl
   refine one_ (i := 7) (N := some 23) #[true, true, true, true, true, true, true, true, false, true, false] rfl rfl (one_of HT_.out (by kernel_rfl)) (by decide) (fun K hK => ?_)
   refine goes_ Try.func89 (by kernel_rfl) rfl #[.slice A0_1 y127.length c0_1] (by rfl) rfl rfl (by (try simp only [List.map_toArray, List.map_cons, List.map_nil]); first | done | rfl | (simp only [List.length_drop, List.length_take]; done) | (simp only [List.length_drop, List.length_take]; rfl)) ?_
   with_reducible refine (atlas_Shard_89.calls _ _ y127 t131 _ ?side1 ?side2 A7.out).mono ?_
   (case side1 => repeat (first | exact (Kd.C_below HR130.out HB.out) | (with_reducible refine Kd.C_alloc ?_ _) | (with_reducible refine Kd.C_drewN ?_ _) | (with_reducible refine Kd.C_drew ?_)))
   (case side2 => exact HC130.out)
   rintro e w13 ⟨v132, rfl, ho0, hb⟩
   refine ⟨_, rfl, ?_⟩
   have HO133 := Aside0.mk (Kd.R_lower ho0 (below_size (pB HB.out)))
   replace BK125 := Aside0.mk (blk_below BK125.out hb)
   replace BK126 := Aside0.mk (blk_below BK126.out hb)
   replace BK134 := Aside0.mk (blk_below BK134.out hb)
   replace HB := Aside0.mk (below_step (pB HB.out) hb)
   (try clear hb)
   (try clear hb2)
   (try clear hk)
   (try clear hi)
   (try clear ho0)
   obtain ⟨Ao14, co14, eo14⟩ := Kd.R_slice HO133.out
   (first | subst eo14 | (injection eo14 with f1_ f2_ f3_; have f4_ := f1_.symm; have f5_ := f3_.symm; clear f1_ f2_ f3_; subst f4_; subst f5_))
   refine hK.out _ _ ⟨blk_cell BK125.out 0, blk_cell BK125.out 1⟩ (fun hHeld => ?_)
   clear hK K
   refine norm_ (a' := ?_) ?_ ?_
   rotate_left
   · show Act.put _ (some 23) _ = _; simp only [Act.put, List.setIfInBounds_toArray, List.set_cons_zero, List.set_cons_succ, i64_w, i32_w]; rfl
   refine pure_ (i := 8) (N := some 24) (v := ?_) (a' := ?_) #[true, true, true, true, true, true, true, true, true, true, false] rfl rfl (any_of HT_.out (by kernel_rfl)) (fun _ _ _ h => h) (Or.inl ⟨by rfl, ?_⟩) ?_ ?_
   rotate_left
   · intro w'
     go_simp
     with_reducible rfl
   rotate_left
   · simp only [Act.put, List.setIfInBounds_toArray, List.set_cons_zero, List.set_cons_succ, i64_w, i32_w]; rfl
   exact norm_ (by simp only [putAll, Act.put, List.setIfInBounds_toArray, List.set_cons_zero, List.set_cons_succ]) (hCont (.slice Ao14 t131.length co14, gb134) _ ⟨hHeld, (pR HO133.out), (pb BK125.out), (pb BK126.out), (pb BK134.out), GW134.out, GE134.out, NB125_134.out, NB134_125.out, NB126_134.out, NB134_126.out, (pB HB.out)⟩)
  rintro ⟨v132, gb134⟩ w15 ⟨hS_, h0_, h1_, h2_, h3_, h4_, h5_, h6_, h7_, h8_, h9_, h10_⟩
  clear BK125 BK126 HB
  (try dsimp only at h0_ h1_ h2_ h3_ h4_ h5_ h6_ h7_ h8_ h9_ h10_)
  have HO133 := Aside0.mk h0_
  have BK125 := Aside0.mk h1_
  have BK126 := Aside0.mk h2_
  have BK134 := Aside0.mk h3_
  have GW134 := Aside0.mk h4_
  have GE134 := Aside0.mk h5_
  have NB125_134 := Aside0.mk h6_
  have NB134_125 := Aside0.mk h7_
  have NB126_134 := Aside0.mk h8_
  have NB134_126 := Aside0.mk h9_
  have HB := Aside0.mk h10_
  clear h0_ h1_ h2_ h3_ h4_ h5_ h6_ h7_ h8_ h9_ h10_
  have hHeld : w15.cell? ⟨gb125, 0, none⟩ = some (.int .i64 a0_0) ∧ w15.cell? ⟨gb125, 1, none⟩ = some (.slice A0_1 l0_1.length c0_1) := hS_
  obtain ⟨Ao16, co16, eo16⟩ := Kd.R_slice HO133.out
  (first | subst eo16 | (injection eo16 with f1_ f2_ f3_; have f4_ := f1_.symm; have f5_ := f3_.symm; clear f1_ f2_ f3_; subst f4_; subst f5_))
  refine norm_ (a' := ?_) ?_ ?_
  rotate_left
  · simp only [putAll, Act.put, List.setIfInBounds_toArray, List.set_cons_zero, List.set_cons_succ]; rfl
  refine one_ (i := 10) (N := none) #[true, true, true, true, true, true, true, true, true, true, true] rfl rfl (one_of HT_.out (by kernel_rfl)) (by decide) (fun K hK => ?_)
  have hs17 : w15.cell? ⟨gb134, 0, none⟩ = some (.int .i64 0) := blk_cell BK134.out 0
  have hfs17 := blk_frozen BK134.out 0
  have hns17_0 := NB125_134.out
  have hns17_1 := NB126_134.out
  have hms17_0 := NB134_125.out
  have hms17_1 := NB134_126.out
  have hs18 : w15.cell? ⟨gb134, 1, none⟩ = some (.slice none 0 0) := blk_cell BK134.out 1
  have hfs18 := blk_frozen BK134.out 1
  have hns18_0 := NB125_134.out
  have hns18_1 := NB126_134.out
  have hms18_0 := NB134_125.out
  have hms18_1 := NB134_126.out
  refine skip_ (w1 := ?_) (by rfl) rfl ?_ ?_
  rotate_left
  · go_simp; rfl
  refine hK.out _ _ ⟨((cell_far (p := ⟨gb134, _, none⟩) NB125_134.out _).trans (((cell_far (p := ⟨gb134, _, none⟩) NB125_134.out _).trans (hHeld.1)))), ((cell_far (p := ⟨gb134, _, none⟩) NB125_134.out _).trans (((cell_far (p := ⟨gb134, _, none⟩) NB125_134.out _).trans (hHeld.2))))⟩ (fun hHeld => ?_)
  clear hK K
  refine done_ (done_of HT_.out (by kernel_rfl)) ?_
  try go_wp2
  go_loopg [27] k (fun kq v27 w' => ∃ (x27_1 : Int) (x135001_1 : List (S30)) (u135001 : Value), v27 = .int .i64 x27_1 ∧ Aside0 (atlas_changed.l0 kq a1 a2 l3 (l3.length : Int) x27_1 a0_0 l0_1 (wrap64 (a0_0 + 1)) x135001_1 = some (r1, r2, r3, r4)) ∧ Aside0 (kq ≤ k) ∧ Aside0 (Kd.R k30 30 w' w.heap.size (fun _ => True) u135001 x135001_1) ∧ Aside0 (w'.heap[gb125]? = some (.cells #[.int .i64 a0_0, (.slice A0_1 l0_1.length c0_1)] 35 (0, 0))) ∧ Aside0 (w'.heap[gb126]? = some (.cells #[.int .i64 0, (.slice none 0 0)] 35 (0, 0))) ∧ Aside0 (w'.heap[gb134]? = some (.cells #[.int .i64 (wrap64 (a0_0 + 1)), u135001] 35 (0, 0))) ∧ Aside0 (Below w.heap.size w w'))
  case atStart => exact ⟨(0), (t131), (.slice Ao16 t131.length co16), (by first | rfl | (simp; done) | (simp [*]; done)), H', ⟨Nat.le_refl _⟩, ⟨by (with_reducible repeat (first | apply Kd.R_alloc | apply Kd.R_drewN | apply Kd.R_drew)); exact Kd.R_mono (Kd.R_far (p := ⟨gb134, 1, none⟩) (Kd.R_far (p := ⟨gb134, 0, none⟩) (Kd.R_types HO133.out BK134.out (by decide)) (fun _ hk => hk.2) (.int .i64 (wrap64 (a0_0 + 1)))) (fun _ hk => hk.2) (.slice Ao16 t131.length co16)) (fun _ hk => trivial)⟩, ⟨by (with_reducible repeat (first | refine blk_drewN ?_ _ | refine blk_drew ?_ | refine blk_alloc ?_ _)); refine blk_far ?_ NB125_134.out _; (with_reducible repeat (first | refine blk_drewN ?_ _ | refine blk_drew ?_ | refine blk_alloc ?_ _)); refine blk_far ?_ NB125_134.out _; (with_reducible repeat (first | refine blk_drewN ?_ _ | refine blk_drew ?_ | refine blk_alloc ?_ _)); exact BK125.out⟩, ⟨by (with_reducible repeat (first | refine blk_drewN ?_ _ | refine blk_drew ?_ | refine blk_alloc ?_ _)); refine blk_far ?_ NB126_134.out _; (with_reducible repeat (first | refine blk_drewN ?_ _ | refine blk_drew ?_ | refine blk_alloc ?_ _)); refine blk_far ?_ NB126_134.out _; (with_reducible repeat (first | refine blk_drewN ?_ _ | refine blk_drew ?_ | refine blk_alloc ?_ _)); exact BK126.out⟩, ⟨by (with_reducible repeat (first | refine blk_drewN ?_ _ | refine blk_drew ?_ | refine blk_alloc ?_ _)); refine blk_put (cs := #[.int .i64 (wrap64 (a0_0 + 1)), .slice none 0 0]) ?_ 1 _ rfl; (with_reducible repeat (first | refine blk_drewN ?_ _ | refine blk_drew ?_ | refine blk_alloc ?_ _)); refine blk_put (cs := #[.int .i64 0, .slice none 0 0]) ?_ 0 _ rfl; (with_reducible repeat (first | refine blk_drewN ?_ _ | refine blk_drew ?_ | refine blk_alloc ?_ _)); exact BK134.out⟩, ⟨by repeat (first | (with_reducible first | exact HB.out | apply below_alloc | apply pw_below_drewN | apply below_drew1 | refine below_set ?_ GE125.out | refine below_set ?_ GE126.out | refine below_set ?_ GE134.out) | exact HB.out)⟩⟩
  case round =>
   clear H'
   try clear q1
   try clear p2
   try clear c3
   try clear c5
   try clear c5b0
   try clear c5b1
   try clear c6
   try clear c6b0
   try clear c6b1
   try clear p6
   try clear c8
   try clear q11
   try clear q11
   obtain ⟨x27_1, x135001_1, u135001, rfl, HA, HK1, HO_135001, BK125, BK126, BK134, HB⟩ := hrel
   cases gk with
   | zero => exact absurd HA.out (by simp [atlas_changed.l0])
   | succ k1 =>
    have H := HA.out
    clear HA
    simp only [atlas_changed.l0] at H
    by_cases c19 : x27_1 < (l3.length : Int)
    ·
     rw [if_pos c19] at H
     have c19b0 : decide (x27_1 < (l3.length : Int)) = true := decide_eq_true c19
     clear c19
     by_cases c20 : 0 ≤ x27_1
     rotate_left
     · rw [if_neg c20] at H
       exact absurd H (by simp)
     rw [if_pos c20] at H
     have c20b0 : decide (0 ≤ x27_1) = true := decide_eq_true c20
     clear c20
     by_cases c21 : x27_1 < (l3.length : Int)
     rotate_left
     · rw [if_neg c21] at H
       exact absurd H (by simp)
     rw [if_pos c21] at H
     have c21b0 : decide (x27_1 < (l3.length : Int)) = true := decide_eq_true c21
     clear c21
     by_cases c22 : x135001_1.length < 2932031007402
     rotate_left
     · rw [if_neg c22] at H
       exact absurd H (by simp)
     rw [if_pos c22] at H
     have LMc22 := Aside0.mk c22
     clear c22
     obtain ⟨y137, hy137⟩ : ∃ y_ : List (S30), y_ = (x135001_1 ++ [(⟨(⟨(rd_T30 l3 x27_1).f0.f0, (rd_T30 l3 x27_1).f0.f1⟩ : S28), (rd_T30 l3 x27_1).f1, (wrap64 (a0_0 + 1))⟩ : S30)]) := ⟨_, rfl⟩
     replace H : (atlas_changed.l0 k1 a1 a2 l3 (l3.length : Int) (wrap64 (x27_1 + 1)) a0_0 l0_1 (wrap64 (a0_0 + 1)) y137) = some (r1, r2, r3, r4) := by first | (rw [hy137]; with_reducible exact H) | (have H2_ := (Option.bind_some _ _).symm.trans H; rw [hy137]; with_reducible exact H2_) | (have H2_ := (Option.bind_some _ _).symm.trans H; with_reducible exact H2_) | with_reducible exact H | (rw [hy137]; exact H) | exact H
     have Ny137 := Aside0.mk hy137
     clear hy137
     have H' := Aside0.mk H
     clear H
     have p135 : 0 ≤ (x27_1 : Int) := of_decide_eq_true (by first | (with_reducible assumption) | assumption)
     have q135 : x27_1 < (l3.length : Int) := of_decide_eq_true (by first | (with_reducible assumption) | assumption)
     obtain ⟨ad135, e135, hx135_0, hx135_1, hx135_2, hx135_3⟩ := at_T30 HR3.out x27_1 p135 q135
     cases e135
     replace hx135_0 := (HB.out.cell (World.block_lt_of_cell? w _ hx135_0)).trans hx135_0
     replace hx135_1 := (HB.out.cell (World.block_lt_of_cell? w _ hx135_1)).trans hx135_1
     replace hx135_2 := (HB.out.cell (World.block_lt_of_cell? w _ hx135_2)).trans hx135_2
     replace hx135_3 := (HB.out.cell (World.block_lt_of_cell? w _ hx135_3)).trans hx135_3
     replace p135 := eq_true p135
     replace q135 := eq_true q135
     go_wp2_with (first | ((with_reducible refine gate_dst (N := 13) rfl ?_); refine box_event ?hg (N := 13) ?hd (cs := #[.string (⟨#[]⟩ : ByteArray), .string (⟨#[]⟩ : ByteArray), .int .i64 0, .int .i64 0]) (t := 30) ?hr ?_; (case hd => rfl); (case hg => rfl); (case hr => first | (go_simp; done) | (go_simp; rfl)); intro gb136 hg w23 hbox hb; have BK136 := Aside0.mk (hbox); have GW136 := Aside0.mk ((by rw [hg]; exact (below_size (by repeat (first | (with_reducible first | exact HB.out | apply below_alloc | apply pw_below_drewN | apply below_drew1 | refine below_set ?_ GE125.out | refine below_set ?_ GE126.out | refine below_set ?_ GE134.out) | exact HB.out))) : w.heap.size ≤ gb136)); have GE136 := Aside0.mk ((by rw [hg]; exact (below_size (by repeat (first | (with_reducible first | exact HB.out | apply below_alloc | apply pw_below_drewN | apply below_drew1 | refine below_set ?_ GE125.out | refine below_set ?_ GE126.out | refine below_set ?_ GE134.out) | exact HB.out))) : w.heap.size ≤ gb136)); have NB125_136 := neL hg BK125.out; have NB136_125 := neG hg BK125.out; have NB126_136 := neL hg BK126.out; have NB136_126 := neG hg BK126.out; have NB134_136 := neL hg BK134.out; have NB136_134 := neG hg BK134.out; replace HO_135001 := Aside0.mk (Kd.R_below (Kd.R_elderB (pR HO_135001.out) gb136 (Nat.le_of_eq hg.symm)) hb); replace BK125 := Aside0.mk (blk_below BK125.out hb); replace BK126 := Aside0.mk (blk_below BK126.out hb); replace BK134 := Aside0.mk (blk_below BK134.out hb); replace HB := Aside0.mk (below_step (by repeat (first | (with_reducible first | exact HB.out | apply below_alloc | apply pw_below_drewN | apply below_drew1 | refine below_set ?_ GE125.out | refine below_set ?_ GE126.out | refine below_set ?_ GE134.out) | exact HB.out)) hb); clear hb hbox hg; have hnb24 := NB136_125.out; have hnc24 := NB125_136.out; have hnb25 := NB136_126.out; have hnc25 := NB126_136.out; have hnb26 := NB136_134.out; have hnc26 := NB134_136.out; have hcz27_0 : w23.cell? ⟨gb136, 0, none⟩ = some (.string (⟨#[]⟩ : ByteArray)) := blk_cell BK136.out 0; have hcz27_1 : w23.cell? ⟨gb136, 1, none⟩ = some (.string (⟨#[]⟩ : ByteArray)) := blk_cell BK136.out 1; have hcz27_2 : w23.cell? ⟨gb136, 2, none⟩ = some (.int .i64 0) := blk_cell BK136.out 2; have hcz27_3 : w23.cell? ⟨gb136, 3, none⟩ = some (.int .i64 0) := blk_cell BK136.out 3; have hfz27_0 := blk_frozen BK136.out 0; have hfz27_1 := blk_frozen BK136.out 1; have hfz27_2 := blk_frozen BK136.out 2; have hfz27_3 := blk_frozen BK136.out 3; have hnb28 := NB134_125.out; have hnc28 := NB125_134.out; have hnb29 := NB134_126.out; have hnc29 := NB126_134.out; have hcz30_0 : w23.cell? ⟨gb134, 0, none⟩ = some (.int .i64 (wrap64 (a0_0 + 1))) := blk_cell BK134.out 0; have hcz30_1 : w23.cell? ⟨gb134, 1, none⟩ = some (u135001) := blk_cell BK134.out 1; have hfz30_0 := blk_frozen BK134.out 0; have hfz30_1 := blk_frozen BK134.out 1) | ((with_reducible refine gate_dst (N := 36) rfl ?_); refine wpList_load_row rfl 30 (.tmp 13) rfl gb136 rfl 30 #[.string ((rd_T30 l3 x27_1).f0.f0), .string ((rd_T30 l3 x27_1).f0.f1), .int .i64 ((rd_T30 l3 x27_1).f1), .int .i64 (wrap64 (a0_0 + 1))] (0, 0) _ (by (with_reducible repeat (first | refine blk_drewN ?_ _ | refine blk_drew ?_ | refine blk_alloc ?_ _)); refine blk_put (cs := #[.string ((rd_T30 l3 x27_1).f0.f0), .string ((rd_T30 l3 x27_1).f0.f1), .int .i64 ((rd_T30 l3 x27_1).f1), .int .i64 ((rd_T30 l3 x27_1).f2)]) ?_ 3 _ rfl; (with_reducible repeat (first | refine blk_drewN ?_ _ | refine blk_drew ?_ | refine blk_alloc ?_ _)); refine blk_put (cs := #[.string ((rd_T30 l3 x27_1).f0.f0), .string ((rd_T30 l3 x27_1).f0.f1), .int .i64 ((rd_T30 l3 x27_1).f1), .int .i64 0]) ?_ 3 _ rfl; (with_reducible repeat (first | refine blk_drewN ?_ _ | refine blk_drew ?_ | refine blk_alloc ?_ _)); refine blk_put (cs := #[.string ((rd_T30 l3 x27_1).f0.f0), .string ((rd_T30 l3 x27_1).f0.f1), .int .i64 0, .int .i64 0]) ?_ 2 _ rfl; (with_reducible repeat (first | refine blk_drewN ?_ _ | refine blk_drew ?_ | refine blk_alloc ?_ _)); refine blk_put (cs := #[.string ((rd_T30 l3 x27_1).f0.f0), .string (⟨#[]⟩ : ByteArray), .int .i64 0, .int .i64 0]) ?_ 1 _ rfl; (with_reducible repeat (first | refine blk_drewN ?_ _ | refine blk_drew ?_ | refine blk_alloc ?_ _)); refine blk_put (cs := #[.string (⟨#[]⟩ : ByteArray), .string (⟨#[]⟩ : ByteArray), .int .i64 0, .int .i64 0]) ?_ 0 _ rfl; (with_reducible repeat (first | refine blk_drewN ?_ _ | refine blk_drew ?_ | refine blk_alloc ?_ _)); exact BK136.out) Try.underlying30 rfl (by kernel_rfl) ?_) | ((with_reducible refine gate_builtin (b := .append) (xs := #[.tmp 35, .tmp 37]) rfl ?_); at_builtin; refine Kd.R_append k30 (w0 := w) w.heap.size rfl (.tmp 35) (.tmp 37) 33 30 (.agg #[(.string ⟨#[]⟩), (.string ⟨#[]⟩), (.int .i64 0), (.int .i64 0)]) 48 rfl Try.underlying33 info30 rfl (by decide) (by omega) u135001 x135001_1 (⟨(⟨(rd_T30 l3 x27_1).f0.f0, (rd_T30 l3 x27_1).f0.f1⟩ : S28), (rd_T30 l3 x27_1).f1, (wrap64 (a0_0 + 1))⟩ : S30) [.string ((rd_T30 l3 x27_1).f0.f0), .string ((rd_T30 l3 x27_1).f0.f1), .int .i64 ((rd_T30 l3 x27_1).f1), .int .i64 (wrap64 (a0_0 + 1))] (fun k_ => k_ ≠ gb136) (fun _ => False) rfl (by first | (go_simp; done) | (go_simp; rfl)) ?aP (fun _ hk => hk.elim) ?aF ?aO ?aB ?aS ?aL ?_; (case aP => exact k30_mkM _ _ _ (⟨(⟨(rd_T30 l3 x27_1).f0.f0, (rd_T30 l3 x27_1).f0.f1⟩ : S28), (rd_T30 l3 x27_1).f1, (wrap64 (a0_0 + 1))⟩ : S30)); (case aB => exact (by repeat (first | (with_reducible first | exact HB.out | apply below_alloc | apply pw_below_drewN | apply below_drew1 | refine below_set ?_ GE125.out | refine below_set ?_ GE126.out | refine below_set ?_ GE134.out | refine below_set ?_ GE136.out) | exact HB.out))); (case aF => exact (fun k_ hk => Kd.freshB (g := gb136) (o := .cells #[.string ((rd_T30 l3 x27_1).f0.f0), .string ((rd_T30 l3 x27_1).f0.f1), .int .i64 ((rd_T30 l3 x27_1).f1), .int .i64 (wrap64 (a0_0 + 1))] 30 (0, 0)) (by (with_reducible repeat (first | refine blk_drewN ?_ _ | refine blk_drew ?_ | refine blk_alloc ?_ _)); refine blk_put (cs := #[.string ((rd_T30 l3 x27_1).f0.f0), .string ((rd_T30 l3 x27_1).f0.f1), .int .i64 ((rd_T30 l3 x27_1).f1), .int .i64 ((rd_T30 l3 x27_1).f2)]) ?_ 3 _ rfl; (with_reducible repeat (first | refine blk_drewN ?_ _ | refine blk_drew ?_ | refine blk_alloc ?_ _)); refine blk_put (cs := #[.string ((rd_T30 l3 x27_1).f0.f0), .string ((rd_T30 l3 x27_1).f0.f1), .int .i64 ((rd_T30 l3 x27_1).f1), .int .i64 0]) ?_ 3 _ rfl; (with_reducible repeat (first | refine blk_drewN ?_ _ | refine blk_drew ?_ | refine blk_alloc ?_ _)); refine blk_put (cs := #[.string ((rd_T30 l3 x27_1).f0.f0), .string ((rd_T30 l3 x27_1).f0.f1), .int .i64 0, .int .i64 0]) ?_ 2 _ rfl; (with_reducible repeat (first | refine blk_drewN ?_ _ | refine blk_drew ?_ | refine blk_alloc ?_ _)); refine blk_put (cs := #[.string ((rd_T30 l3 x27_1).f0.f0), .string (⟨#[]⟩ : ByteArray), .int .i64 0, .int .i64 0]) ?_ 1 _ rfl; (with_reducible repeat (first | refine blk_drewN ?_ _ | refine blk_drew ?_ | refine blk_alloc ?_ _)); refine blk_put (cs := #[.string (⟨#[]⟩ : ByteArray), .string (⟨#[]⟩ : ByteArray), .int .i64 0, .int .i64 0]) ?_ 0 _ rfl; (with_reducible repeat (first | refine blk_drewN ?_ _ | refine blk_drew ?_ | refine blk_alloc ?_ _)); exact BK136.out) k_ hk)); (case aO => exact (by (with_reducible repeat (first | apply Kd.R_alloc | apply Kd.R_drewN | apply Kd.R_drew)); exact Kd.R_mono (Kd.R_far (p := ⟨gb136, 3, none⟩) (Kd.R_far (p := ⟨gb136, 3, none⟩) (Kd.R_far (p := ⟨gb136, 2, none⟩) (Kd.R_far (p := ⟨gb136, 1, none⟩) (Kd.R_far (p := ⟨gb136, 0, none⟩) (Kd.R_mono HO_135001.out (fun k_ hk => (⟨hk, hk.2⟩ : _ ∧ k_ ≠ gb136))) (fun _ hk => hk.2) (.string ((rd_T30 l3 x27_1).f0.f0))) (fun _ hk => hk.2) (.string ((rd_T30 l3 x27_1).f0.f1))) (fun _ hk => hk.2) (.int .i64 ((rd_T30 l3 x27_1).f1))) (fun _ hk => hk.2) (.int .i64 ((rd_T30 l3 x27_1).f2))) (fun _ hk => hk.2) (.int .i64 (wrap64 (a0_0 + 1)))) (fun _ hk => hk.1.2))); (case aS => exact (below_size (by repeat (first | (with_reducible first | exact HB.out | apply below_alloc | apply pw_below_drewN | apply below_drew1 | refine below_set ?_ GE125.out | refine below_set ?_ GE126.out | refine below_set ?_ GE134.out | refine below_set ?_ GE136.out) | exact HB.out)))); (case aL => have := LMc22.out; omega); intro v138 w31 ho hb hg hat; rw [← Ny137.out] at ho; have HO139 := Aside0.mk (ho); replace BK125 := Aside0.mk (blk_grown (g := gb125) (o := .cells #[.int .i64 a0_0, .slice A0_1 l0_1.length c0_1] 35 (0, 0)) (by (with_reducible repeat (first | refine blk_drewN ?_ _ | refine blk_drew ?_ | refine blk_alloc ?_ _)); refine blk_far ?_ NB125_136.out _; (with_reducible repeat (first | refine blk_drewN ?_ _ | refine blk_drew ?_ | refine blk_alloc ?_ _)); refine blk_far ?_ NB125_136.out _; (with_reducible repeat (first | refine blk_drewN ?_ _ | refine blk_drew ?_ | refine blk_alloc ?_ _)); refine blk_far ?_ NB125_136.out _; (with_reducible repeat (first | refine blk_drewN ?_ _ | refine blk_drew ?_ | refine blk_alloc ?_ _)); refine blk_far ?_ NB125_136.out _; (with_reducible repeat (first | refine blk_drewN ?_ _ | refine blk_drew ?_ | refine blk_alloc ?_ _)); refine blk_far ?_ NB125_136.out _; (with_reducible repeat (first | refine blk_drewN ?_ _ | refine blk_drew ?_ | refine blk_alloc ?_ _)); exact BK125.out) hg (Kd.R_ne HO_135001.out BK125.out (by decide))); replace BK126 := Aside0.mk (blk_grown (g := gb126) (o := .cells #[.int .i64 0, .slice none 0 0] 35 (0, 0)) (by (with_reducible repeat (first | refine blk_drewN ?_ _ | refine blk_drew ?_ | refine blk_alloc ?_ _)); refine blk_far ?_ NB126_136.out _; (with_reducible repeat (first | refine blk_drewN ?_ _ | refine blk_drew ?_ | refine blk_alloc ?_ _)); refine blk_far ?_ NB126_136.out _; (with_reducible repeat (first | refine blk_drewN ?_ _ | refine blk_drew ?_ | refine blk_alloc ?_ _)); refine blk_far ?_ NB126_136.out _; (with_reducible repeat (first | refine blk_drewN ?_ _ | refine blk_drew ?_ | refine blk_alloc ?_ _)); refine blk_far ?_ NB126_136.out _; (with_reducible repeat (first | refine blk_drewN ?_ _ | refine blk_drew ?_ | refine blk_alloc ?_ _)); refine blk_far ?_ NB126_136.out _; (with_reducible repeat (first | refine blk_drewN ?_ _ | refine blk_drew ?_ | refine blk_alloc ?_ _)); exact BK126.out) hg (Kd.R_ne HO_135001.out BK126.out (by decide))); replace BK134 := Aside0.mk (blk_grown (g := gb134) (o := .cells #[.int .i64 (wrap64 (a0_0 + 1)), u135001] 35 (0, 0)) (by (with_reducible repeat (first | refine blk_drewN ?_ _ | refine blk_drew ?_ | refine blk_alloc ?_ _)); refine blk_far ?_ NB134_136.out _; (with_reducible repeat (first | refine blk_drewN ?_ _ | refine blk_drew ?_ | refine blk_alloc ?_ _)); refine blk_far ?_ NB134_136.out _; (with_reducible repeat (first | refine blk_drewN ?_ _ | refine blk_drew ?_ | refine blk_alloc ?_ _)); refine blk_far ?_ NB134_136.out _; (with_reducible repeat (first | refine blk_drewN ?_ _ | refine blk_drew ?_ | refine blk_alloc ?_ _)); refine blk_far ?_ NB134_136.out _; (with_reducible repeat (first | refine blk_drewN ?_ _ | refine blk_drew ?_ | refine blk_alloc ?_ _)); refine blk_far ?_ NB134_136.out _; (with_reducible repeat (first | refine blk_drewN ?_ _ | refine blk_drew ?_ | refine blk_alloc ?_ _)); exact BK134.out) hg (Kd.R_ne HO_135001.out BK134.out (by decide))); replace BK136 := Aside0.mk (blk_grown (g := gb136) (o := .cells #[.string ((rd_T30 l3 x27_1).f0.f0), .string ((rd_T30 l3 x27_1).f0.f1), .int .i64 ((rd_T30 l3 x27_1).f1), .int .i64 (wrap64 (a0_0 + 1))] 30 (0, 0)) (by (with_reducible repeat (first | refine blk_drewN ?_ _ | refine blk_drew ?_ | refine blk_alloc ?_ _)); refine blk_put (cs := #[.string ((rd_T30 l3 x27_1).f0.f0), .string ((rd_T30 l3 x27_1).f0.f1), .int .i64 ((rd_T30 l3 x27_1).f1), .int .i64 ((rd_T30 l3 x27_1).f2)]) ?_ 3 _ rfl; (with_reducible repeat (first | refine blk_drewN ?_ _ | refine blk_drew ?_ | refine blk_alloc ?_ _)); refine blk_put (cs := #[.string ((rd_T30 l3 x27_1).f0.f0), .string ((rd_T30 l3 x27_1).f0.f1), .int .i64 ((rd_T30 l3 x27_1).f1), .int .i64 0]) ?_ 3 _ rfl; (with_reducible repeat (first | refine blk_drewN ?_ _ | refine blk_drew ?_ | refine blk_alloc ?_ _)); refine blk_put (cs := #[.string ((rd_T30 l3 x27_1).f0.f0), .string ((rd_T30 l3 x27_1).f0.f1), .int .i64 0, .int .i64 0]) ?_ 2 _ rfl; (with_reducible repeat (first | refine blk_drewN ?_ _ | refine blk_drew ?_ | refine blk_alloc ?_ _)); refine blk_put (cs := #[.string ((rd_T30 l3 x27_1).f0.f0), .string (⟨#[]⟩ : ByteArray), .int .i64 0, .int .i64 0]) ?_ 1 _ rfl; (with_reducible repeat (first | refine blk_drewN ?_ _ | refine blk_drew ?_ | refine blk_alloc ?_ _)); refine blk_put (cs := #[.string (⟨#[]⟩ : ByteArray), .string (⟨#[]⟩ : ByteArray), .int .i64 0, .int .i64 0]) ?_ 0 _ rfl; (with_reducible repeat (first | refine blk_drewN ?_ _ | refine blk_drew ?_ | refine blk_alloc ?_ _)); exact BK136.out) hg (Kd.R_away HO_135001.out (fun _ hk => hk.2))); replace HB := Aside0.mk (hb); clear HO_135001; clear ho hb hg hat; obtain ⟨Ao32, co32, eo32⟩ := Kd.R_slice HO139.out; subst eo32; have hcz33_0 : w31.cell? ⟨gb134, 0, none⟩ = some (.int .i64 (wrap64 (a0_0 + 1))) := blk_cell BK134.out 0; have hcz33_1 : w31.cell? ⟨gb134, 1, none⟩ = some (u135001) := blk_cell BK134.out 1; have hfz33_0 := blk_frozen BK134.out 0; have hfz33_1 := blk_frozen BK134.out 1))
     go_roundg k1
     case measure => have := HK1.out; omega
     case rel => exact ⟨(wrap64 (x27_1 + 1)), (y137), (.slice Ao32 y137.length co32), (by first | rfl | (simp; done) | (simp [*]; done)), H', ⟨by have := HK1.out; omega⟩, ⟨by (with_reducible repeat (first | apply Kd.R_alloc | apply Kd.R_drewN | apply Kd.R_drew)); exact Kd.R_mono (Kd.R_far (p := ⟨gb134, 1, none⟩) (Kd.R_types HO139.out BK134.out (by decide)) (fun _ hk => hk.2) (.slice Ao32 y137.length co32)) (fun _ hk => trivial)⟩, ⟨by (with_reducible repeat (first | refine blk_drewN ?_ _ | refine blk_drew ?_ | refine blk_alloc ?_ _)); refine blk_far ?_ NB125_134.out _; (with_reducible repeat (first | refine blk_drewN ?_ _ | refine blk_drew ?_ | refine blk_alloc ?_ _)); exact BK125.out⟩, ⟨by (with_reducible repeat (first | refine blk_drewN ?_ _ | refine blk_drew ?_ | refine blk_alloc ?_ _)); refine blk_far ?_ NB126_134.out _; (with_reducible repeat (first | refine blk_drewN ?_ _ | refine blk_drew ?_ | refine blk_alloc ?_ _)); exact BK126.out⟩, ⟨by (with_reducible repeat (first | refine blk_drewN ?_ _ | refine blk_drew ?_ | refine blk_alloc ?_ _)); refine blk_put (cs := #[.int .i64 (wrap64 (a0_0 + 1)), u135001]) ?_ 1 _ rfl; (with_reducible repeat (first | refine blk_drewN ?_ _ | refine blk_drew ?_ | refine blk_alloc ?_ _)); exact BK134.out⟩, ⟨by repeat (first | (with_reducible first | exact HB.out | apply below_alloc | apply pw_below_drewN | apply below_drew1 | refine below_set ?_ GE125.out | refine below_set ?_ GE126.out | refine below_set ?_ GE134.out | refine below_set ?_ GE136.out) | exact HB.out)⟩⟩
    rw [if_neg c19] at H
    have c19b0 : decide (x27_1 < (l3.length : Int)) = false := decide_eq_false c19
    clear c19
    by_cases c34 : 0 ≤ a2
    rotate_left
    · rw [if_neg c34] at H
      exact absurd H (by simp)
    rw [if_pos c34] at H
    have c34b0 := eq_true c34
    have c34b1 : decide (0 ≤ a2) = true := decide_eq_true c34
    clear c34
    by_cases c35 : a2 ≤ (l0_1.length : Int)
    rotate_left
    · rw [if_neg c35] at H
      exact absurd H (by simp)
    rw [if_pos c35] at H
    have c35b0 := eq_true c35
    have c35b1 : decide (a2 ≤ (l0_1.length : Int)) = true := decide_eq_true c35
    clear c35
    obtain ⟨y140, hy140⟩ : ∃ y_ : List (S30), y_ = (l0_1.drop (a2 : Int).toNat) := ⟨_, rfl⟩
    replace H : (if x135001_1.length + y140.length < 2932031007402 then (atlas_changed.l1 k1 a2 ([] : List Int) a1 (wrap64 (a0_0 + 1)) (x135001_1 ++ y140)) else (none)) = some (r1, r2, r3, r4) := by first | (rw [hy140]; with_reducible exact H) | (have H2_ := (Option.bind_some _ _).symm.trans H; rw [hy140]; with_reducible exact H2_) | (have H2_ := (Option.bind_some _ _).symm.trans H; with_reducible exact H2_) | with_reducible exact H | (rw [hy140]; exact H) | exact H
    have Ny140 := Aside0.mk hy140
    clear hy140
    by_cases c36 : x135001_1.length + y140.length < 2932031007402
    rotate_left
    · rw [if_neg c36] at H
      exact absurd H (by simp)
    rw [if_pos c36] at H
    have LMc36 := Aside0.mk c36
    clear c36
    obtain ⟨y144, hy144⟩ : ∃ y_ : List (S30), y_ = (x135001_1 ++ y140) := ⟨_, rfl⟩
    replace H : (atlas_changed.l1 k1 a2 ([] : List Int) a1 (wrap64 (a0_0 + 1)) y144) = some (r1, r2, r3, r4) := by first | (rw [hy144]; with_reducible exact H) | (have H2_ := (Option.bind_some _ _).symm.trans H; rw [hy144]; with_reducible exact H2_) | (have H2_ := (Option.bind_some _ _).symm.trans H; with_reducible exact H2_) | with_reducible exact H | (rw [hy144]; exact H) | exact H
    have Ny144 := Aside0.mk hy144
    clear hy144
    have H' := Aside0.mk H
    clear H
    try go_wp2
    replace HO_135001 := Aside0.mk (Kd.R_drew HO_135001.out)
    replace BK125 := Aside0.mk (blk_drew BK125.out)
    replace BK126 := Aside0.mk (blk_drew BK126.out)
    replace BK134 := Aside0.mk (blk_drew BK134.out)
    replace HB := Aside0.mk (below_drew1 HB.out)
    have q38 : (a2 : Int) ≤ ((l0_1.length : Int) : Int) := of_decide_eq_true (by first | (with_reducible assumption) | assumption)
    obtain ⟨i038, hi038, _, hsz38, _⟩ := info_parts info30
    have hroom38 : l0_1.length ≤ c0_1 := HC0_1.out
    have hC38 : Kd.C k30 _ A0_1 l0_1.length l0_1 := HR0_1.out
    have q038 : (0 : Int) ≤ (a2 : Int) := of_decide_eq_true (by first | (with_reducible assumption) | assumption)
    have hcut38 := cut_from (P := Try.prog) 33 30 .i64 Try.underlying33 hi038 4 hsz38 A0_1 l0_1.length c0_1 a2 q038 q38
    have hr38 := Kd.C_drop (m := (a2 : Int).toNat) (c := c0_1) hC38 (by omega) hroom38
    obtain ⟨A38, hA38⟩ : ∃ A1, A1 = (if c0_1 = (a2 : Int).toNat then A0_1 else (A0_1 : Option Addr).map (·.add ((a2 : Int).toNat * 4))) := ⟨_, rfl⟩
    obtain ⟨c38, hc38⟩ : ∃ c1, c1 = c0_1 - (a2 : Int).toNat := ⟨_, rfl⟩
    have hy38 : y140.length = l0_1.length - (a2 : Int).toNat := (by rw [Ny140.out, List.length_drop] <;> omega)
    rw [show (l0_1).drop (a2 : Int).toNat = y140 from Ny140.out.symm] at hr38
    replace hr38 : Kd.C k30 _ A38 y140.length y140 := (by rw [hA38]; exact hr38)
    rw [← hy38, ← hA38, ← hc38] at hcut38
    have HR143 := Aside0.mk hr38
    have HC143 := Aside0.mk (show y140.length ≤ c38 from by rw [hy38, hc38]; exact Nat.sub_le_sub_right hroom38 _)
    clear hr38 hC38 hroom38 hi038 hsz38 hc38
    have KY38 := Aside0.mk hy38
    have KA38 := Aside0.mk hA38
    clear hy38 hA38
    replace q38 := eq_true q38
    refine start_ (n := 9) (S := fun w' => w'.cell? ⟨gb134, 0, none⟩ = some (.int .i64 (wrap64 (a0_0 + 1))) ∧ w'.cell? ⟨gb134, 1, none⟩ = some (u135001) ∧ w'.cell? ⟨gb125, 0, none⟩ = some (.int .i64 a0_0) ∧ w'.cell? ⟨gb125, 1, none⟩ = some (.slice A0_1 l0_1.length c0_1)) (ds := [8]) #[false, false, false, false, false, false, false, false, false] (by kernel_rfl) rfl rfl ⟨blk_cell BK134.out 0, blk_cell BK134.out 1, blk_cell BK125.out 0, blk_cell BK125.out 1⟩ (fun hHeld => ?_); refine with_tabW atlas_changed.tab8 atlas_changed.bits8 (fun HT_ HW_ => ?_)
    generalize wr.drew = w37 at HO_135001 BK125 BK126 BK134 HB HR143 hHeld ⊢
    refine pure_ (i := 0) (N := some 41) (v := ?_) (a' := ?_) #[true, false, false, false, false, false, false, false, false] rfl rfl (any_of HT_.out (by kernel_rfl)) (fun _ _ _ h => h) (Or.inl ⟨by rfl, ?_⟩) ?_ ?_
    rotate_left
    · intro w'
      go_simp
      with_reducible rfl
    rotate_left
    · simp only [Act.put, List.setIfInBounds_toArray, List.set_cons_zero, List.set_cons_succ, i64_w, i32_w]; rfl
    refine pure_ (i := 2) (N := some 43) (v := ?_) (a' := ?_) #[true, false, true, false, false, false, false, false, false] rfl rfl (any_of HT_.out (by kernel_rfl)) (fun _ _ _ h => h) (Or.inl ⟨by rfl, ?_⟩) ?_ ?_
    rotate_left
    · intro w'
      go_simp
      with_reducible rfl
    rotate_left
    · simp only [Act.put, List.setIfInBounds_toArray, List.set_cons_zero, List.set_cons_succ, i64_w, i32_w]; rfl
    refine pure_ (i := 4) (N := some 45) (v := ?_) (a' := ?_) #[true, false, true, false, true, false, false, false, false] rfl rfl (any_of HT_.out (by kernel_rfl)) (fun _ _ _ h => h) (Or.inl ⟨by rfl, ?_⟩) ?_ ?_
    rotate_left
    · intro w'
      go_simp
      with_reducible rfl
    rotate_left
    · simp only [Act.put, List.setIfInBounds_toArray, List.set_cons_zero, List.set_cons_succ, i64_w, i32_w]; rfl
    refine take_ (i := 1) (N := some 42) (v := ?_) (a' := ?_) #[true, true, true, false, true, false, false, false, false] rfl rfl (take_ofW HT_.out HW_.out (by kernel_rfl)) (fun _ _ _ h => h) (Or.inl ⟨by rfl, ?_⟩) hHeld ?_ ?_
    rotate_left
    · rintro w' ⟨s0, s1, s2, s3⟩; go_simp; with_reducible rfl
    rotate_left
    · simp only [Act.put, List.setIfInBounds_toArray, List.set_cons_zero, List.set_cons_succ, i64_w, i32_w]; rfl
    refine take_ (i := 3) (N := some 44) (v := ?_) (a' := ?_) #[true, true, true, true, true, false, false, false, false] rfl rfl (take_ofW HT_.out HW_.out (by kernel_rfl)) (fun _ _ _ h => h) (Or.inl ⟨by rfl, ?_⟩) hHeld ?_ ?_
    rotate_left
    · rintro w' ⟨s0, s1, s2, s3⟩; go_simp; with_reducible rfl
    rotate_left
    · simp only [Act.put, List.setIfInBounds_toArray, List.set_cons_zero, List.set_cons_succ, i64_w, i32_w]; rfl
    refine pure_ (i := 5) (N := some 46) (v := ?_) (a' := ?_) #[true, true, true, true, true, true, false, false, false] rfl rfl (any_of HT_.out (by kernel_rfl)) (fun _ _ _ h => h) (Or.inl ⟨by rfl, ?_⟩) ?_ ?_
    rotate_left
    · intro w'
      go_simp
      with_reducible rfl
    rotate_left
    · simp only [Act.put, List.setIfInBounds_toArray, List.set_cons_zero, List.set_cons_succ, i64_w, i32_w]; rfl
    refine one_ (i := 6) (N := some 47) #[true, true, true, true, true, true, true, false, false] rfl rfl (one_of HT_.out (by kernel_rfl)) (by decide) (fun K hK => ?_)
    refine Kd.R_append_rows_step k30 (w0 := w) w.heap.size (by rfl) (.tmp 42) (.tmp 46) 33 30 (.agg #[(.string ⟨#[]⟩), (.string ⟨#[]⟩), (.int .i64 0), (.int .i64 0)]) 48 rfl Try.underlying33 info30 rfl (by decide) (by omega) u135001 x135001_1 y140 _ _ _ (fun _ => True) (fun _ => False) rfl rfl ?aO ?aR (fun _ _ h => h) (fun _ h => h.elim) ?aF ?aB ?aS ?aL ?_
    (case aR => repeat (first | exact (Kd.C_below HR143.out HB.out) | (with_reducible refine Kd.C_alloc ?_ _) | (with_reducible refine Kd.C_drewN ?_ _) | (with_reducible refine Kd.C_drew ?_)))
    (case aB => exact (pB HB.out))
    (case aF => exact (fun _ _ => trivial))
    (case aO => exact (pR HO_135001.out))
    (case aS => exact (below_size (pB HB.out)))
    (case aL => have := LMc36.out; omega)
    intro v145 w39 ho hb hg hat
    rw [← Ny144.out] at ho
    have HO146 := Aside0.mk (ho)
    replace BK125 := Aside0.mk (blk_grown (g := gb125) (o := .cells #[.int .i64 a0_0, .slice A0_1 l0_1.length c0_1] 35 (0, 0)) (pb BK125.out) hg (Kd.R_ne HO_135001.out BK125.out (by decide)))
    replace BK126 := Aside0.mk (blk_grown (g := gb126) (o := .cells #[.int .i64 0, .slice none 0 0] 35 (0, 0)) (pb BK126.out) hg (Kd.R_ne HO_135001.out BK126.out (by decide)))
    replace BK134 := Aside0.mk (blk_grown (g := gb134) (o := .cells #[.int .i64 (wrap64 (a0_0 + 1)), u135001] 35 (0, 0)) (pb BK134.out) hg (Kd.R_ne HO_135001.out BK134.out (by decide)))
    replace HB := Aside0.mk (hb)
    clear HO_135001
    clear ho hb hg hat
    obtain ⟨Ao40, co40, eo40⟩ := Kd.R_slice HO146.out
    (first | subst eo40 | (injection eo40 with f1_ f2_ f3_; have f4_ := f1_.symm; have f5_ := f3_.symm; clear f1_ f2_ f3_; subst f4_; subst f5_))
    refine hK.out _ _ ⟨blk_cell BK134.out 0, blk_cell BK134.out 1, blk_cell BK125.out 0, blk_cell BK125.out 1⟩ (fun hHeld => ?_)
    clear hK K
    refine norm_ (a' := ?_) ?_ ?_
    rotate_left
    · show Act.put _ (some 47) _ = _; simp only [Act.put, List.setIfInBounds_toArray, List.set_cons_zero, List.set_cons_succ, i64_w, i32_w]; rfl
    refine pure_ (i := 7) (N := some 48) (v := ?_) (a' := ?_) #[true, true, true, true, true, true, true, true, false] rfl rfl (any_of HT_.out (by kernel_rfl)) (fun _ _ _ h => h) (Or.inl ⟨by rfl, ?_⟩) ?_ ?_
    rotate_left
    · intro w'
      go_simp
      with_reducible rfl
    rotate_left
    · simp only [Act.put, List.setIfInBounds_toArray, List.set_cons_zero, List.set_cons_succ, i64_w, i32_w]; rfl
    refine last_ (i := 8) (N := none) #[true, true, true, true, true, true, true, true, true] rfl rfl (one_of HT_.out (by kernel_rfl)) (by decide) (fun K hK => ?_)
    have hs41 : w39.cell? ⟨gb134, 1, none⟩ = some (u135001) := blk_cell BK134.out 1
    have hfs41 := blk_frozen BK134.out 1
    have hns41_0 := NB125_134.out
    have hns41_1 := NB126_134.out
    have hms41_0 := NB134_125.out
    have hms41_1 := NB134_126.out
    refine skip_ (w1 := ?_) (by rfl) rfl ?_ ?_
    rotate_left
    · go_simp; rfl
    refine hK.out _ _ ?_
    clear hK K
    refine done_ (done_of HT_.out (by kernel_rfl)) ?_
    try go_wp2
    go_loopg [14, 15] k1 (fun kq v14 v15 w' => ∃ (x14_2 : List Int) (x15_2 : Int), v15 = .int .i64 x15_2 ∧ Aside0 (atlas_changed.l1 kq a2 x14_2 x15_2 (wrap64 (a0_0 + 1)) y144 = some (r1, r2, r3, r4)) ∧ Aside0 (kq ≤ k1) ∧ Aside0 (Kd.R (Kd.int .i64) 3 w' w.heap.size (fun _ => True) v14 x14_2) ∧ Aside0 (Kd.R k30 30 w' w.heap.size (fun _ => True) (.slice Ao40 y144.length co40) y144) ∧ Aside0 (w'.heap[gb125]? = some (.cells #[.int .i64 a0_0, (.slice A0_1 l0_1.length c0_1)] 35 (0, 0))) ∧ Aside0 (w'.heap[gb126]? = some (.cells #[.int .i64 0, (.slice none 0 0)] 35 (0, 0))) ∧ Aside0 (w'.heap[gb134]? = some (.cells #[.int .i64 (wrap64 (a0_0 + 1)), (.slice Ao40 y144.length co40)] 35 (0, 0))) ∧ Aside0 (Below w.heap.size w w'))
    case atStart => exact ⟨(([] : List Int)), (a1), (by first | rfl | (simp; done) | (simp [*]; done)), H', ⟨Nat.le_refl _⟩, ⟨by first | exact Kd.R_nil _ _ _ _ _ | exact Kd.N_nil _ _ _ _ _ | exact Kd.V_nil _ _ _ _ _ | exact Kd.Q_nil _ _ _ _ _ | exact Kd.S_nil _ _ _ _ _⟩, ⟨by (with_reducible repeat (first | apply Kd.R_alloc | apply Kd.R_drewN | apply Kd.R_drew)); exact Kd.R_mono (Kd.R_far (p := ⟨gb134, 1, none⟩) (Kd.R_types HO146.out BK134.out (by decide)) (fun _ hk => hk.2) (.slice Ao40 y144.length co40)) (fun _ hk => trivial)⟩, ⟨by (with_reducible repeat (first | refine blk_drewN ?_ _ | refine blk_drew ?_ | refine blk_alloc ?_ _)); refine blk_far ?_ NB125_134.out _; (with_reducible repeat (first | refine blk_drewN ?_ _ | refine blk_drew ?_ | refine blk_alloc ?_ _)); exact BK125.out⟩, ⟨by (with_reducible repeat (first | refine blk_drewN ?_ _ | refine blk_drew ?_ | refine blk_alloc ?_ _)); refine blk_far ?_ NB126_134.out _; (with_reducible repeat (first | refine blk_drewN ?_ _ | refine blk_drew ?_ | refine blk_alloc ?_ _)); exact BK126.out⟩, ⟨by (with_reducible repeat (first | refine blk_drewN ?_ _ | refine blk_drew ?_ | refine blk_alloc ?_ _)); refine blk_put (cs := #[.int .i64 (wrap64 (a0_0 + 1)), u135001]) ?_ 1 _ rfl; (with_reducible repeat (first | refine blk_drewN ?_ _ | refine blk_drew ?_ | refine blk_alloc ?_ _)); exact BK134.out⟩, ⟨by repeat (first | (with_reducible first | exact HB.out | apply below_alloc | apply pw_below_drewN | apply below_drew1 | refine below_set ?_ GE125.out | refine below_set ?_ GE126.out | refine below_set ?_ GE134.out) | exact HB.out)⟩⟩
    case round =>
     clear H'
     try clear c1
     try clear p1
     try clear q1
     try clear hx1
     try clear c2
     try clear p2
     try clear c3
     try clear q3
     try clear c5
     try clear c5b0
     try clear c5b1
     try clear c6
     try clear c6b0
     try clear c6b1
     try clear p6
     try clear c8
     try clear q11
     try clear p13
     try clear q13
     try clear hx13
     try clear c19
     try clear c19b0
     try clear c20
     try clear c20b0
     try clear c21
     try clear c21b0
     try clear c22
     try clear c24
     try clear c25
     try clear c26
     try clear c28
     try clear c29
     try clear c34
     try clear c34b0
     try clear c34b1
     try clear c35
     try clear c35b0
     try clear c35b1
     try clear c36
     try clear c38
     try clear q38
     try clear hcz27_0
     try clear hcz27_1
     try clear hcz27_2
     try clear hcz27_3
     try clear hcz30_0
     try clear hcz30_1
     try clear hcz33_0
     try clear hcz33_1
     try clear hfz27_0
     try clear hfz27_1
     try clear hfz27_2
     try clear hfz27_3
     try clear hfz30_0
     try clear hfz30_1
     try clear hfz33_0
     try clear hfz33_1
     try clear hx135_0
     try clear hx135_1
     try clear hx135_2
     try clear hx135_3
     try clear p135
     try clear p2
     try clear p6
     try clear q038
     try clear q1
     try clear q11
     try clear q135
     try clear q38
     obtain ⟨x14_2, x15_2, rfl, HA, HK2, HO_14, HO_135001, BK125, BK126, BK134, HB⟩ := hrel
     cases gk with
     | zero => exact absurd HA.out (by simp [atlas_changed.l1])
     | succ k2 =>
      have H := HA.out
      clear HA
      simp only [atlas_changed.l1] at H
      by_cases c42 : x15_2 < a2
      rotate_left
      ·
       rw [if_neg c42] at H
       have c42b0 : decide (x15_2 < a2) = false := decide_eq_false c42
       clear c42
       simp only [Option.some.injEq, Prod.mk.injEq] at H
       obtain ⟨rfl, rfl, rfl, rfl⟩ := H
       have hnb45 := NB134_125.out
       have hnc45 := NB125_134.out
       have hnb46 := NB134_126.out
       have hnc46 := NB126_134.out
       have hcz47_0 : wr.cell? ⟨gb134, 0, none⟩ = some (.int .i64 (wrap64 (a0_0 + 1))) := blk_cell BK134.out 0
       have hcz47_1 : wr.cell? ⟨gb134, 1, none⟩ = some (.slice Ao40 y144.length co40) := blk_cell BK134.out 1
       have hfz47_0 := blk_frozen BK134.out 0
       have hfz47_1 := blk_frozen BK134.out 1
       have hnb48 := NB126_125.out
       have hnc48 := NB125_126.out
       have hcz49_0 : wr.cell? ⟨gb126, 0, none⟩ = some (.int .i64 0) := blk_cell BK126.out 0
       have hcz49_1 : wr.cell? ⟨gb126, 1, none⟩ = some (.slice none 0 0) := blk_cell BK126.out 1
       have hfz49_0 := blk_frozen BK126.out 0
       have hfz49_1 := blk_frozen BK126.out 1
       go_wp2
       refine bodyPost_ret (results_ctt rfl _ _ gb126 35 #[.int .i64 (wrap64 (a0_0 + 1)), .slice Ao40 y144.length co40] (0, 0) _ rfl (by (with_reducible repeat (first | refine blk_drewN ?_ _ | refine blk_drew ?_ | refine blk_alloc ?_ _)); refine blk_put (cs := #[.int .i64 (wrap64 (a0_0 + 1)), .slice none 0 0]) ?_ 1 _ rfl; (with_reducible repeat (first | refine blk_drewN ?_ _ | refine blk_drew ?_ | refine blk_alloc ?_ _)); refine blk_put (cs := #[.int .i64 0, .slice none 0 0]) ?_ 0 _ rfl; (with_reducible repeat (first | refine blk_drewN ?_ _ | refine blk_drew ?_ | refine blk_alloc ?_ _)); exact BK126.out) Try.underlying35 rfl (by kernel_rfl)) rfl ?_
       exact ⟨_, _, by first | rfl | (simp [errW_none, errW_some] <;> rfl) | (simp [*, errW_none, errW_some] <;> rfl), by (with_reducible repeat (first | apply Kd.R_alloc | apply Kd.R_drewN | apply Kd.R_drew)); exact Kd.R_mono (Kd.R_far (p := ⟨gb126, 1, none⟩) (Kd.R_far (p := ⟨gb126, 0, none⟩) (Kd.R_types HO_135001.out BK126.out (by decide)) (fun _ hk => hk.2) (.int .i64 (wrap64 (a0_0 + 1)))) (fun _ hk => hk.2) (.slice Ao40 y144.length co40)) (fun _ hk => trivial), by (with_reducible repeat (first | apply Kd.R_alloc | apply Kd.R_drewN | apply Kd.R_drew)); exact Kd.R_mono (Kd.R_far (p := ⟨gb126, 1, none⟩) (Kd.R_far (p := ⟨gb126, 0, none⟩) (Kd.R_types HO_14.out BK126.out (by decide)) (fun _ hk => hk.2) (.int .i64 (wrap64 (a0_0 + 1)))) (fun _ hk => hk.2) (.slice Ao40 y144.length co40)) (fun _ hk => trivial), by repeat (first | (with_reducible first | exact HB.out | apply below_alloc | apply pw_below_drewN | apply below_drew1 | refine below_set ?_ GE125.out | refine below_set ?_ GE126.out | refine below_set ?_ GE134.out) | exact HB.out)⟩
      rw [if_pos c42] at H
      have c42b0 : decide (x15_2 < a2) = true := decide_eq_true c42
      clear c42
      by_cases c43 : x14_2.length < 17592186044416
      rotate_left
      · rw [if_neg c43] at H
        exact absurd H (by simp)
      rw [if_pos c43] at H
      have LMc43 := Aside0.mk c43
      clear c43
      obtain ⟨y147, hy147⟩ : ∃ y_ : List Int, y_ = (x14_2 ++ [x15_2]) := ⟨_, rfl⟩
      replace H : (atlas_changed.l1 k2 a2 y147 (wrap64 (x15_2 + 1)) (wrap64 (a0_0 + 1)) y144) = some (r1, r2, r3, r4) := by first | (rw [hy147]; with_reducible exact H) | (have H2_ := (Option.bind_some _ _).symm.trans H; rw [hy147]; with_reducible exact H2_) | (have H2_ := (Option.bind_some _ _).symm.trans H; with_reducible exact H2_) | with_reducible exact H | (rw [hy147]; exact H) | exact H
      have Ny147 := Aside0.mk hy147
      clear hy147
      have H' := Aside0.mk H
      clear H
      go_wp2_with (first | ((with_reducible refine gate_builtin (b := .append) (xs := #[.tmp 55, .tmp 57]) rfl ?_); at_builtin; refine Kd.R_append (Kd.int .i64) (w0 := w) w.heap.size rfl (.tmp 55) (.tmp 57) 52 3 (.int .i64 0) 8 rfl Try.underlying52 info3 rfl (by decide) (by omega) u14 x14_2 x15_2 [.int .i64 x15_2] (fun _ => True) (fun _ => False) rfl rfl ?aP (fun _ hk => hk.elim) ?aF ?aO ?aB ?aS ?aL ?_; (case aP => exact rfl); (case aB => exact (pB HB.out)); (case aF => exact (fun _ _ => trivial)); (case aO => exact (pR HO_14.out)); (case aS => exact (below_size (pB HB.out))); (case aL => have := LMc43.out; omega); intro v148 w44 ho hb hg hat; rw [← Ny147.out] at ho; have HO149 := Aside0.mk (ho); replace HO_135001 := Aside0.mk (Kd.R_over' (pR HO_135001.out) (Kd.R_typed (pR HO_14.out)) (by decide) hg); replace BK125 := Aside0.mk (blk_grown (g := gb125) (o := .cells #[.int .i64 a0_0, .slice A0_1 l0_1.length c0_1] 35 (0, 0)) (pb BK125.out) hg (Kd.R_ne HO_14.out BK125.out (by decide))); replace BK126 := Aside0.mk (blk_grown (g := gb126) (o := .cells #[.int .i64 0, .slice none 0 0] 35 (0, 0)) (pb BK126.out) hg (Kd.R_ne HO_14.out BK126.out (by decide))); replace BK134 := Aside0.mk (blk_grown (g := gb134) (o := .cells #[.int .i64 (wrap64 (a0_0 + 1)), .slice Ao40 y144.length co40] 35 (0, 0)) (pb BK134.out) hg (Kd.R_ne HO_14.out BK134.out (by decide))); replace HB := Aside0.mk (hb); clear HO_14; clear ho hb hg hat))
      go_roundg k2
      case measure => have := HK1.out; have := HK2.out; omega
      case rel => exact ⟨(y147), (wrap64 (x15_2 + 1)), (by first | rfl | (simp; done) | (simp [*]; done)), H', ⟨by have := HK1.out; have := HK2.out; omega⟩, ⟨by (with_reducible repeat (first | apply Kd.R_alloc | apply Kd.R_drewN | apply Kd.R_drew)); exact HO149.out⟩, ⟨by (with_reducible repeat (first | apply Kd.R_alloc | apply Kd.R_drewN | apply Kd.R_drew)); exact HO_135001.out⟩, ⟨by (with_reducible repeat (first | refine blk_drewN ?_ _ | refine blk_drew ?_ | refine blk_alloc ?_ _)); exact BK125.out⟩, ⟨by (with_reducible repeat (first | refine blk_drewN ?_ _ | refine blk_drew ?_ | refine blk_alloc ?_ _)); exact BK126.out⟩, ⟨by (with_reducible repeat (first | refine blk_drewN ?_ _ | refine blk_drew ?_ | refine blk_alloc ?_ _)); exact BK134.out⟩, ⟨by repeat (first | (with_reducible first | exact HB.out | apply below_alloc | apply pw_below_drewN | apply below_drew1 | refine below_set ?_ GE125.out | refine below_set ?_ GE126.out | refine below_set ?_ GE134.out) | exact HB.out)⟩⟩
end Go.Proofs.Ytbajekndbamcmaa.PAtlasBack

-- printed by a program of this session (wip/tools), a turned form of the kit's print
import Derived.Test.YtdeepnpbibhfiaaPOnceMergesx0
import Derived.Test.YtdeepnpbibhfiaaPOnceMergesx1
namespace Go.Proofs.Ytdeepnpbibhfiaa.POnceMerges
open Go.RowKit Go.Proofs.YtdeepnpbibhfiaaW.PrintWords Go.Proofs.YtdeepnpbibhfiaaW.PrintLast Go.Proofs.YtdeepnpbibhfiaaW.PrintMore
attribute [local go_sem] max2_int min2_int max_two min_two max_three min_three max_four min_four max2_str min2_str str_geq str_leq str_gtr   -- for this text's walks alone
set_option linter.unusedVariables false
set_option linter.unusedSimpArgs false

attribute [local go_sem high] eqA71
/-! ### gazetteerref5_SameReply: function 24 -/
mutual
def gazetteerref5_SameReply.j0 : Nat → Bool → Int → Int → Int → Bool → ByteArray → List (S71) → ByteArray → Bool → Int → Int → Int → Bool → ByteArray → List (S71) → ByteArray → Bool → Option (Bool)
  | 0, _, _, _, _, _, _, _, _, _, _, _, _, _, _, _, _, _ => none
  | k + 1, x61, x113000, x113001, x113002, x113003, x113004, x113005, x113006, x113007, x114000, x114001, x114002, x114003, x114004, x114005, x114006, x114007 => if x61 = true then (some false) else (gazetteerref5_SameReply.l0 k 0 x113000 x113001 x113002 x113003 x113004 x113005 x113006 x113007 x114000 x114001 x114002 x114003 x114004 x114005 x114006 x114007)
def gazetteerref5_SameReply.l0 : Nat → Int → Int → Int → Int → Bool → ByteArray → List (S71) → ByteArray → Bool → Int → Int → Int → Bool → ByteArray → List (S71) → ByteArray → Bool → Option (Bool)
  | 0, _, _, _, _, _, _, _, _, _, _, _, _, _, _, _, _, _ => none
  | k + 1, x5, x113000, x113001, x113002, x113003, x113004, x113005, x113006, x113007, x114000, x114001, x114002, x114003, x114004, x114005, x114006, x114007 => if x5 < (x113005.length : Int) then (if 0 ≤ x5 then (if x5 < (x114005.length : Int) then (if (!((((rd_T71 x113005 x5).f0).toList) == (((rd_T71 x114005 x5).f0).toList)) || (!((((rd_T71 x113005 x5).f1).toList) == (((rd_T71 x114005 x5).f1).toList)))) = true then (some false) else (gazetteerref5_SameReply.l0 k (wrap64 (x5 + 1)) x113000 x113001 x113002 x113003 x113004 x113005 x113006 x113007 x114000 x114001 x114002 x114003 x114004 x114005 x114006 x114007)) else (none)) else (none)) else (some true)
end
def gazetteerref5_SameReply.f (k : Nat) (a0_0 : Int) (a0_1 : Int) (a0_2 : Int) (a0_3 : Bool) (a0_4 : ByteArray) (l0_5 : List (S71)) (a0_6 : ByteArray) (a0_7 : Bool) (a1_0 : Int) (a1_1 : Int) (a1_2 : Int) (a1_3 : Bool) (a1_4 : ByteArray) (l1_5 : List (S71)) (a1_6 : ByteArray) (a1_7 : Bool) : Option (Bool) := if a0_0 = a1_0 then (if a0_1 = a1_1 then (if a0_2 = a1_2 then (if (a0_3 != a1_3) = true then (gazetteerref5_SameReply.j0 k true a0_0 a0_1 a0_2 a0_3 a0_4 l0_5 a0_6 a0_7 a1_0 a1_1 a1_2 a1_3 a1_4 l1_5 a1_6 a1_7) else (if a0_4.toList = a1_4.toList then (if a0_6.toList = a1_6.toList then (if (a0_7 != a1_7) = true then (gazetteerref5_SameReply.j0 k true a0_0 a0_1 a0_2 a0_3 a0_4 l0_5 a0_6 a0_7 a1_0 a1_1 a1_2 a1_3 a1_4 l1_5 a1_6 a1_7) else (gazetteerref5_SameReply.j0 k ((l0_5.length : Int) != (l1_5.length : Int)) a0_0 a0_1 a0_2 a0_3 a0_4 l0_5 a0_6 a0_7 a1_0 a1_1 a1_2 a1_3 a1_4 l1_5 a1_6 a1_7)) else (gazetteerref5_SameReply.j0 k true a0_0 a0_1 a0_2 a0_3 a0_4 l0_5 a0_6 a0_7 a1_0 a1_1 a1_2 a1_3 a1_4 l1_5 a1_6 a1_7)) else (gazetteerref5_SameReply.j0 k true a0_0 a0_1 a0_2 a0_3 a0_4 l0_5 a0_6 a0_7 a1_0 a1_1 a1_2 a1_3 a1_4 l1_5 a1_6 a1_7))) else (gazetteerref5_SameReply.j0 k true a0_0 a0_1 a0_2 a0_3 a0_4 l0_5 a0_6 a0_7 a1_0 a1_1 a1_2 a1_3 a1_4 l1_5 a1_6 a1_7)) else (gazetteerref5_SameReply.j0 k true a0_0 a0_1 a0_2 a0_3 a0_4 l0_5 a0_6 a0_7 a1_0 a1_1 a1_2 a1_3 a1_4 l1_5 a1_6 a1_7)) else (gazetteerref5_SameReply.j0 k true a0_0 a0_1 a0_2 a0_3 a0_4 l0_5 a0_6 a0_7 a1_0 a1_1 a1_2 a1_3 a1_4 l1_5 a1_6 a1_7)
theorem gazetteerref5_SameReply.mono_l : ∀ k, (∀ y0 y1 y2 y3 y4 y5 y6 y7 y8 y9 y10 y11 y12 y13 y14 y15 y16, LeO (gazetteerref5_SameReply.j0 k y0 y1 y2 y3 y4 y5 y6 y7 y8 y9 y10 y11 y12 y13 y14 y15 y16) (gazetteerref5_SameReply.j0 (k + 1) y0 y1 y2 y3 y4 y5 y6 y7 y8 y9 y10 y11 y12 y13 y14 y15 y16)) ∧ (∀ y0 y1 y2 y3 y4 y5 y6 y7 y8 y9 y10 y11 y12 y13 y14 y15 y16, LeO (gazetteerref5_SameReply.l0 k y0 y1 y2 y3 y4 y5 y6 y7 y8 y9 y10 y11 y12 y13 y14 y15 y16) (gazetteerref5_SameReply.l0 (k + 1) y0 y1 y2 y3 y4 y5 y6 y7 y8 y9 y10 y11 y12 y13 y14 y15 y16))
  | 0 => ⟨fun _ _ _ _ _ _ _ _ _ _ _ _ _ _ _ _ _ r h => by simp [gazetteerref5_SameReply.j0] at h, fun _ _ _ _ _ _ _ _ _ _ _ _ _ _ _ _ _ r h => by simp [gazetteerref5_SameReply.l0] at h⟩
  | k + 1 => by
    obtain ⟨ih0, ih1⟩ := gazetteerref5_SameReply.mono_l k
    refine ⟨?_, ?_⟩
    · intro y0 y1 y2 y3 y4 y5 y6 y7 y8 y9 y10 y11 y12 y13 y14 y15 y16
      unfold gazetteerref5_SameReply.j0
      repeat' first
      | (with_reducible exact ih0 _ _ _ _ _ _ _ _ _ _ _ _ _ _ _ _ _)
      | (with_reducible exact ih1 _ _ _ _ _ _ _ _ _ _ _ _ _ _ _ _ _)
      | (with_reducible exact LeO.refl _)
      | (with_reducible exact LeO.none _)
      | (with_reducible refine LeO.ite ?_ ?_)
      | (with_reducible refine LeO.bind ?_ (fun _ => ?_))
      | exact ih0 _ _ _ _ _ _ _ _ _ _ _ _ _ _ _ _ _
      | exact ih1 _ _ _ _ _ _ _ _ _ _ _ _ _ _ _ _ _
      | exact LeO.none _
      | refine LeO.ite ?_ ?_
      | refine LeO.bind ?_ (fun _ => ?_)
    · intro y0 y1 y2 y3 y4 y5 y6 y7 y8 y9 y10 y11 y12 y13 y14 y15 y16
      unfold gazetteerref5_SameReply.l0
      repeat' first
      | (with_reducible exact ih0 _ _ _ _ _ _ _ _ _ _ _ _ _ _ _ _ _)
      | (with_reducible exact ih1 _ _ _ _ _ _ _ _ _ _ _ _ _ _ _ _ _)
      | (with_reducible exact LeO.refl _)
      | (with_reducible exact LeO.none _)
      | (with_reducible refine LeO.ite ?_ ?_)
      | (with_reducible refine LeO.bind ?_ (fun _ => ?_))
      | exact ih0 _ _ _ _ _ _ _ _ _ _ _ _ _ _ _ _ _
      | exact ih1 _ _ _ _ _ _ _ _ _ _ _ _ _ _ _ _ _
      | exact LeO.none _
      | refine LeO.ite ?_ ?_
      | refine LeO.bind ?_ (fun _ => ?_)
theorem gazetteerref5_SameReply.mono : ∀ a0 a1 a2 a3 a4 a5 a6 a7 a8 a9 a10 a11 a12 a13 a14 a15 k, LeO (gazetteerref5_SameReply.f k a0 a1 a2 a3 a4 a5 a6 a7 a8 a9 a10 a11 a12 a13 a14 a15) (gazetteerref5_SameReply.f (k + 1) a0 a1 a2 a3 a4 a5 a6 a7 a8 a9 a10 a11 a12 a13 a14 a15) := by
  intro a0 a1 a2 a3 a4 a5 a6 a7 a8 a9 a10 a11 a12 a13 a14 a15 k
  obtain ⟨ih0, ih1⟩ := gazetteerref5_SameReply.mono_l k
  unfold gazetteerref5_SameReply.f
  repeat' first
      | (with_reducible exact ih0 _ _ _ _ _ _ _ _ _ _ _ _ _ _ _ _ _)
      | (with_reducible exact ih1 _ _ _ _ _ _ _ _ _ _ _ _ _ _ _ _ _)
      | (with_reducible exact LeO.refl _)
      | (with_reducible exact LeO.none _)
      | (with_reducible refine LeO.ite ?_ ?_)
      | (with_reducible refine LeO.bind ?_ (fun _ => ?_))
      | exact ih0 _ _ _ _ _ _ _ _ _ _ _ _ _ _ _ _ _
      | exact ih1 _ _ _ _ _ _ _ _ _ _ _ _ _ _ _ _ _
      | exact LeO.none _
      | refine LeO.ite ?_ ?_
      | refine LeO.bind ?_ (fun _ => ?_)
set_option maxHeartbeats 8000000 in
set_option maxRecDepth 100000 in
theorem gazetteerref5_SameReply.calls (k : Nat) (a0_0 : Int) (a0_1 : Int) (a0_2 : Int) (a0_3 : Bool) (a0_4 : ByteArray) (A0_5 : Option Addr) (c0_5 : Nat) (l0_5 : List (S71)) (a0_6 : ByteArray) (a0_7 : Bool) (a1_0 : Int) (a1_1 : Int) (a1_2 : Int) (a1_3 : Bool) (a1_4 : ByteArray) (A1_5 : Option Addr) (c1_5 : Nat) (l1_5 : List (S71)) (a1_6 : ByteArray) (a1_7 : Bool) (r : Bool) (w : World) (hr0_5 : Kd.C k71 w A0_5 l0_5.length l0_5) (hc0_5 : l0_5.length ≤ c0_5) (hr1_5 : Kd.C k71 w A1_5 l1_5.length l1_5) (hc1_5 : l1_5.length ≤ c1_5) (h : gazetteerref5_SameReply.f k a0_0 a0_1 a0_2 a0_3 a0_4 l0_5 a0_6 a0_7 a1_0 a1_1 a1_2 a1_3 a1_4 l1_5 a1_6 a1_7 = some r) :
    Calls Try.prog 24 #[.agg #[.int .i64 a0_0, .int .i64 a0_1, .int .i64 a0_2, .bool a0_3, .string a0_4, .slice A0_5 l0_5.length c0_5, .string a0_6, .bool a0_7], .agg #[.int .i64 a1_0, .int .i64 a1_1, .int .i64 a1_2, .bool a1_3, .string a1_4, .slice A1_5 l1_5.length c1_5, .string a1_6, .bool a1_7]] w fun e w' => e = .returned (.bool r) ∧ Below w.heap.size w w' := by
  have hu33 := Try.underlying33
  have hu71 := Try.underlying71
  have HR0_5 := Aside0.mk hr0_5
  have HC0_5 := Aside0.mk hc0_5
  clear hr0_5 hc0_5
  have HR1_5 := Aside0.mk hr1_5
  have HC1_5 := Aside0.mk hc1_5
  clear hr1_5 hc1_5
  have HB := Aside0.mk (Below.refl w.heap.size w)
  have H : (if a0_0 = a1_0 then (if a0_1 = a1_1 then (if a0_2 = a1_2 then (if (a0_3 != a1_3) = true then (gazetteerref5_SameReply.j0 k true a0_0 a0_1 a0_2 a0_3 a0_4 l0_5 a0_6 a0_7 a1_0 a1_1 a1_2 a1_3 a1_4 l1_5 a1_6 a1_7) else (if a0_4.toList = a1_4.toList then (if a0_6.toList = a1_6.toList then (if (a0_7 != a1_7) = true then (gazetteerref5_SameReply.j0 k true a0_0 a0_1 a0_2 a0_3 a0_4 l0_5 a0_6 a0_7 a1_0 a1_1 a1_2 a1_3 a1_4 l1_5 a1_6 a1_7) else (gazetteerref5_SameReply.j0 k ((l0_5.length : Int) != (l1_5.length : Int)) a0_0 a0_1 a0_2 a0_3 a0_4 l0_5 a0_6 a0_7 a1_0 a1_1 a1_2 a1_3 a1_4 l1_5 a1_6 a1_7)) else (gazetteerref5_SameReply.j0 k true a0_0 a0_1 a0_2 a0_3 a0_4 l0_5 a0_6 a0_7 a1_0 a1_1 a1_2 a1_3 a1_4 l1_5 a1_6 a1_7)) else (gazetteerref5_SameReply.j0 k true a0_0 a0_1 a0_2 a0_3 a0_4 l0_5 a0_6 a0_7 a1_0 a1_1 a1_2 a1_3 a1_4 l1_5 a1_6 a1_7))) else (gazetteerref5_SameReply.j0 k true a0_0 a0_1 a0_2 a0_3 a0_4 l0_5 a0_6 a0_7 a1_0 a1_1 a1_2 a1_3 a1_4 l1_5 a1_6 a1_7)) else (gazetteerref5_SameReply.j0 k true a0_0 a0_1 a0_2 a0_3 a0_4 l0_5 a0_6 a0_7 a1_0 a1_1 a1_2 a1_3 a1_4 l1_5 a1_6 a1_7)) else (gazetteerref5_SameReply.j0 k true a0_0 a0_1 a0_2 a0_3 a0_4 l0_5 a0_6 a0_7 a1_0 a1_1 a1_2 a1_3 a1_4 l1_5 a1_6 a1_7)) = some r := h
  clear h
  have HC3 := Aside0.mk H
  clear H
  go_enter Try.func24, Try.ntmps24
  go_upto_region 1 with (first | ((with_reducible refine gate_dst (N := 2) rfl ?_); (try (refine gate_guard (by rfl) ?_; dsimp only)); refine box_event ?hg (N := 2) ?hd (cs := #[.int .i64 a0_0, .int .i64 a0_1, .int .i64 a0_2, .bool a0_3, .string a0_4, .slice A0_5 l0_5.length c0_5, .string a0_6, .bool a0_7]) (t := 33) ?hr ?_; (case hd => rfl); (case hg => rfl); (case hr => first | (go_simp; done) | (go_simp; rfl)); intro gb112 hg w4 hbox hb; have n0_ := Aside0.mk (below_step (by repeat (first | (with_reducible first | exact HB.out | apply below_alloc | apply pw_below_drewN | apply below_drew1) | exact HB.out)) hb); have n1_ := Aside0.mk (hbox); have n2_ := Aside0.mk ((by rw [hg]; exact (below_size (by repeat (first | (with_reducible first | exact HB.out | apply below_alloc | apply pw_below_drewN | apply below_drew1) | exact HB.out))) : w.heap.size ≤ gb112)); have n3_ := Aside0.mk ((by rw [hg]; exact (below_size (by repeat (first | (with_reducible first | exact HB.out | apply below_alloc | apply pw_below_drewN | apply below_drew1) | exact HB.out))) : w.heap.size ≤ gb112)); clear HB; have HB := n0_; have BK112 := n1_; have GW112 := n2_; have GE112 := n3_; clear n0_ n1_ n2_ n3_; clear hb hbox hg) | ((with_reducible refine gate_dst (N := 3) rfl ?_); (try (refine gate_guard (by rfl) ?_; dsimp only)); refine box_event ?hg (N := 3) ?hd (cs := #[.int .i64 a1_0, .int .i64 a1_1, .int .i64 a1_2, .bool a1_3, .string a1_4, .slice A1_5 l1_5.length c1_5, .string a1_6, .bool a1_7]) (t := 33) ?hr ?_; (case hd => rfl); (case hg => rfl); (case hr => first | (go_simp; done) | (go_simp; rfl)); intro gb113 hg w5 hbox hb; have n0_ := Aside0.mk (blk_below (g := gb112) (o := .cells #[.int .i64 a0_0, .int .i64 a0_1, .int .i64 a0_2, .bool a0_3, .string a0_4, .slice A0_5 l0_5.length c0_5, .string a0_6, .bool a0_7] 33 (0, 0)) (by (with_reducible repeat (first | refine blk_drewN ?_ _ | refine blk_drew ?_ | refine blk_alloc ?_ _)); exact BK112.out) hb); have n1_ := Aside0.mk (below_step (by repeat (first | (with_reducible first | exact HB.out | apply below_alloc | apply pw_below_drewN | apply below_drew1 | refine below_set ?_ GE112.out) | exact HB.out)) hb); have n2_ := Aside0.mk (hbox); have n3_ := Aside0.mk ((by rw [hg]; exact (below_size (by repeat (first | (with_reducible first | exact HB.out | apply below_alloc | apply pw_below_drewN | apply below_drew1 | refine below_set ?_ GE112.out) | exact HB.out))) : w.heap.size ≤ gb113)); have n4_ := Aside0.mk ((by rw [hg]; exact (below_size (by repeat (first | (with_reducible first | exact HB.out | apply below_alloc | apply pw_below_drewN | apply below_drew1 | refine below_set ?_ GE112.out) | exact HB.out))) : w.heap.size ≤ gb113)); have n5_ := Aside0.mk ((by rw [hg]; exact Nat.ne_of_lt (blk_lt (g := gb112) (o := .cells #[.int .i64 a0_0, .int .i64 a0_1, .int .i64 a0_2, .bool a0_3, .string a0_4, .slice A0_5 l0_5.length c0_5, .string a0_6, .bool a0_7] 33 (0, 0)) (by (with_reducible repeat (first | refine blk_drewN ?_ _ | refine blk_drew ?_ | refine blk_alloc ?_ _)); exact BK112.out)) : gb112 ≠ gb113)); have n6_ := Aside0.mk ((by rw [hg]; exact Nat.ne_of_gt (blk_lt (g := gb112) (o := .cells #[.int .i64 a0_0, .int .i64 a0_1, .int .i64 a0_2, .bool a0_3, .string a0_4, .slice A0_5 l0_5.length c0_5, .string a0_6, .bool a0_7] 33 (0, 0)) (by (with_reducible repeat (first | refine blk_drewN ?_ _ | refine blk_drew ?_ | refine blk_alloc ?_ _)); exact BK112.out)) : gb113 ≠ gb112)); clear BK112; clear HB; have BK112 := n0_; have HB := n1_; have BK113 := n2_; have GW113 := n3_; have GE113 := n4_; have NB112_113 := n5_; have NB113_112 := n6_; clear n0_ n1_ n2_ n3_ n4_ n5_ n6_; clear hb hbox hg))
  repeat (go_quiet (first | ((with_reducible refine gate_dst (N := 2) rfl ?_); (try (refine gate_guard (by rfl) ?_; dsimp only)); refine box_event ?hg (N := 2) ?hd (cs := #[.int .i64 a0_0, .int .i64 a0_1, .int .i64 a0_2, .bool a0_3, .string a0_4, .slice A0_5 l0_5.length c0_5, .string a0_6, .bool a0_7]) (t := 33) ?hr ?_; (case hd => rfl); (case hg => rfl); (case hr => first | (go_simp; done) | (go_simp; rfl)); intro gb112 hg w4 hbox hb; have n0_ := Aside0.mk (below_step (by repeat (first | (with_reducible first | exact HB.out | apply below_alloc | apply pw_below_drewN | apply below_drew1) | exact HB.out)) hb); have n1_ := Aside0.mk (hbox); have n2_ := Aside0.mk ((by rw [hg]; exact (below_size (by repeat (first | (with_reducible first | exact HB.out | apply below_alloc | apply pw_below_drewN | apply below_drew1) | exact HB.out))) : w.heap.size ≤ gb112)); have n3_ := Aside0.mk ((by rw [hg]; exact (below_size (by repeat (first | (with_reducible first | exact HB.out | apply below_alloc | apply pw_below_drewN | apply below_drew1) | exact HB.out))) : w.heap.size ≤ gb112)); clear HB; have HB := n0_; have BK112 := n1_; have GW112 := n2_; have GE112 := n3_; clear n0_ n1_ n2_ n3_; clear hb hbox hg) | ((with_reducible refine gate_dst (N := 3) rfl ?_); (try (refine gate_guard (by rfl) ?_; dsimp only)); refine box_event ?hg (N := 3) ?hd (cs := #[.int .i64 a1_0, .int .i64 a1_1, .int .i64 a1_2, .bool a1_3, .string a1_4, .slice A1_5 l1_5.length c1_5, .string a1_6, .bool a1_7]) (t := 33) ?hr ?_; (case hd => rfl); (case hg => rfl); (case hr => first | (go_simp; done) | (go_simp; rfl)); intro gb113 hg w5 hbox hb; have n0_ := Aside0.mk (blk_below (g := gb112) (o := .cells #[.int .i64 a0_0, .int .i64 a0_1, .int .i64 a0_2, .bool a0_3, .string a0_4, .slice A0_5 l0_5.length c0_5, .string a0_6, .bool a0_7] 33 (0, 0)) (by (with_reducible repeat (first | refine blk_drewN ?_ _ | refine blk_drew ?_ | refine blk_alloc ?_ _)); exact BK112.out) hb); have n1_ := Aside0.mk (below_step (by repeat (first | (with_reducible first | exact HB.out | apply below_alloc | apply pw_below_drewN | apply below_drew1 | refine below_set ?_ GE112.out) | exact HB.out)) hb); have n2_ := Aside0.mk (hbox); have n3_ := Aside0.mk ((by rw [hg]; exact (below_size (by repeat (first | (with_reducible first | exact HB.out | apply below_alloc | apply pw_below_drewN | apply below_drew1 | refine below_set ?_ GE112.out) | exact HB.out))) : w.heap.size ≤ gb113)); have n4_ := Aside0.mk ((by rw [hg]; exact (below_size (by repeat (first | (with_reducible first | exact HB.out | apply below_alloc | apply pw_below_drewN | apply below_drew1 | refine below_set ?_ GE112.out) | exact HB.out))) : w.heap.size ≤ gb113)); have n5_ := Aside0.mk ((by rw [hg]; exact Nat.ne_of_lt (blk_lt (g := gb112) (o := .cells #[.int .i64 a0_0, .int .i64 a0_1, .int .i64 a0_2, .bool a0_3, .string a0_4, .slice A0_5 l0_5.length c0_5, .string a0_6, .bool a0_7] 33 (0, 0)) (by (with_reducible repeat (first | refine blk_drewN ?_ _ | refine blk_drew ?_ | refine blk_alloc ?_ _)); exact BK112.out)) : gb112 ≠ gb113)); have n6_ := Aside0.mk ((by rw [hg]; exact Nat.ne_of_gt (blk_lt (g := gb112) (o := .cells #[.int .i64 a0_0, .int .i64 a0_1, .int .i64 a0_2, .bool a0_3, .string a0_4, .slice A0_5 l0_5.length c0_5, .string a0_6, .bool a0_7] 33 (0, 0)) (by (with_reducible repeat (first | refine blk_drewN ?_ _ | refine blk_drew ?_ | refine blk_alloc ?_ _)); exact BK112.out)) : gb113 ≠ gb112)); clear BK112; clear HB; have BK112 := n0_; have HB := n1_; have BK113 := n2_; have GW113 := n3_; have GE113 := n4_; have NB112_113 := n5_; have NB113_112 := n6_; clear n0_ n1_ n2_ n3_ n4_ n5_ n6_; clear hb hbox hg)); go_upto_region 1 with (first | ((with_reducible refine gate_dst (N := 2) rfl ?_); (try (refine gate_guard (by rfl) ?_; dsimp only)); refine box_event ?hg (N := 2) ?hd (cs := #[.int .i64 a0_0, .int .i64 a0_1, .int .i64 a0_2, .bool a0_3, .string a0_4, .slice A0_5 l0_5.length c0_5, .string a0_6, .bool a0_7]) (t := 33) ?hr ?_; (case hd => rfl); (case hg => rfl); (case hr => first | (go_simp; done) | (go_simp; rfl)); intro gb112 hg w4 hbox hb; have n0_ := Aside0.mk (below_step (by repeat (first | (with_reducible first | exact HB.out | apply below_alloc | apply pw_below_drewN | apply below_drew1) | exact HB.out)) hb); have n1_ := Aside0.mk (hbox); have n2_ := Aside0.mk ((by rw [hg]; exact (below_size (by repeat (first | (with_reducible first | exact HB.out | apply below_alloc | apply pw_below_drewN | apply below_drew1) | exact HB.out))) : w.heap.size ≤ gb112)); have n3_ := Aside0.mk ((by rw [hg]; exact (below_size (by repeat (first | (with_reducible first | exact HB.out | apply below_alloc | apply pw_below_drewN | apply below_drew1) | exact HB.out))) : w.heap.size ≤ gb112)); clear HB; have HB := n0_; have BK112 := n1_; have GW112 := n2_; have GE112 := n3_; clear n0_ n1_ n2_ n3_; clear hb hbox hg) | ((with_reducible refine gate_dst (N := 3) rfl ?_); (try (refine gate_guard (by rfl) ?_; dsimp only)); refine box_event ?hg (N := 3) ?hd (cs := #[.int .i64 a1_0, .int .i64 a1_1, .int .i64 a1_2, .bool a1_3, .string a1_4, .slice A1_5 l1_5.length c1_5, .string a1_6, .bool a1_7]) (t := 33) ?hr ?_; (case hd => rfl); (case hg => rfl); (case hr => first | (go_simp; done) | (go_simp; rfl)); intro gb113 hg w5 hbox hb; have n0_ := Aside0.mk (blk_below (g := gb112) (o := .cells #[.int .i64 a0_0, .int .i64 a0_1, .int .i64 a0_2, .bool a0_3, .string a0_4, .slice A0_5 l0_5.length c0_5, .string a0_6, .bool a0_7] 33 (0, 0)) (by (with_reducible repeat (first | refine blk_drewN ?_ _ | refine blk_drew ?_ | refine blk_alloc ?_ _)); exact BK112.out) hb); have n1_ := Aside0.mk (below_step (by repeat (first | (with_reducible first | exact HB.out | apply below_alloc | apply pw_below_drewN | apply below_drew1 | refine below_set ?_ GE112.out) | exact HB.out)) hb); have n2_ := Aside0.mk (hbox); have n3_ := Aside0.mk ((by rw [hg]; exact (below_size (by repeat (first | (with_reducible first | exact HB.out | apply below_alloc | apply pw_below_drewN | apply below_drew1 | refine below_set ?_ GE112.out) | exact HB.out))) : w.heap.size ≤ gb113)); have n4_ := Aside0.mk ((by rw [hg]; exact (below_size (by repeat (first | (with_reducible first | exact HB.out | apply below_alloc | apply pw_below_drewN | apply below_drew1 | refine below_set ?_ GE112.out) | exact HB.out))) : w.heap.size ≤ gb113)); have n5_ := Aside0.mk ((by rw [hg]; exact Nat.ne_of_lt (blk_lt (g := gb112) (o := .cells #[.int .i64 a0_0, .int .i64 a0_1, .int .i64 a0_2, .bool a0_3, .string a0_4, .slice A0_5 l0_5.length c0_5, .string a0_6, .bool a0_7] 33 (0, 0)) (by (with_reducible repeat (first | refine blk_drewN ?_ _ | refine blk_drew ?_ | refine blk_alloc ?_ _)); exact BK112.out)) : gb112 ≠ gb113)); have n6_ := Aside0.mk ((by rw [hg]; exact Nat.ne_of_gt (blk_lt (g := gb112) (o := .cells #[.int .i64 a0_0, .int .i64 a0_1, .int .i64 a0_2, .bool a0_3, .string a0_4, .slice A0_5 l0_5.length c0_5, .string a0_6, .bool a0_7] 33 (0, 0)) (by (with_reducible repeat (first | refine blk_drewN ?_ _ | refine blk_drew ?_ | refine blk_alloc ?_ _)); exact BK112.out)) : gb113 ≠ gb112)); clear BK112; clear HB; have BK112 := n0_; have HB := n1_; have BK113 := n2_; have GW113 := n3_; have GE113 := n4_; have NB112_113 := n5_; have NB113_112 := n6_; clear n0_ n1_ n2_ n3_ n4_ n5_ n6_; clear hb hbox hg)))
  (try simp only [Act.put, List.setIfInBounds_toArray, List.set_cons_zero, List.set_cons_succ])
  go_cut [61] (fun v61 wc => ∃ (kq : Nat) (x61_2 : Bool), v61 = .bool x61_2 ∧ Aside0 (gazetteerref5_SameReply.j0 kq x61_2 a0_0 a0_1 a0_2 a0_3 a0_4 l0_5 a0_6 a0_7 a1_0 a1_1 a1_2 a1_3 a1_4 l1_5 a1_6 a1_7 = some r) ∧ Aside0 (kq ≤ k) ∧ Aside0 (wc.heap[gb112]? = some (.cells #[.int .i64 a0_0, .int .i64 a0_1, .int .i64 a0_2, .bool a0_3, .string a0_4, (.slice A0_5 l0_5.length c0_5), .string a0_6, .bool a0_7] 33 (0, 0))) ∧ Aside0 (wc.heap[gb113]? = some (.cells #[.int .i64 a1_0, .int .i64 a1_1, .int .i64 a1_2, .bool a1_3, .string a1_4, (.slice A1_5 l1_5.length c1_5), .string a1_6, .bool a1_7] 33 (0, 0))) ∧ Aside0 (Below w.heap.size w wc))
  case first =>
    have H := HC3.out
    clear HC3
    by_cases c6 : a0_0 = a1_0
    · rw [if_pos c6] at H
      have c6b0 : (a0_0 == a1_0) = true := beq_iff_eq.mpr c6
      have c6b1 : (a0_0 != a1_0) = false := bne_eq_false_iff_eq.mpr c6
      clear c6
      (first | rw [c6b0] | (simp only [i64_w, i32_w]; rw [c6b0]) | skip)
      by_cases c7 : a0_1 = a1_1
      · rw [if_pos c7] at H
        have c7b0 : (a0_1 == a1_1) = true := beq_iff_eq.mpr c7
        have c7b1 : (a0_1 != a1_1) = false := bne_eq_false_iff_eq.mpr c7
        clear c7
        by_cases c8 : a0_2 = a1_2
        · rw [if_pos c8] at H
          have c8b0 : (a0_2 == a1_2) = true := beq_iff_eq.mpr c8
          have c8b1 : (a0_2 != a1_2) = false := bne_eq_false_iff_eq.mpr c8
          clear c8
          by_cases c9 : (a0_3 != a1_3) = true
          · rw [if_pos c9] at H
            have c9b0 : (a0_3 != a1_3) = true := c9
            (try (have c9b1 : decide (a0_3 = a1_3) = false := by simpa using c9))
            (try (have c9b2 : (a0_3 == a1_3) = false := by simpa using c9))
            (try (have c9b3 : ¬ (a0_3 = a1_3) := by simpa using c9))
            clear c9
            have H' := Aside0.mk H
            clear H
            have hnb10 := NB112_113.out
            have hnc10 := NB113_112.out
            have hcz11_0 : w5.cell? ⟨gb112, 0, none⟩ = some (.int .i64 a0_0) := (blk_cell BK112.out 0).trans rfl
            have hcz11_1 : w5.cell? ⟨gb112, 1, none⟩ = some (.int .i64 a0_1) := (blk_cell BK112.out 1).trans rfl
            have hcz11_2 : w5.cell? ⟨gb112, 2, none⟩ = some (.int .i64 a0_2) := (blk_cell BK112.out 2).trans rfl
            have hcz11_3 : w5.cell? ⟨gb112, 3, none⟩ = some (.bool a0_3) := (blk_cell BK112.out 3).trans rfl
            have hcz11_4 : w5.cell? ⟨gb112, 4, none⟩ = some (.string a0_4) := (blk_cell BK112.out 4).trans rfl
            have hcz11_5 : w5.cell? ⟨gb112, 5, none⟩ = some (.slice A0_5 l0_5.length c0_5) := (blk_cell BK112.out 5).trans rfl
            have hcz11_6 : w5.cell? ⟨gb112, 6, none⟩ = some (.string a0_6) := (blk_cell BK112.out 6).trans rfl
            have hcz11_7 : w5.cell? ⟨gb112, 7, none⟩ = some (.bool a0_7) := (blk_cell BK112.out 7).trans rfl
            have hfz11_0 := blk_frozen BK112.out 0
            have hfz11_1 := blk_frozen BK112.out 1
            have hfz11_2 := blk_frozen BK112.out 2
            have hfz11_3 := blk_frozen BK112.out 3
            have hfz11_4 := blk_frozen BK112.out 4
            have hfz11_5 := blk_frozen BK112.out 5
            have hfz11_6 := blk_frozen BK112.out 6
            have hfz11_7 := blk_frozen BK112.out 7
            have hcz12_0 : w5.cell? ⟨gb113, 0, none⟩ = some (.int .i64 a1_0) := (blk_cell BK113.out 0).trans rfl
            have hcz12_1 : w5.cell? ⟨gb113, 1, none⟩ = some (.int .i64 a1_1) := (blk_cell BK113.out 1).trans rfl
            have hcz12_2 : w5.cell? ⟨gb113, 2, none⟩ = some (.int .i64 a1_2) := (blk_cell BK113.out 2).trans rfl
            have hcz12_3 : w5.cell? ⟨gb113, 3, none⟩ = some (.bool a1_3) := (blk_cell BK113.out 3).trans rfl
            have hcz12_4 : w5.cell? ⟨gb113, 4, none⟩ = some (.string a1_4) := (blk_cell BK113.out 4).trans rfl
            have hcz12_5 : w5.cell? ⟨gb113, 5, none⟩ = some (.slice A1_5 l1_5.length c1_5) := (blk_cell BK113.out 5).trans rfl
            have hcz12_6 : w5.cell? ⟨gb113, 6, none⟩ = some (.string a1_6) := (blk_cell BK113.out 6).trans rfl
            have hcz12_7 : w5.cell? ⟨gb113, 7, none⟩ = some (.bool a1_7) := (blk_cell BK113.out 7).trans rfl
            have hfz12_0 := blk_frozen BK113.out 0
            have hfz12_1 := blk_frozen BK113.out 1
            have hfz12_2 := blk_frozen BK113.out 2
            have hfz12_3 := blk_frozen BK113.out 3
            have hfz12_4 := blk_frozen BK113.out 4
            have hfz12_5 := blk_frozen BK113.out 5
            have hfz12_6 := blk_frozen BK113.out 6
            have hfz12_7 := blk_frozen BK113.out 7
            go_wp2
            repeat (go_quiet (fail); try go_wp2)
            go_meet
            case rel => exact ⟨_, (true), (by first | rfl | (simp; done) | (simp [*]; done)), H', ⟨by first | omega | exact Nat.le_refl _⟩, ⟨by (with_reducible repeat (first | refine blk_drewN ?_ _ | refine blk_drew ?_ | refine blk_alloc ?_ _)); exact BK112.out⟩, ⟨by (with_reducible repeat (first | refine blk_drewN ?_ _ | refine blk_drew ?_ | refine blk_alloc ?_ _)); exact BK113.out⟩, ⟨by repeat (first | (with_reducible first | exact HB.out | apply below_alloc | apply pw_below_drewN | apply below_drew1 | refine below_set ?_ GE112.out | refine below_set ?_ GE113.out) | exact HB.out)⟩⟩
          · rw [if_neg c9] at H
            have c9b0 : (a0_3 != a1_3) = false := by simpa using c9
            (try (have c9b1 : decide (a0_3 = a1_3) = true := by simpa using c9))
            (try (have c9b2 : (a0_3 == a1_3) = true := by simpa using c9))
            clear c9
            by_cases c13 : a0_4.toList = a1_4.toList
            · rw [if_pos c13] at H
              have c13b0 : (a0_4.toList == a1_4.toList) = true := beq_iff_eq.mpr c13
              have c13b1 : (a0_4.toList != a1_4.toList) = false := bne_eq_false_iff_eq.mpr c13
              clear c13
              by_cases c14 : a0_6.toList = a1_6.toList
              · rw [if_pos c14] at H
                have c14b0 : (a0_6.toList == a1_6.toList) = true := beq_iff_eq.mpr c14
                have c14b1 : (a0_6.toList != a1_6.toList) = false := bne_eq_false_iff_eq.mpr c14
                clear c14
                by_cases c15 : (a0_7 != a1_7) = true
                · rw [if_pos c15] at H
                  have c15b0 : (a0_7 != a1_7) = true := c15
                  (try (have c15b1 : decide (a0_7 = a1_7) = false := by simpa using c15))
                  (try (have c15b2 : (a0_7 == a1_7) = false := by simpa using c15))
                  (try (have c15b3 : ¬ (a0_7 = a1_7) := by simpa using c15))
                  clear c15
                  have H' := Aside0.mk H
                  clear H
                  have hnb16 := NB112_113.out
                  have hnc16 := NB113_112.out
                  have hcz17_0 : w5.cell? ⟨gb112, 0, none⟩ = some (.int .i64 a0_0) := (blk_cell BK112.out 0).trans rfl
                  have hcz17_1 : w5.cell? ⟨gb112, 1, none⟩ = some (.int .i64 a0_1) := (blk_cell BK112.out 1).trans rfl
                  have hcz17_2 : w5.cell? ⟨gb112, 2, none⟩ = some (.int .i64 a0_2) := (blk_cell BK112.out 2).trans rfl
                  have hcz17_3 : w5.cell? ⟨gb112, 3, none⟩ = some (.bool a0_3) := (blk_cell BK112.out 3).trans rfl
                  have hcz17_4 : w5.cell? ⟨gb112, 4, none⟩ = some (.string a0_4) := (blk_cell BK112.out 4).trans rfl
                  have hcz17_5 : w5.cell? ⟨gb112, 5, none⟩ = some (.slice A0_5 l0_5.length c0_5) := (blk_cell BK112.out 5).trans rfl
                  have hcz17_6 : w5.cell? ⟨gb112, 6, none⟩ = some (.string a0_6) := (blk_cell BK112.out 6).trans rfl
                  have hcz17_7 : w5.cell? ⟨gb112, 7, none⟩ = some (.bool a0_7) := (blk_cell BK112.out 7).trans rfl
                  have hfz17_0 := blk_frozen BK112.out 0
                  have hfz17_1 := blk_frozen BK112.out 1
                  have hfz17_2 := blk_frozen BK112.out 2
                  have hfz17_3 := blk_frozen BK112.out 3
                  have hfz17_4 := blk_frozen BK112.out 4
                  have hfz17_5 := blk_frozen BK112.out 5
                  have hfz17_6 := blk_frozen BK112.out 6
                  have hfz17_7 := blk_frozen BK112.out 7
                  have hcz18_0 : w5.cell? ⟨gb113, 0, none⟩ = some (.int .i64 a1_0) := (blk_cell BK113.out 0).trans rfl
                  have hcz18_1 : w5.cell? ⟨gb113, 1, none⟩ = some (.int .i64 a1_1) := (blk_cell BK113.out 1).trans rfl
                  have hcz18_2 : w5.cell? ⟨gb113, 2, none⟩ = some (.int .i64 a1_2) := (blk_cell BK113.out 2).trans rfl
                  have hcz18_3 : w5.cell? ⟨gb113, 3, none⟩ = some (.bool a1_3) := (blk_cell BK113.out 3).trans rfl
                  have hcz18_4 : w5.cell? ⟨gb113, 4, none⟩ = some (.string a1_4) := (blk_cell BK113.out 4).trans rfl
                  have hcz18_5 : w5.cell? ⟨gb113, 5, none⟩ = some (.slice A1_5 l1_5.length c1_5) := (blk_cell BK113.out 5).trans rfl
                  have hcz18_6 : w5.cell? ⟨gb113, 6, none⟩ = some (.string a1_6) := (blk_cell BK113.out 6).trans rfl
                  have hcz18_7 : w5.cell? ⟨gb113, 7, none⟩ = some (.bool a1_7) := (blk_cell BK113.out 7).trans rfl
                  have hfz18_0 := blk_frozen BK113.out 0
                  have hfz18_1 := blk_frozen BK113.out 1
                  have hfz18_2 := blk_frozen BK113.out 2
                  have hfz18_3 := blk_frozen BK113.out 3
                  have hfz18_4 := blk_frozen BK113.out 4
                  have hfz18_5 := blk_frozen BK113.out 5
                  have hfz18_6 := blk_frozen BK113.out 6
                  have hfz18_7 := blk_frozen BK113.out 7
                  go_wp2
                  repeat (go_quiet (fail); try go_wp2)
                  go_meet
                  case rel => exact ⟨_, (true), (by first | rfl | (simp; done) | (simp [*]; done)), H', ⟨by first | omega | exact Nat.le_refl _⟩, ⟨by (with_reducible repeat (first | refine blk_drewN ?_ _ | refine blk_drew ?_ | refine blk_alloc ?_ _)); exact BK112.out⟩, ⟨by (with_reducible repeat (first | refine blk_drewN ?_ _ | refine blk_drew ?_ | refine blk_alloc ?_ _)); exact BK113.out⟩, ⟨by repeat (first | (with_reducible first | exact HB.out | apply below_alloc | apply pw_below_drewN | apply below_drew1 | refine below_set ?_ GE112.out | refine below_set ?_ GE113.out) | exact HB.out)⟩⟩
                · rw [if_neg c15] at H
                  have c15b0 : (a0_7 != a1_7) = false := by simpa using c15
                  (try (have c15b1 : decide (a0_7 = a1_7) = true := by simpa using c15))
                  (try (have c15b2 : (a0_7 == a1_7) = true := by simpa using c15))
                  clear c15
                  have H' := Aside0.mk H
                  clear H
                  have hnb19 := NB112_113.out
                  have hnc19 := NB113_112.out
                  have hcz20_0 : w5.cell? ⟨gb112, 0, none⟩ = some (.int .i64 a0_0) := (blk_cell BK112.out 0).trans rfl
                  have hcz20_1 : w5.cell? ⟨gb112, 1, none⟩ = some (.int .i64 a0_1) := (blk_cell BK112.out 1).trans rfl
                  have hcz20_2 : w5.cell? ⟨gb112, 2, none⟩ = some (.int .i64 a0_2) := (blk_cell BK112.out 2).trans rfl
                  have hcz20_3 : w5.cell? ⟨gb112, 3, none⟩ = some (.bool a0_3) := (blk_cell BK112.out 3).trans rfl
                  have hcz20_4 : w5.cell? ⟨gb112, 4, none⟩ = some (.string a0_4) := (blk_cell BK112.out 4).trans rfl
                  have hcz20_5 : w5.cell? ⟨gb112, 5, none⟩ = some (.slice A0_5 l0_5.length c0_5) := (blk_cell BK112.out 5).trans rfl
                  have hcz20_6 : w5.cell? ⟨gb112, 6, none⟩ = some (.string a0_6) := (blk_cell BK112.out 6).trans rfl
                  have hcz20_7 : w5.cell? ⟨gb112, 7, none⟩ = some (.bool a0_7) := (blk_cell BK112.out 7).trans rfl
                  have hfz20_0 := blk_frozen BK112.out 0
                  have hfz20_1 := blk_frozen BK112.out 1
                  have hfz20_2 := blk_frozen BK112.out 2
                  have hfz20_3 := blk_frozen BK112.out 3
                  have hfz20_4 := blk_frozen BK112.out 4
                  have hfz20_5 := blk_frozen BK112.out 5
                  have hfz20_6 := blk_frozen BK112.out 6
                  have hfz20_7 := blk_frozen BK112.out 7
                  have hcz21_0 : w5.cell? ⟨gb113, 0, none⟩ = some (.int .i64 a1_0) := (blk_cell BK113.out 0).trans rfl
                  have hcz21_1 : w5.cell? ⟨gb113, 1, none⟩ = some (.int .i64 a1_1) := (blk_cell BK113.out 1).trans rfl
                  have hcz21_2 : w5.cell? ⟨gb113, 2, none⟩ = some (.int .i64 a1_2) := (blk_cell BK113.out 2).trans rfl
                  have hcz21_3 : w5.cell? ⟨gb113, 3, none⟩ = some (.bool a1_3) := (blk_cell BK113.out 3).trans rfl
                  have hcz21_4 : w5.cell? ⟨gb113, 4, none⟩ = some (.string a1_4) := (blk_cell BK113.out 4).trans rfl
                  have hcz21_5 : w5.cell? ⟨gb113, 5, none⟩ = some (.slice A1_5 l1_5.length c1_5) := (blk_cell BK113.out 5).trans rfl
                  have hcz21_6 : w5.cell? ⟨gb113, 6, none⟩ = some (.string a1_6) := (blk_cell BK113.out 6).trans rfl
                  have hcz21_7 : w5.cell? ⟨gb113, 7, none⟩ = some (.bool a1_7) := (blk_cell BK113.out 7).trans rfl
                  have hfz21_0 := blk_frozen BK113.out 0
                  have hfz21_1 := blk_frozen BK113.out 1
                  have hfz21_2 := blk_frozen BK113.out 2
                  have hfz21_3 := blk_frozen BK113.out 3
                  have hfz21_4 := blk_frozen BK113.out 4
                  have hfz21_5 := blk_frozen BK113.out 5
                  have hfz21_6 := blk_frozen BK113.out 6
                  have hfz21_7 := blk_frozen BK113.out 7
                  go_wp2
                  repeat (go_quiet (fail); try go_wp2)
                  go_meet
                  case rel => exact ⟨_, (((l0_5.length : Int) != (l1_5.length : Int))), (by first | rfl | (simp; done) | (simp [*]; done)), H', ⟨by first | omega | exact Nat.le_refl _⟩, ⟨by (with_reducible repeat (first | refine blk_drewN ?_ _ | refine blk_drew ?_ | refine blk_alloc ?_ _)); exact BK112.out⟩, ⟨by (with_reducible repeat (first | refine blk_drewN ?_ _ | refine blk_drew ?_ | refine blk_alloc ?_ _)); exact BK113.out⟩, ⟨by repeat (first | (with_reducible first | exact HB.out | apply below_alloc | apply pw_below_drewN | apply below_drew1 | refine below_set ?_ GE112.out | refine below_set ?_ GE113.out) | exact HB.out)⟩⟩
              · rw [if_neg c14] at H
                have c14b0 : (a0_6.toList == a1_6.toList) = false := beq_eq_false_iff_ne.mpr c14
                have c14b1 : (a0_6.toList != a1_6.toList) = true := bne_iff_ne.mpr c14
                have H' := Aside0.mk H
                clear H
                have hnb22 := NB112_113.out
                have hnc22 := NB113_112.out
                have hcz23_0 : w5.cell? ⟨gb112, 0, none⟩ = some (.int .i64 a0_0) := (blk_cell BK112.out 0).trans rfl
                have hcz23_1 : w5.cell? ⟨gb112, 1, none⟩ = some (.int .i64 a0_1) := (blk_cell BK112.out 1).trans rfl
                have hcz23_2 : w5.cell? ⟨gb112, 2, none⟩ = some (.int .i64 a0_2) := (blk_cell BK112.out 2).trans rfl
                have hcz23_3 : w5.cell? ⟨gb112, 3, none⟩ = some (.bool a0_3) := (blk_cell BK112.out 3).trans rfl
                have hcz23_4 : w5.cell? ⟨gb112, 4, none⟩ = some (.string a0_4) := (blk_cell BK112.out 4).trans rfl
                have hcz23_5 : w5.cell? ⟨gb112, 5, none⟩ = some (.slice A0_5 l0_5.length c0_5) := (blk_cell BK112.out 5).trans rfl
                have hcz23_6 : w5.cell? ⟨gb112, 6, none⟩ = some (.string a0_6) := (blk_cell BK112.out 6).trans rfl
                have hcz23_7 : w5.cell? ⟨gb112, 7, none⟩ = some (.bool a0_7) := (blk_cell BK112.out 7).trans rfl
                have hfz23_0 := blk_frozen BK112.out 0
                have hfz23_1 := blk_frozen BK112.out 1
                have hfz23_2 := blk_frozen BK112.out 2
                have hfz23_3 := blk_frozen BK112.out 3
                have hfz23_4 := blk_frozen BK112.out 4
                have hfz23_5 := blk_frozen BK112.out 5
                have hfz23_6 := blk_frozen BK112.out 6
                have hfz23_7 := blk_frozen BK112.out 7
                have hcz24_0 : w5.cell? ⟨gb113, 0, none⟩ = some (.int .i64 a1_0) := (blk_cell BK113.out 0).trans rfl
                have hcz24_1 : w5.cell? ⟨gb113, 1, none⟩ = some (.int .i64 a1_1) := (blk_cell BK113.out 1).trans rfl
                have hcz24_2 : w5.cell? ⟨gb113, 2, none⟩ = some (.int .i64 a1_2) := (blk_cell BK113.out 2).trans rfl
                have hcz24_3 : w5.cell? ⟨gb113, 3, none⟩ = some (.bool a1_3) := (blk_cell BK113.out 3).trans rfl
                have hcz24_4 : w5.cell? ⟨gb113, 4, none⟩ = some (.string a1_4) := (blk_cell BK113.out 4).trans rfl
                have hcz24_5 : w5.cell? ⟨gb113, 5, none⟩ = some (.slice A1_5 l1_5.length c1_5) := (blk_cell BK113.out 5).trans rfl
                have hcz24_6 : w5.cell? ⟨gb113, 6, none⟩ = some (.string a1_6) := (blk_cell BK113.out 6).trans rfl
                have hcz24_7 : w5.cell? ⟨gb113, 7, none⟩ = some (.bool a1_7) := (blk_cell BK113.out 7).trans rfl
                have hfz24_0 := blk_frozen BK113.out 0
                have hfz24_1 := blk_frozen BK113.out 1
                have hfz24_2 := blk_frozen BK113.out 2
                have hfz24_3 := blk_frozen BK113.out 3
                have hfz24_4 := blk_frozen BK113.out 4
                have hfz24_5 := blk_frozen BK113.out 5
                have hfz24_6 := blk_frozen BK113.out 6
                have hfz24_7 := blk_frozen BK113.out 7
                go_wp2
                repeat (go_quiet (fail); try go_wp2)
                go_meet
                case rel => exact ⟨_, (true), (by first | rfl | (simp; done) | (simp [*]; done)), H', ⟨by first | omega | exact Nat.le_refl _⟩, ⟨by (with_reducible repeat (first | refine blk_drewN ?_ _ | refine blk_drew ?_ | refine blk_alloc ?_ _)); exact BK112.out⟩, ⟨by (with_reducible repeat (first | refine blk_drewN ?_ _ | refine blk_drew ?_ | refine blk_alloc ?_ _)); exact BK113.out⟩, ⟨by repeat (first | (with_reducible first | exact HB.out | apply below_alloc | apply pw_below_drewN | apply below_drew1 | refine below_set ?_ GE112.out | refine below_set ?_ GE113.out) | exact HB.out)⟩⟩
            · rw [if_neg c13] at H
              have c13b0 : (a0_4.toList == a1_4.toList) = false := beq_eq_false_iff_ne.mpr c13
              have c13b1 : (a0_4.toList != a1_4.toList) = true := bne_iff_ne.mpr c13
              have H' := Aside0.mk H
              clear H
              have hnb25 := NB112_113.out
              have hnc25 := NB113_112.out
              have hcz26_0 : w5.cell? ⟨gb112, 0, none⟩ = some (.int .i64 a0_0) := (blk_cell BK112.out 0).trans rfl
              have hcz26_1 : w5.cell? ⟨gb112, 1, none⟩ = some (.int .i64 a0_1) := (blk_cell BK112.out 1).trans rfl
              have hcz26_2 : w5.cell? ⟨gb112, 2, none⟩ = some (.int .i64 a0_2) := (blk_cell BK112.out 2).trans rfl
              have hcz26_3 : w5.cell? ⟨gb112, 3, none⟩ = some (.bool a0_3) := (blk_cell BK112.out 3).trans rfl
              have hcz26_4 : w5.cell? ⟨gb112, 4, none⟩ = some (.string a0_4) := (blk_cell BK112.out 4).trans rfl
              have hcz26_5 : w5.cell? ⟨gb112, 5, none⟩ = some (.slice A0_5 l0_5.length c0_5) := (blk_cell BK112.out 5).trans rfl
              have hcz26_6 : w5.cell? ⟨gb112, 6, none⟩ = some (.string a0_6) := (blk_cell BK112.out 6).trans rfl
              have hcz26_7 : w5.cell? ⟨gb112, 7, none⟩ = some (.bool a0_7) := (blk_cell BK112.out 7).trans rfl
              have hfz26_0 := blk_frozen BK112.out 0
              have hfz26_1 := blk_frozen BK112.out 1
              have hfz26_2 := blk_frozen BK112.out 2
              have hfz26_3 := blk_frozen BK112.out 3
              have hfz26_4 := blk_frozen BK112.out 4
              have hfz26_5 := blk_frozen BK112.out 5
              have hfz26_6 := blk_frozen BK112.out 6
              have hfz26_7 := blk_frozen BK112.out 7
              have hcz27_0 : w5.cell? ⟨gb113, 0, none⟩ = some (.int .i64 a1_0) := (blk_cell BK113.out 0).trans rfl
              have hcz27_1 : w5.cell? ⟨gb113, 1, none⟩ = some (.int .i64 a1_1) := (blk_cell BK113.out 1).trans rfl
              have hcz27_2 : w5.cell? ⟨gb113, 2, none⟩ = some (.int .i64 a1_2) := (blk_cell BK113.out 2).trans rfl
              have hcz27_3 : w5.cell? ⟨gb113, 3, none⟩ = some (.bool a1_3) := (blk_cell BK113.out 3).trans rfl
              have hcz27_4 : w5.cell? ⟨gb113, 4, none⟩ = some (.string a1_4) := (blk_cell BK113.out 4).trans rfl
              have hcz27_5 : w5.cell? ⟨gb113, 5, none⟩ = some (.slice A1_5 l1_5.length c1_5) := (blk_cell BK113.out 5).trans rfl
              have hcz27_6 : w5.cell? ⟨gb113, 6, none⟩ = some (.string a1_6) := (blk_cell BK113.out 6).trans rfl
              have hcz27_7 : w5.cell? ⟨gb113, 7, none⟩ = some (.bool a1_7) := (blk_cell BK113.out 7).trans rfl
              have hfz27_0 := blk_frozen BK113.out 0
              have hfz27_1 := blk_frozen BK113.out 1
              have hfz27_2 := blk_frozen BK113.out 2
              have hfz27_3 := blk_frozen BK113.out 3
              have hfz27_4 := blk_frozen BK113.out 4
              have hfz27_5 := blk_frozen BK113.out 5
              have hfz27_6 := blk_frozen BK113.out 6
              have hfz27_7 := blk_frozen BK113.out 7
              go_wp2
              repeat (go_quiet (fail); try go_wp2)
              go_meet
              case rel => exact ⟨_, (true), (by first | rfl | (simp; done) | (simp [*]; done)), H', ⟨by first | omega | exact Nat.le_refl _⟩, ⟨by (with_reducible repeat (first | refine blk_drewN ?_ _ | refine blk_drew ?_ | refine blk_alloc ?_ _)); exact BK112.out⟩, ⟨by (with_reducible repeat (first | refine blk_drewN ?_ _ | refine blk_drew ?_ | refine blk_alloc ?_ _)); exact BK113.out⟩, ⟨by repeat (first | (with_reducible first | exact HB.out | apply below_alloc | apply pw_below_drewN | apply below_drew1 | refine below_set ?_ GE112.out | refine below_set ?_ GE113.out) | exact HB.out)⟩⟩
        · rw [if_neg c8] at H
          have c8b0 : (a0_2 == a1_2) = false := beq_eq_false_iff_ne.mpr c8
          have c8b1 : (a0_2 != a1_2) = true := bne_iff_ne.mpr c8
          have H' := Aside0.mk H
          clear H
          have hnb28 := NB112_113.out
          have hnc28 := NB113_112.out
          have hcz29_0 : w5.cell? ⟨gb112, 0, none⟩ = some (.int .i64 a0_0) := (blk_cell BK112.out 0).trans rfl
          have hcz29_1 : w5.cell? ⟨gb112, 1, none⟩ = some (.int .i64 a0_1) := (blk_cell BK112.out 1).trans rfl
          have hcz29_2 : w5.cell? ⟨gb112, 2, none⟩ = some (.int .i64 a0_2) := (blk_cell BK112.out 2).trans rfl
          have hcz29_3 : w5.cell? ⟨gb112, 3, none⟩ = some (.bool a0_3) := (blk_cell BK112.out 3).trans rfl
          have hcz29_4 : w5.cell? ⟨gb112, 4, none⟩ = some (.string a0_4) := (blk_cell BK112.out 4).trans rfl
          have hcz29_5 : w5.cell? ⟨gb112, 5, none⟩ = some (.slice A0_5 l0_5.length c0_5) := (blk_cell BK112.out 5).trans rfl
          have hcz29_6 : w5.cell? ⟨gb112, 6, none⟩ = some (.string a0_6) := (blk_cell BK112.out 6).trans rfl
          have hcz29_7 : w5.cell? ⟨gb112, 7, none⟩ = some (.bool a0_7) := (blk_cell BK112.out 7).trans rfl
          have hfz29_0 := blk_frozen BK112.out 0
          have hfz29_1 := blk_frozen BK112.out 1
          have hfz29_2 := blk_frozen BK112.out 2
          have hfz29_3 := blk_frozen BK112.out 3
          have hfz29_4 := blk_frozen BK112.out 4
          have hfz29_5 := blk_frozen BK112.out 5
          have hfz29_6 := blk_frozen BK112.out 6
          have hfz29_7 := blk_frozen BK112.out 7
          have hcz30_0 : w5.cell? ⟨gb113, 0, none⟩ = some (.int .i64 a1_0) := (blk_cell BK113.out 0).trans rfl
          have hcz30_1 : w5.cell? ⟨gb113, 1, none⟩ = some (.int .i64 a1_1) := (blk_cell BK113.out 1).trans rfl
          have hcz30_2 : w5.cell? ⟨gb113, 2, none⟩ = some (.int .i64 a1_2) := (blk_cell BK113.out 2).trans rfl
          have hcz30_3 : w5.cell? ⟨gb113, 3, none⟩ = some (.bool a1_3) := (blk_cell BK113.out 3).trans rfl
          have hcz30_4 : w5.cell? ⟨gb113, 4, none⟩ = some (.string a1_4) := (blk_cell BK113.out 4).trans rfl
          have hcz30_5 : w5.cell? ⟨gb113, 5, none⟩ = some (.slice A1_5 l1_5.length c1_5) := (blk_cell BK113.out 5).trans rfl
          have hcz30_6 : w5.cell? ⟨gb113, 6, none⟩ = some (.string a1_6) := (blk_cell BK113.out 6).trans rfl
          have hcz30_7 : w5.cell? ⟨gb113, 7, none⟩ = some (.bool a1_7) := (blk_cell BK113.out 7).trans rfl
          have hfz30_0 := blk_frozen BK113.out 0
          have hfz30_1 := blk_frozen BK113.out 1
          have hfz30_2 := blk_frozen BK113.out 2
          have hfz30_3 := blk_frozen BK113.out 3
          have hfz30_4 := blk_frozen BK113.out 4
          have hfz30_5 := blk_frozen BK113.out 5
          have hfz30_6 := blk_frozen BK113.out 6
          have hfz30_7 := blk_frozen BK113.out 7
          go_wp2
          repeat (go_quiet (fail); try go_wp2)
          go_meet
          case rel => exact ⟨_, (true), (by first | rfl | (simp; done) | (simp [*]; done)), H', ⟨by first | omega | exact Nat.le_refl _⟩, ⟨by (with_reducible repeat (first | refine blk_drewN ?_ _ | refine blk_drew ?_ | refine blk_alloc ?_ _)); exact BK112.out⟩, ⟨by (with_reducible repeat (first | refine blk_drewN ?_ _ | refine blk_drew ?_ | refine blk_alloc ?_ _)); exact BK113.out⟩, ⟨by repeat (first | (with_reducible first | exact HB.out | apply below_alloc | apply pw_below_drewN | apply below_drew1 | refine below_set ?_ GE112.out | refine below_set ?_ GE113.out) | exact HB.out)⟩⟩
      · rw [if_neg c7] at H
        have c7b0 : (a0_1 == a1_1) = false := beq_eq_false_iff_ne.mpr c7
        have c7b1 : (a0_1 != a1_1) = true := bne_iff_ne.mpr c7
        have H' := Aside0.mk H
        clear H
        have hnb31 := NB112_113.out
        have hnc31 := NB113_112.out
        have hcz32_0 : w5.cell? ⟨gb112, 0, none⟩ = some (.int .i64 a0_0) := (blk_cell BK112.out 0).trans rfl
        have hcz32_1 : w5.cell? ⟨gb112, 1, none⟩ = some (.int .i64 a0_1) := (blk_cell BK112.out 1).trans rfl
        have hcz32_2 : w5.cell? ⟨gb112, 2, none⟩ = some (.int .i64 a0_2) := (blk_cell BK112.out 2).trans rfl
        have hcz32_3 : w5.cell? ⟨gb112, 3, none⟩ = some (.bool a0_3) := (blk_cell BK112.out 3).trans rfl
        have hcz32_4 : w5.cell? ⟨gb112, 4, none⟩ = some (.string a0_4) := (blk_cell BK112.out 4).trans rfl
        have hcz32_5 : w5.cell? ⟨gb112, 5, none⟩ = some (.slice A0_5 l0_5.length c0_5) := (blk_cell BK112.out 5).trans rfl
        have hcz32_6 : w5.cell? ⟨gb112, 6, none⟩ = some (.string a0_6) := (blk_cell BK112.out 6).trans rfl
        have hcz32_7 : w5.cell? ⟨gb112, 7, none⟩ = some (.bool a0_7) := (blk_cell BK112.out 7).trans rfl
        have hfz32_0 := blk_frozen BK112.out 0
        have hfz32_1 := blk_frozen BK112.out 1
        have hfz32_2 := blk_frozen BK112.out 2
        have hfz32_3 := blk_frozen BK112.out 3
        have hfz32_4 := blk_frozen BK112.out 4
        have hfz32_5 := blk_frozen BK112.out 5
        have hfz32_6 := blk_frozen BK112.out 6
        have hfz32_7 := blk_frozen BK112.out 7
        have hcz33_0 : w5.cell? ⟨gb113, 0, none⟩ = some (.int .i64 a1_0) := (blk_cell BK113.out 0).trans rfl
        have hcz33_1 : w5.cell? ⟨gb113, 1, none⟩ = some (.int .i64 a1_1) := (blk_cell BK113.out 1).trans rfl
        have hcz33_2 : w5.cell? ⟨gb113, 2, none⟩ = some (.int .i64 a1_2) := (blk_cell BK113.out 2).trans rfl
        have hcz33_3 : w5.cell? ⟨gb113, 3, none⟩ = some (.bool a1_3) := (blk_cell BK113.out 3).trans rfl
        have hcz33_4 : w5.cell? ⟨gb113, 4, none⟩ = some (.string a1_4) := (blk_cell BK113.out 4).trans rfl
        have hcz33_5 : w5.cell? ⟨gb113, 5, none⟩ = some (.slice A1_5 l1_5.length c1_5) := (blk_cell BK113.out 5).trans rfl
        have hcz33_6 : w5.cell? ⟨gb113, 6, none⟩ = some (.string a1_6) := (blk_cell BK113.out 6).trans rfl
        have hcz33_7 : w5.cell? ⟨gb113, 7, none⟩ = some (.bool a1_7) := (blk_cell BK113.out 7).trans rfl
        have hfz33_0 := blk_frozen BK113.out 0
        have hfz33_1 := blk_frozen BK113.out 1
        have hfz33_2 := blk_frozen BK113.out 2
        have hfz33_3 := blk_frozen BK113.out 3
        have hfz33_4 := blk_frozen BK113.out 4
        have hfz33_5 := blk_frozen BK113.out 5
        have hfz33_6 := blk_frozen BK113.out 6
        have hfz33_7 := blk_frozen BK113.out 7
        go_wp2
        repeat (go_quiet (fail); try go_wp2)
        go_meet
        case rel => exact ⟨_, (true), (by first | rfl | (simp; done) | (simp [*]; done)), H', ⟨by first | omega | exact Nat.le_refl _⟩, ⟨by (with_reducible repeat (first | refine blk_drewN ?_ _ | refine blk_drew ?_ | refine blk_alloc ?_ _)); exact BK112.out⟩, ⟨by (with_reducible repeat (first | refine blk_drewN ?_ _ | refine blk_drew ?_ | refine blk_alloc ?_ _)); exact BK113.out⟩, ⟨by repeat (first | (with_reducible first | exact HB.out | apply below_alloc | apply pw_below_drewN | apply below_drew1 | refine below_set ?_ GE112.out | refine below_set ?_ GE113.out) | exact HB.out)⟩⟩
    · rw [if_neg c6] at H
      have c6b0 : (a0_0 == a1_0) = false := beq_eq_false_iff_ne.mpr c6
      have c6b1 : (a0_0 != a1_0) = true := bne_iff_ne.mpr c6
      (first | rw [c6b0] | (simp only [i64_w, i32_w]; rw [c6b0]) | skip)
      have H' := Aside0.mk H
      clear H
      have hnb34 := NB112_113.out
      have hnc34 := NB113_112.out
      have hcz35_0 : w5.cell? ⟨gb112, 0, none⟩ = some (.int .i64 a0_0) := (blk_cell BK112.out 0).trans rfl
      have hcz35_1 : w5.cell? ⟨gb112, 1, none⟩ = some (.int .i64 a0_1) := (blk_cell BK112.out 1).trans rfl
      have hcz35_2 : w5.cell? ⟨gb112, 2, none⟩ = some (.int .i64 a0_2) := (blk_cell BK112.out 2).trans rfl
      have hcz35_3 : w5.cell? ⟨gb112, 3, none⟩ = some (.bool a0_3) := (blk_cell BK112.out 3).trans rfl
      have hcz35_4 : w5.cell? ⟨gb112, 4, none⟩ = some (.string a0_4) := (blk_cell BK112.out 4).trans rfl
      have hcz35_5 : w5.cell? ⟨gb112, 5, none⟩ = some (.slice A0_5 l0_5.length c0_5) := (blk_cell BK112.out 5).trans rfl
      have hcz35_6 : w5.cell? ⟨gb112, 6, none⟩ = some (.string a0_6) := (blk_cell BK112.out 6).trans rfl
      have hcz35_7 : w5.cell? ⟨gb112, 7, none⟩ = some (.bool a0_7) := (blk_cell BK112.out 7).trans rfl
      have hfz35_0 := blk_frozen BK112.out 0
      have hfz35_1 := blk_frozen BK112.out 1
      have hfz35_2 := blk_frozen BK112.out 2
      have hfz35_3 := blk_frozen BK112.out 3
      have hfz35_4 := blk_frozen BK112.out 4
      have hfz35_5 := blk_frozen BK112.out 5
      have hfz35_6 := blk_frozen BK112.out 6
      have hfz35_7 := blk_frozen BK112.out 7
      have hcz36_0 : w5.cell? ⟨gb113, 0, none⟩ = some (.int .i64 a1_0) := (blk_cell BK113.out 0).trans rfl
      have hcz36_1 : w5.cell? ⟨gb113, 1, none⟩ = some (.int .i64 a1_1) := (blk_cell BK113.out 1).trans rfl
      have hcz36_2 : w5.cell? ⟨gb113, 2, none⟩ = some (.int .i64 a1_2) := (blk_cell BK113.out 2).trans rfl
      have hcz36_3 : w5.cell? ⟨gb113, 3, none⟩ = some (.bool a1_3) := (blk_cell BK113.out 3).trans rfl
      have hcz36_4 : w5.cell? ⟨gb113, 4, none⟩ = some (.string a1_4) := (blk_cell BK113.out 4).trans rfl
      have hcz36_5 : w5.cell? ⟨gb113, 5, none⟩ = some (.slice A1_5 l1_5.length c1_5) := (blk_cell BK113.out 5).trans rfl
      have hcz36_6 : w5.cell? ⟨gb113, 6, none⟩ = some (.string a1_6) := (blk_cell BK113.out 6).trans rfl
      have hcz36_7 : w5.cell? ⟨gb113, 7, none⟩ = some (.bool a1_7) := (blk_cell BK113.out 7).trans rfl
      have hfz36_0 := blk_frozen BK113.out 0
      have hfz36_1 := blk_frozen BK113.out 1
      have hfz36_2 := blk_frozen BK113.out 2
      have hfz36_3 := blk_frozen BK113.out 3
      have hfz36_4 := blk_frozen BK113.out 4
      have hfz36_5 := blk_frozen BK113.out 5
      have hfz36_6 := blk_frozen BK113.out 6
      have hfz36_7 := blk_frozen BK113.out 7
      go_wp2
      repeat (go_quiet (fail); try go_wp2)
      go_meet
      case rel => exact ⟨_, (true), (by first | rfl | (simp; done) | (simp [*]; done)), H', ⟨by first | omega | exact Nat.le_refl _⟩, ⟨by (with_reducible repeat (first | refine blk_drewN ?_ _ | refine blk_drew ?_ | refine blk_alloc ?_ _)); exact BK112.out⟩, ⟨by (with_reducible repeat (first | refine blk_drewN ?_ _ | refine blk_drew ?_ | refine blk_alloc ?_ _)); exact BK113.out⟩, ⟨by repeat (first | (with_reducible first | exact HB.out | apply below_alloc | apply pw_below_drewN | apply below_drew1 | refine below_set ?_ GE112.out | refine below_set ?_ GE113.out) | exact HB.out)⟩⟩
  case rest =>
    clear HC3
    try clear c1
    try clear c2
    try clear p2
    try clear c3
    try clear c6
    try clear c6b0
    try clear c6b1
    try clear c7
    try clear c7b0
    try clear c7b1
    try clear c8
    try clear c8b0
    try clear c8b1
    try clear c9
    try clear c9b0
    try clear c9b1
    try clear c9b2
    try clear c10
    try clear c13
    try clear c13b0
    try clear c13b1
    try clear c14
    try clear c14b0
    try clear c14b1
    try clear c15
    try clear c15b0
    try clear c15b1
    try clear c15b2
    try clear c16
    try clear c19
    try clear c22
    try clear c24
    try clear c25
    try clear c28
    try clear c31
    try clear c34
    try clear hcz11_0
    try clear hcz11_1
    try clear hcz11_2
    try clear hcz11_3
    try clear hcz11_4
    try clear hcz11_5
    try clear hcz11_6
    try clear hcz11_7
    try clear hcz12_0
    try clear hcz12_1
    try clear hcz12_2
    try clear hcz12_3
    try clear hcz12_4
    try clear hcz12_5
    try clear hcz12_6
    try clear hcz12_7
    try clear hcz17_0
    try clear hcz17_1
    try clear hcz17_2
    try clear hcz17_3
    try clear hcz17_4
    try clear hcz17_5
    try clear hcz17_6
    try clear hcz17_7
    try clear hcz18_0
    try clear hcz18_1
    try clear hcz18_2
    try clear hcz18_3
    try clear hcz18_4
    try clear hcz18_5
    try clear hcz18_6
    try clear hcz18_7
    try clear hcz20_0
    try clear hcz20_1
    try clear hcz20_2
    try clear hcz20_3
    try clear hcz20_4
    try clear hcz20_5
    try clear hcz20_6
    try clear hcz20_7
    try clear hcz21_0
    try clear hcz21_1
    try clear hcz21_2
    try clear hcz21_3
    try clear hcz21_4
    try clear hcz21_5
    try clear hcz21_6
    try clear hcz21_7
    try clear hcz23_0
    try clear hcz23_1
    try clear hcz23_2
    try clear hcz23_3
    try clear hcz23_4
    try clear hcz23_5
    try clear hcz23_6
    try clear hcz23_7
    try clear hcz24_0
    try clear hcz24_1
    try clear hcz24_2
    try clear hcz24_3
    try clear hcz24_4
    try clear hcz24_5
    try clear hcz24_6
    try clear hcz24_7
    try clear hcz26_0
    try clear hcz26_1
    try clear hcz26_2
    try clear hcz26_3
    try clear hcz26_4
    try clear hcz26_5
    try clear hcz26_6
    try clear hcz26_7
    try clear hcz27_0
    try clear hcz27_1
    try clear hcz27_2
    try clear hcz27_3
    try clear hcz27_4
    try clear hcz27_5
    try clear hcz27_6
    try clear hcz27_7
    try clear hcz29_0
    try clear hcz29_1
    try clear hcz29_2
    try clear hcz29_3
    try clear hcz29_4
    try clear hcz29_5
    try clear hcz29_6
    try clear hcz29_7
    try clear hcz30_0
    try clear hcz30_1
    try clear hcz30_2
    try clear hcz30_3
    try clear hcz30_4
    try clear hcz30_5
    try clear hcz30_6
    try clear hcz30_7
    try clear hcz32_0
    try clear hcz32_1
    try clear hcz32_2
    try clear hcz32_3
    try clear hcz32_4
    try clear hcz32_5
    try clear hcz32_6
    try clear hcz32_7
    try clear hcz33_0
    try clear hcz33_1
    try clear hcz33_2
    try clear hcz33_3
    try clear hcz33_4
    try clear hcz33_5
    try clear hcz33_6
    try clear hcz33_7
    try clear hcz35_0
    try clear hcz35_1
    try clear hcz35_2
    try clear hcz35_3
    try clear hcz35_4
    try clear hcz35_5
    try clear hcz35_6
    try clear hcz35_7
    try clear hcz36_0
    try clear hcz36_1
    try clear hcz36_2
    try clear hcz36_3
    try clear hcz36_4
    try clear hcz36_5
    try clear hcz36_6
    try clear hcz36_7
    try clear hfz11_0
    try clear hfz11_1
    try clear hfz11_2
    try clear hfz11_3
    try clear hfz11_4
    try clear hfz11_5
    try clear hfz11_6
    try clear hfz11_7
    try clear hfz12_0
    try clear hfz12_1
    try clear hfz12_2
    try clear hfz12_3
    try clear hfz12_4
    try clear hfz12_5
    try clear hfz12_6
    try clear hfz12_7
    try clear hfz17_0
    try clear hfz17_1
    try clear hfz17_2
    try clear hfz17_3
    try clear hfz17_4
    try clear hfz17_5
    try clear hfz17_6
    try clear hfz17_7
    try clear hfz18_0
    try clear hfz18_1
    try clear hfz18_2
    try clear hfz18_3
    try clear hfz18_4
    try clear hfz18_5
    try clear hfz18_6
    try clear hfz18_7
    try clear hfz20_0
    try clear hfz20_1
    try clear hfz20_2
    try clear hfz20_3
    try clear hfz20_4
    try clear hfz20_5
    try clear hfz20_6
    try clear hfz20_7
    try clear hfz21_0
    try clear hfz21_1
    try clear hfz21_2
    try clear hfz21_3
    try clear hfz21_4
    try clear hfz21_5
    try clear hfz21_6
    try clear hfz21_7
    try clear hfz23_0
    try clear hfz23_1
    try clear hfz23_2
    try clear hfz23_3
    try clear hfz23_4
    try clear hfz23_5
    try clear hfz23_6
    try clear hfz23_7
    try clear hfz24_0
    try clear hfz24_1
    try clear hfz24_2
    try clear hfz24_3
    try clear hfz24_4
    try clear hfz24_5
    try clear hfz24_6
    try clear hfz24_7
    try clear hfz26_0
    try clear hfz26_1
    try clear hfz26_2
    try clear hfz26_3
    try clear hfz26_4
    try clear hfz26_5
    try clear hfz26_6
    try clear hfz26_7
    try clear hfz27_0
    try clear hfz27_1
    try clear hfz27_2
    try clear hfz27_3
    try clear hfz27_4
    try clear hfz27_5
    try clear hfz27_6
    try clear hfz27_7
    try clear hfz29_0
    try clear hfz29_1
    try clear hfz29_2
    try clear hfz29_3
    try clear hfz29_4
    try clear hfz29_5
    try clear hfz29_6
    try clear hfz29_7
    try clear hfz30_0
    try clear hfz30_1
    try clear hfz30_2
    try clear hfz30_3
    try clear hfz30_4
    try clear hfz30_5
    try clear hfz30_6
    try clear hfz30_7
    try clear hfz32_0
    try clear hfz32_1
    try clear hfz32_2
    try clear hfz32_3
    try clear hfz32_4
    try clear hfz32_5
    try clear hfz32_6
    try clear hfz32_7
    try clear hfz33_0
    try clear hfz33_1
    try clear hfz33_2
    try clear hfz33_3
    try clear hfz33_4
    try clear hfz33_5
    try clear hfz33_6
    try clear hfz33_7
    try clear hfz35_0
    try clear hfz35_1
    try clear hfz35_2
    try clear hfz35_3
    try clear hfz35_4
    try clear hfz35_5
    try clear hfz35_6
    try clear hfz35_7
    try clear hfz36_0
    try clear hfz36_1
    try clear hfz36_2
    try clear hfz36_3
    try clear hfz36_4
    try clear hfz36_5
    try clear hfz36_6
    try clear hfz36_7
    obtain ⟨kq, x61_2, rfl, HA, HJ2, BK112, BK113, HB⟩ := hcut
    cases kq with
    | zero => exact absurd HA.out (by simp [gazetteerref5_SameReply.j0])
    | succ kj2 =>
      have H := HA.out
      clear HA
      simp only [gazetteerref5_SameReply.j0] at H
      by_cases c37 : x61_2 = true
      · subst c37
        have H1 : (some false) = some r := by rw [if_pos rfl] at H; exact H
        clear H
        have H := H1
        clear H1
        obtain rfl := Option.some.inj H
        go_wp2
        repeat (go_quiet (fail); try go_wp2)
        go_ret
        exact ⟨by first | rfl | (simp [errW_none, errW_some] <;> rfl) | (simp [*, errW_none, errW_some] <;> rfl), by repeat (first | (with_reducible first | exact HB.out | apply below_alloc | apply pw_below_drewN | apply below_drew1 | refine below_set ?_ GE112.out | refine below_set ?_ GE113.out) | exact HB.out)⟩
      · replace c37 := Bool.eq_false_iff.mpr c37
        subst c37
        have H1 : (gazetteerref5_SameReply.l0 kj2 0 a0_0 a0_1 a0_2 a0_3 a0_4 l0_5 a0_6 a0_7 a1_0 a1_1 a1_2 a1_3 a1_4 l1_5 a1_6 a1_7) = some r := by rw [if_neg (show ¬ (false = true) by decide)] at H; exact H
        clear H
        have H := H1
        clear H1
        have H' := Aside0.mk H
        clear H
        go_wp2
        repeat (go_quiet (fail); try go_wp2)
        go_loopg [5] kj2 (fun kq v5 w' => ∃ (x5_2 : Int), v5 = .int .i64 x5_2 ∧ Aside0 (gazetteerref5_SameReply.l0 kq x5_2 a0_0 a0_1 a0_2 a0_3 a0_4 l0_5 a0_6 a0_7 a1_0 a1_1 a1_2 a1_3 a1_4 l1_5 a1_6 a1_7 = some r) ∧ Aside0 (kq ≤ kj2) ∧ Aside0 (w'.heap[gb112]? = some (.cells #[.int .i64 a0_0, .int .i64 a0_1, .int .i64 a0_2, .bool a0_3, .string a0_4, (.slice A0_5 l0_5.length c0_5), .string a0_6, .bool a0_7] 33 (0, 0))) ∧ Aside0 (w'.heap[gb113]? = some (.cells #[.int .i64 a1_0, .int .i64 a1_1, .int .i64 a1_2, .bool a1_3, .string a1_4, (.slice A1_5 l1_5.length c1_5), .string a1_6, .bool a1_7] 33 (0, 0))) ∧ Aside0 (Below w.heap.size w w'))
        case atStart => exact ⟨(0), (by first | rfl | (simp; done) | (simp [*]; done)), H', ⟨Nat.le_refl _⟩, ⟨by (with_reducible repeat (first | refine blk_drewN ?_ _ | refine blk_drew ?_ | refine blk_alloc ?_ _)); exact BK112.out⟩, ⟨by (with_reducible repeat (first | refine blk_drewN ?_ _ | refine blk_drew ?_ | refine blk_alloc ?_ _)); exact BK113.out⟩, ⟨by repeat (first | (with_reducible first | exact HB.out | apply below_alloc | apply pw_below_drewN | apply below_drew1 | refine below_set ?_ GE112.out | refine below_set ?_ GE113.out) | exact HB.out)⟩⟩
        case round =>
          clear H'
          try clear c1
          try clear c2
          try clear p2
          try clear c3
          try clear c6
          try clear c6b0
          try clear c6b1
          try clear c7
          try clear c7b0
          try clear c7b1
          try clear c8
          try clear c8b0
          try clear c8b1
          try clear c9
          try clear c9b0
          try clear c9b1
          try clear c9b2
          try clear c10
          try clear c13
          try clear c13b0
          try clear c13b1
          try clear c14
          try clear c14b0
          try clear c14b1
          try clear c15
          try clear c15b0
          try clear c15b1
          try clear c15b2
          try clear c16
          try clear c19
          try clear c22
          try clear c24
          try clear c25
          try clear c28
          try clear c31
          try clear c34
          try clear c37
          try clear hcz11_0
          try clear hcz11_1
          try clear hcz11_2
          try clear hcz11_3
          try clear hcz11_4
          try clear hcz11_5
          try clear hcz11_6
          try clear hcz11_7
          try clear hcz12_0
          try clear hcz12_1
          try clear hcz12_2
          try clear hcz12_3
          try clear hcz12_4
          try clear hcz12_5
          try clear hcz12_6
          try clear hcz12_7
          try clear hcz17_0
          try clear hcz17_1
          try clear hcz17_2
          try clear hcz17_3
          try clear hcz17_4
          try clear hcz17_5
          try clear hcz17_6
          try clear hcz17_7
          try clear hcz18_0
          try clear hcz18_1
          try clear hcz18_2
          try clear hcz18_3
          try clear hcz18_4
          try clear hcz18_5
          try clear hcz18_6
          try clear hcz18_7
          try clear hcz20_0
          try clear hcz20_1
          try clear hcz20_2
          try clear hcz20_3
          try clear hcz20_4
          try clear hcz20_5
          try clear hcz20_6
          try clear hcz20_7
          try clear hcz21_0
          try clear hcz21_1
          try clear hcz21_2
          try clear hcz21_3
          try clear hcz21_4
          try clear hcz21_5
          try clear hcz21_6
          try clear hcz21_7
          try clear hcz23_0
          try clear hcz23_1
          try clear hcz23_2
          try clear hcz23_3
          try clear hcz23_4
          try clear hcz23_5
          try clear hcz23_6
          try clear hcz23_7
          try clear hcz24_0
          try clear hcz24_1
          try clear hcz24_2
          try clear hcz24_3
          try clear hcz24_4
          try clear hcz24_5
          try clear hcz24_6
          try clear hcz24_7
          try clear hcz26_0
          try clear hcz26_1
          try clear hcz26_2
          try clear hcz26_3
          try clear hcz26_4
          try clear hcz26_5
          try clear hcz26_6
          try clear hcz26_7
          try clear hcz27_0
          try clear hcz27_1
          try clear hcz27_2
          try clear hcz27_3
          try clear hcz27_4
          try clear hcz27_5
          try clear hcz27_6
          try clear hcz27_7
          try clear hcz29_0
          try clear hcz29_1
          try clear hcz29_2
          try clear hcz29_3
          try clear hcz29_4
          try clear hcz29_5
          try clear hcz29_6
          try clear hcz29_7
          try clear hcz30_0
          try clear hcz30_1
          try clear hcz30_2
          try clear hcz30_3
          try clear hcz30_4
          try clear hcz30_5
          try clear hcz30_6
          try clear hcz30_7
          try clear hcz32_0
          try clear hcz32_1
          try clear hcz32_2
          try clear hcz32_3
          try clear hcz32_4
          try clear hcz32_5
          try clear hcz32_6
          try clear hcz32_7
          try clear hcz33_0
          try clear hcz33_1
          try clear hcz33_2
          try clear hcz33_3
          try clear hcz33_4
          try clear hcz33_5
          try clear hcz33_6
          try clear hcz33_7
          try clear hcz35_0
          try clear hcz35_1
          try clear hcz35_2
          try clear hcz35_3
          try clear hcz35_4
          try clear hcz35_5
          try clear hcz35_6
          try clear hcz35_7
          try clear hcz36_0
          try clear hcz36_1
          try clear hcz36_2
          try clear hcz36_3
          try clear hcz36_4
          try clear hcz36_5
          try clear hcz36_6
          try clear hcz36_7
          try clear hfz11_0
          try clear hfz11_1
          try clear hfz11_2
          try clear hfz11_3
          try clear hfz11_4
          try clear hfz11_5
          try clear hfz11_6
          try clear hfz11_7
          try clear hfz12_0
          try clear hfz12_1
          try clear hfz12_2
          try clear hfz12_3
          try clear hfz12_4
          try clear hfz12_5
          try clear hfz12_6
          try clear hfz12_7
          try clear hfz17_0
          try clear hfz17_1
          try clear hfz17_2
          try clear hfz17_3
          try clear hfz17_4
          try clear hfz17_5
          try clear hfz17_6
          try clear hfz17_7
          try clear hfz18_0
          try clear hfz18_1
          try clear hfz18_2
          try clear hfz18_3
          try clear hfz18_4
          try clear hfz18_5
          try clear hfz18_6
          try clear hfz18_7
          try clear hfz20_0
          try clear hfz20_1
          try clear hfz20_2
          try clear hfz20_3
          try clear hfz20_4
          try clear hfz20_5
          try clear hfz20_6
          try clear hfz20_7
          try clear hfz21_0
          try clear hfz21_1
          try clear hfz21_2
          try clear hfz21_3
          try clear hfz21_4
          try clear hfz21_5
          try clear hfz21_6
          try clear hfz21_7
          try clear hfz23_0
          try clear hfz23_1
          try clear hfz23_2
          try clear hfz23_3
          try clear hfz23_4
          try clear hfz23_5
          try clear hfz23_6
          try clear hfz23_7
          try clear hfz24_0
          try clear hfz24_1
          try clear hfz24_2
          try clear hfz24_3
          try clear hfz24_4
          try clear hfz24_5
          try clear hfz24_6
          try clear hfz24_7
          try clear hfz26_0
          try clear hfz26_1
          try clear hfz26_2
          try clear hfz26_3
          try clear hfz26_4
          try clear hfz26_5
          try clear hfz26_6
          try clear hfz26_7
          try clear hfz27_0
          try clear hfz27_1
          try clear hfz27_2
          try clear hfz27_3
          try clear hfz27_4
          try clear hfz27_5
          try clear hfz27_6
          try clear hfz27_7
          try clear hfz29_0
          try clear hfz29_1
          try clear hfz29_2
          try clear hfz29_3
          try clear hfz29_4
          try clear hfz29_5
          try clear hfz29_6
          try clear hfz29_7
          try clear hfz30_0
          try clear hfz30_1
          try clear hfz30_2
          try clear hfz30_3
          try clear hfz30_4
          try clear hfz30_5
          try clear hfz30_6
          try clear hfz30_7
          try clear hfz32_0
          try clear hfz32_1
          try clear hfz32_2
          try clear hfz32_3
          try clear hfz32_4
          try clear hfz32_5
          try clear hfz32_6
          try clear hfz32_7
          try clear hfz33_0
          try clear hfz33_1
          try clear hfz33_2
          try clear hfz33_3
          try clear hfz33_4
          try clear hfz33_5
          try clear hfz33_6
          try clear hfz33_7
          try clear hfz35_0
          try clear hfz35_1
          try clear hfz35_2
          try clear hfz35_3
          try clear hfz35_4
          try clear hfz35_5
          try clear hfz35_6
          try clear hfz35_7
          try clear hfz36_0
          try clear hfz36_1
          try clear hfz36_2
          try clear hfz36_3
          try clear hfz36_4
          try clear hfz36_5
          try clear hfz36_6
          try clear hfz36_7
          try clear p2
          obtain ⟨x5_2, rfl, HA, HK2, BK112, BK113, HB⟩ := hrel
          cases gk with
          | zero => exact absurd HA.out (by simp [gazetteerref5_SameReply.l0])
          | succ k2 =>
            have H := HA.out
            clear HA
            simp only [gazetteerref5_SameReply.l0] at H
            by_cases c38 : x5_2 < (l0_5.length : Int)
            · rw [if_pos c38] at H
              have c38b0 : decide (x5_2 < (l0_5.length : Int)) = true := decide_eq_true c38
              clear c38
              by_cases c39 : 0 ≤ x5_2
              · rw [if_pos c39] at H
                have c39b0 : decide (0 ≤ x5_2) = true := decide_eq_true c39
                clear c39
                by_cases c40 : x5_2 < (l1_5.length : Int)
                · rw [if_pos c40] at H
                  have c40b0 : decide (x5_2 < (l1_5.length : Int)) = true := decide_eq_true c40
                  clear c40
                  by_cases c41 : (!((((rd_T71 l0_5 x5_2).f0).toList) == (((rd_T71 l1_5 x5_2).f0).toList)) || (!((((rd_T71 l0_5 x5_2).f1).toList) == (((rd_T71 l1_5 x5_2).f1).toList)))) = true
                  · rw [if_pos c41] at H
                    have c41b0 : (!((((rd_T71 l0_5 x5_2).f0).toList) == (((rd_T71 l1_5 x5_2).f0).toList)) || (!((((rd_T71 l0_5 x5_2).f1).toList) == (((rd_T71 l1_5 x5_2).f1).toList)))) = true := c41
                    clear c41
                    obtain rfl := Option.some.inj H
                    have hnb42 := NB112_113.out
                    have hnc42 := NB113_112.out
                    have hcz43_0 : wr.cell? ⟨gb112, 0, none⟩ = some (.int .i64 a0_0) := (blk_cell BK112.out 0).trans rfl
                    have hcz43_1 : wr.cell? ⟨gb112, 1, none⟩ = some (.int .i64 a0_1) := (blk_cell BK112.out 1).trans rfl
                    have hcz43_2 : wr.cell? ⟨gb112, 2, none⟩ = some (.int .i64 a0_2) := (blk_cell BK112.out 2).trans rfl
                    have hcz43_3 : wr.cell? ⟨gb112, 3, none⟩ = some (.bool a0_3) := (blk_cell BK112.out 3).trans rfl
                    have hcz43_4 : wr.cell? ⟨gb112, 4, none⟩ = some (.string a0_4) := (blk_cell BK112.out 4).trans rfl
                    have hcz43_5 : wr.cell? ⟨gb112, 5, none⟩ = some (.slice A0_5 l0_5.length c0_5) := (blk_cell BK112.out 5).trans rfl
                    have hcz43_6 : wr.cell? ⟨gb112, 6, none⟩ = some (.string a0_6) := (blk_cell BK112.out 6).trans rfl
                    have hcz43_7 : wr.cell? ⟨gb112, 7, none⟩ = some (.bool a0_7) := (blk_cell BK112.out 7).trans rfl
                    have hfz43_0 := blk_frozen BK112.out 0
                    have hfz43_1 := blk_frozen BK112.out 1
                    have hfz43_2 := blk_frozen BK112.out 2
                    have hfz43_3 := blk_frozen BK112.out 3
                    have hfz43_4 := blk_frozen BK112.out 4
                    have hfz43_5 := blk_frozen BK112.out 5
                    have hfz43_6 := blk_frozen BK112.out 6
                    have hfz43_7 := blk_frozen BK112.out 7
                    have p114 : 0 ≤ (x5_2 : Int) := of_decide_eq_true (by first | (with_reducible assumption) | assumption)
                    have q114 : x5_2 < (l0_5.length : Int) := of_decide_eq_true (by first | (with_reducible assumption) | assumption)
                    obtain ⟨ad114, e114, hx114_0, hx114_1⟩ := at_T71 HR0_5.out x5_2 p114 q114
                    cases e114
                    replace hx114_0 := (HB.out.cell (World.block_lt_of_cell? w _ hx114_0)).trans hx114_0
                    replace hx114_1 := (HB.out.cell (World.block_lt_of_cell? w _ hx114_1)).trans hx114_1
                    replace p114 := eq_true p114
                    replace q114 := eq_true q114
                    have hcz44_0 : wr.cell? ⟨gb113, 0, none⟩ = some (.int .i64 a1_0) := (blk_cell BK113.out 0).trans rfl
                    have hcz44_1 : wr.cell? ⟨gb113, 1, none⟩ = some (.int .i64 a1_1) := (blk_cell BK113.out 1).trans rfl
                    have hcz44_2 : wr.cell? ⟨gb113, 2, none⟩ = some (.int .i64 a1_2) := (blk_cell BK113.out 2).trans rfl
                    have hcz44_3 : wr.cell? ⟨gb113, 3, none⟩ = some (.bool a1_3) := (blk_cell BK113.out 3).trans rfl
                    have hcz44_4 : wr.cell? ⟨gb113, 4, none⟩ = some (.string a1_4) := (blk_cell BK113.out 4).trans rfl
                    have hcz44_5 : wr.cell? ⟨gb113, 5, none⟩ = some (.slice A1_5 l1_5.length c1_5) := (blk_cell BK113.out 5).trans rfl
                    have hcz44_6 : wr.cell? ⟨gb113, 6, none⟩ = some (.string a1_6) := (blk_cell BK113.out 6).trans rfl
                    have hcz44_7 : wr.cell? ⟨gb113, 7, none⟩ = some (.bool a1_7) := (blk_cell BK113.out 7).trans rfl
                    have hfz44_0 := blk_frozen BK113.out 0
                    have hfz44_1 := blk_frozen BK113.out 1
                    have hfz44_2 := blk_frozen BK113.out 2
                    have hfz44_3 := blk_frozen BK113.out 3
                    have hfz44_4 := blk_frozen BK113.out 4
                    have hfz44_5 := blk_frozen BK113.out 5
                    have hfz44_6 := blk_frozen BK113.out 6
                    have hfz44_7 := blk_frozen BK113.out 7
                    have p115 : 0 ≤ (x5_2 : Int) := of_decide_eq_true (by first | (with_reducible assumption) | assumption)
                    have q115 : x5_2 < (l1_5.length : Int) := of_decide_eq_true (by first | (with_reducible assumption) | assumption)
                    obtain ⟨ad115, e115, hx115_0, hx115_1⟩ := at_T71 HR1_5.out x5_2 p115 q115
                    cases e115
                    replace hx115_0 := (HB.out.cell (World.block_lt_of_cell? w _ hx115_0)).trans hx115_0
                    replace hx115_1 := (HB.out.cell (World.block_lt_of_cell? w _ hx115_1)).trans hx115_1
                    replace p115 := eq_true p115
                    replace q115 := eq_true q115
                    go_wp2
                    repeat (go_quiet (fail); try go_wp2)
                    go_ret
                    exact ⟨by first | rfl | (simp [errW_none, errW_some] <;> rfl) | (simp [*, errW_none, errW_some] <;> rfl), by repeat (first | (with_reducible first | exact HB.out | apply below_alloc | apply pw_below_drewN | apply below_drew1 | refine below_set ?_ GE112.out | refine below_set ?_ GE113.out) | exact HB.out)⟩
                  · rw [if_neg c41] at H
                    have c41b0 : (!((((rd_T71 l0_5 x5_2).f0).toList) == (((rd_T71 l1_5 x5_2).f0).toList)) || (!((((rd_T71 l0_5 x5_2).f1).toList) == (((rd_T71 l1_5 x5_2).f1).toList)))) = false := by simpa using c41
                    clear c41
                    have H' := Aside0.mk H
                    clear H
                    have hnb45 := NB112_113.out
                    have hnc45 := NB113_112.out
                    have hcz46_0 : wr.cell? ⟨gb112, 0, none⟩ = some (.int .i64 a0_0) := (blk_cell BK112.out 0).trans rfl
                    have hcz46_1 : wr.cell? ⟨gb112, 1, none⟩ = some (.int .i64 a0_1) := (blk_cell BK112.out 1).trans rfl
                    have hcz46_2 : wr.cell? ⟨gb112, 2, none⟩ = some (.int .i64 a0_2) := (blk_cell BK112.out 2).trans rfl
                    have hcz46_3 : wr.cell? ⟨gb112, 3, none⟩ = some (.bool a0_3) := (blk_cell BK112.out 3).trans rfl
                    have hcz46_4 : wr.cell? ⟨gb112, 4, none⟩ = some (.string a0_4) := (blk_cell BK112.out 4).trans rfl
                    have hcz46_5 : wr.cell? ⟨gb112, 5, none⟩ = some (.slice A0_5 l0_5.length c0_5) := (blk_cell BK112.out 5).trans rfl
                    have hcz46_6 : wr.cell? ⟨gb112, 6, none⟩ = some (.string a0_6) := (blk_cell BK112.out 6).trans rfl
                    have hcz46_7 : wr.cell? ⟨gb112, 7, none⟩ = some (.bool a0_7) := (blk_cell BK112.out 7).trans rfl
                    have hfz46_0 := blk_frozen BK112.out 0
                    have hfz46_1 := blk_frozen BK112.out 1
                    have hfz46_2 := blk_frozen BK112.out 2
                    have hfz46_3 := blk_frozen BK112.out 3
                    have hfz46_4 := blk_frozen BK112.out 4
                    have hfz46_5 := blk_frozen BK112.out 5
                    have hfz46_6 := blk_frozen BK112.out 6
                    have hfz46_7 := blk_frozen BK112.out 7
                    have p114 : 0 ≤ (x5_2 : Int) := of_decide_eq_true (by first | (with_reducible assumption) | assumption)
                    have q114 : x5_2 < (l0_5.length : Int) := of_decide_eq_true (by first | (with_reducible assumption) | assumption)
                    obtain ⟨ad114, e114, hx114_0, hx114_1⟩ := at_T71 HR0_5.out x5_2 p114 q114
                    cases e114
                    replace hx114_0 := (HB.out.cell (World.block_lt_of_cell? w _ hx114_0)).trans hx114_0
                    replace hx114_1 := (HB.out.cell (World.block_lt_of_cell? w _ hx114_1)).trans hx114_1
                    replace p114 := eq_true p114
                    replace q114 := eq_true q114
                    have hcz47_0 : wr.cell? ⟨gb113, 0, none⟩ = some (.int .i64 a1_0) := (blk_cell BK113.out 0).trans rfl
                    have hcz47_1 : wr.cell? ⟨gb113, 1, none⟩ = some (.int .i64 a1_1) := (blk_cell BK113.out 1).trans rfl
                    have hcz47_2 : wr.cell? ⟨gb113, 2, none⟩ = some (.int .i64 a1_2) := (blk_cell BK113.out 2).trans rfl
                    have hcz47_3 : wr.cell? ⟨gb113, 3, none⟩ = some (.bool a1_3) := (blk_cell BK113.out 3).trans rfl
                    have hcz47_4 : wr.cell? ⟨gb113, 4, none⟩ = some (.string a1_4) := (blk_cell BK113.out 4).trans rfl
                    have hcz47_5 : wr.cell? ⟨gb113, 5, none⟩ = some (.slice A1_5 l1_5.length c1_5) := (blk_cell BK113.out 5).trans rfl
                    have hcz47_6 : wr.cell? ⟨gb113, 6, none⟩ = some (.string a1_6) := (blk_cell BK113.out 6).trans rfl
                    have hcz47_7 : wr.cell? ⟨gb113, 7, none⟩ = some (.bool a1_7) := (blk_cell BK113.out 7).trans rfl
                    have hfz47_0 := blk_frozen BK113.out 0
                    have hfz47_1 := blk_frozen BK113.out 1
                    have hfz47_2 := blk_frozen BK113.out 2
                    have hfz47_3 := blk_frozen BK113.out 3
                    have hfz47_4 := blk_frozen BK113.out 4
                    have hfz47_5 := blk_frozen BK113.out 5
                    have hfz47_6 := blk_frozen BK113.out 6
                    have hfz47_7 := blk_frozen BK113.out 7
                    have p115 : 0 ≤ (x5_2 : Int) := of_decide_eq_true (by first | (with_reducible assumption) | assumption)
                    have q115 : x5_2 < (l1_5.length : Int) := of_decide_eq_true (by first | (with_reducible assumption) | assumption)
                    obtain ⟨ad115, e115, hx115_0, hx115_1⟩ := at_T71 HR1_5.out x5_2 p115 q115
                    cases e115
                    replace hx115_0 := (HB.out.cell (World.block_lt_of_cell? w _ hx115_0)).trans hx115_0
                    replace hx115_1 := (HB.out.cell (World.block_lt_of_cell? w _ hx115_1)).trans hx115_1
                    replace p115 := eq_true p115
                    replace q115 := eq_true q115
                    go_wp2
                    repeat (go_quiet (fail); try go_wp2)
                    go_roundg k2
                    case measure => have := HJ2.out; have := HK2.out; omega
                    case rel => exact ⟨(wrap64 (x5_2 + 1)), (by first | rfl | (simp; done) | (simp [*]; done)), H', ⟨by have := HJ2.out; have := HK2.out; omega⟩, ⟨by (with_reducible repeat (first | refine blk_drewN ?_ _ | refine blk_drew ?_ | refine blk_alloc ?_ _)); exact BK112.out⟩, ⟨by (with_reducible repeat (first | refine blk_drewN ?_ _ | refine blk_drew ?_ | refine blk_alloc ?_ _)); exact BK113.out⟩, ⟨by repeat (first | (with_reducible first | exact HB.out | apply below_alloc | apply pw_below_drewN | apply below_drew1 | refine below_set ?_ GE112.out | refine below_set ?_ GE113.out) | exact HB.out)⟩⟩
                · rw [if_neg c40] at H
                  exact absurd H (by simp)
              · rw [if_neg c39] at H
                exact absurd H (by simp)
            · rw [if_neg c38] at H
              have c38b0 : decide (x5_2 < (l0_5.length : Int)) = false := decide_eq_false c38
              clear c38
              obtain rfl := Option.some.inj H
              have hnb48 := NB112_113.out
              have hnc48 := NB113_112.out
              have hcz49_0 : wr.cell? ⟨gb112, 0, none⟩ = some (.int .i64 a0_0) := (blk_cell BK112.out 0).trans rfl
              have hcz49_1 : wr.cell? ⟨gb112, 1, none⟩ = some (.int .i64 a0_1) := (blk_cell BK112.out 1).trans rfl
              have hcz49_2 : wr.cell? ⟨gb112, 2, none⟩ = some (.int .i64 a0_2) := (blk_cell BK112.out 2).trans rfl
              have hcz49_3 : wr.cell? ⟨gb112, 3, none⟩ = some (.bool a0_3) := (blk_cell BK112.out 3).trans rfl
              have hcz49_4 : wr.cell? ⟨gb112, 4, none⟩ = some (.string a0_4) := (blk_cell BK112.out 4).trans rfl
              have hcz49_5 : wr.cell? ⟨gb112, 5, none⟩ = some (.slice A0_5 l0_5.length c0_5) := (blk_cell BK112.out 5).trans rfl
              have hcz49_6 : wr.cell? ⟨gb112, 6, none⟩ = some (.string a0_6) := (blk_cell BK112.out 6).trans rfl
              have hcz49_7 : wr.cell? ⟨gb112, 7, none⟩ = some (.bool a0_7) := (blk_cell BK112.out 7).trans rfl
              have hfz49_0 := blk_frozen BK112.out 0
              have hfz49_1 := blk_frozen BK112.out 1
              have hfz49_2 := blk_frozen BK112.out 2
              have hfz49_3 := blk_frozen BK112.out 3
              have hfz49_4 := blk_frozen BK112.out 4
              have hfz49_5 := blk_frozen BK112.out 5
              have hfz49_6 := blk_frozen BK112.out 6
              have hfz49_7 := blk_frozen BK112.out 7
              go_wp2
              repeat (go_quiet (fail); try go_wp2)
              go_ret
              exact ⟨by first | rfl | (simp [errW_none, errW_some] <;> rfl) | (simp [*, errW_none, errW_some] <;> rfl), by repeat (first | (with_reducible first | exact HB.out | apply below_alloc | apply pw_below_drewN | apply below_drew1 | refine below_set ?_ GE112.out | refine below_set ?_ GE113.out) | exact HB.out)⟩

end Go.Proofs.Ytdeepnpbibhfiaa.POnceMerges

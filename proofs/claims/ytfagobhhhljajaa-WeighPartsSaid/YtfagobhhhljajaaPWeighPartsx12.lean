-- printed by a program of this session (wip/tools), a turned form of the kit's print
import Derived.Test.YtfagobhhhljajaaWPeel
import Derived.Test.YtfagobhhhljajaaPWeighPartsx0
import Derived.Test.YtfagobhhhljajaaPWeighPartsx1
import Derived.Test.YtfagobhhhljajaaPWeighPartsx6
import Derived.Test.YtfagobhhhljajaaPWeighPartsx7
import Derived.Test.YtfagobhhhljajaaPWeighPartsx8
import Derived.Test.YtfagobhhhljajaaPWeighPartsx11
namespace Go.Proofs.Ytfagobhhhljajaa.PWeighParts
open Go.RowKit Go.Proofs.YtfagobhhhljajaaW.PrintWords Go.Proofs.YtfagobhhhljajaaW.PrintLast Go.Proofs.YtfagobhhhljajaaW.PrintMore
attribute [local go_sem] max2_int min2_int max_two min_two max_three min_three max_four min_four max2_str min2_str str_geq str_leq str_gtr   -- for this text's walks alone
set_option linter.unusedVariables false
set_option linter.unusedSimpArgs false

attribute [local go_sem high] eqA39
/-! ### gazetteerlaw3_parts: function 16 -/
mutual
def gazetteerlaw3_parts.j0 : Nat → List Int → List Int → Bool → List (S42) → List (S44) → Int → Bool → Option (Bool)
  | 0, _, _, _, _, _, _, _ => none
  | k + 1, x1, x2, x32, x170000, x170001, x170002, x170003 => if x32 = true then ((gazetteerlaw3_awake.f).bind fun t173 => (some t173)) else (gazetteerlaw3_parts.l0 k x1 x2 19968 0 x170000 x170001 x170002 x170003)
def gazetteerlaw3_parts.l0 : Nat → List Int → List Int → Int → Int → List (S42) → List (S44) → Int → Bool → Option (Bool)
  | 0, _, _, _, _, _, _, _, _ => none
  | k + 1, x1, x2, x7, x8, x170000, x170001, x170002, x170003 => if x8 < (x170001.length : Int) then (gazetteerlaw3_parts.l1 k x1 x2 x7 x8 0 x170000 x170001 x170002 x170003) else (gazetteerlaw3_parts.l2 k x1 x2 x7 0 x170000 x170001 x170002 x170003)
def gazetteerlaw3_parts.l1 : Nat → List Int → List Int → Int → Int → Int → List (S42) → List (S44) → Int → Bool → Option (Bool)
  | 0, _, _, _, _, _, _, _, _, _ => none
  | k + 1, x1, x2, x7, x8, x9, x170000, x170001, x170002, x170003 => if 0 ≤ x8 then (if x8 < (x170001.length : Int) then (if x9 < (((rd_T44 x170001 x8).f0).length : Int) then (if 0 ≤ x9 then (if (rd ((rd_T44 x170001 x8).f0) x9) = x7 then ((gazetteerlaw3_awake.f).bind fun t177 => (some t177)) else (gazetteerlaw3_parts.l1 k x1 x2 x7 x8 (wrap64 (x9 + 1)) x170000 x170001 x170002 x170003)) else (none)) else (gazetteerlaw3_parts.l0 k x1 x2 x7 (wrap64 (x8 + 1)) x170000 x170001 x170002 x170003)) else (none)) else (none)
def gazetteerlaw3_parts.l2 : Nat → List Int → List Int → Int → Int → List (S42) → List (S44) → Int → Bool → Option (Bool)
  | 0, _, _, _, _, _, _, _, _ => none
  | k + 1, x1, x2, x7, x10, x170000, x170001, x170002, x170003 => if x10 < (x170000.length : Int) then (if 0 ≤ x10 then (if ((rd_T42 x170000 x10).f0) = x7 then ((gazetteerlaw3_awake.f).bind fun t179 => (some t179)) else (gazetteerlaw3_parts.l2 k x1 x2 x7 (wrap64 (x10 + 1)) x170000 x170001 x170002 x170003)) else (none)) else ((weigh_Elements.f x170000 x170001 x170002 x170003 x1).bind fun bt180 => ((weigh_Elements.f x170000 x170001 x170002 x170003 x2).bind fun bt184 => ((some (([] : List Int) : List Int)).bind fun y188 => (if y188.length + x1.length < 35184372088832 then ((some (y188 ++ x1 : List Int)).bind fun y191 => ((some (([x7] : List Int) : List Int)).bind fun y194 => (if y191.length + y194.length < 35184372088832 then ((some (y191 ++ y194 : List Int)).bind fun y197 => (if y197.length + x2.length < 35184372088832 then ((weigh_Elements.f x170000 x170001 x170002 x170003 (y197 ++ x2)).bind fun bt203 => (if bt180.2 = 0 then (gazetteerlaw3_parts.j4 k x7 bt180.1 bt184.1 bt203.1 bt203.2 (bt184.2 != 0)) else (gazetteerlaw3_parts.j4 k x7 bt180.1 bt184.1 bt203.1 bt203.2 true))) else (none))) else (none)))) else (none)))))
def gazetteerlaw3_parts.j4 : Nat → Int → List (S39) → List (S39) → List (S39) → Int → Bool → Option (Bool)
  | 0, _, _, _, _, _, _ => none
  | k + 1, x7, x11, x13, x15, x16, x110 => if x110 = true then ((gazetteerlaw3_awake.f).bind fun t207 => (if t207 = true then (some (x16 != 0)) else (some false))) else ((weigh_Implied.f x7).bind fun bt208 => (if x16 = 0 then (gazetteerlaw3_parts.j5 k x11 x15 ((x15.length : Int) != (wrap64 ((wrap64 ((x11.length : Int) + 2)) + (x13.length : Int)))) bt208.1 bt208.2.1 bt208.2.2.1 bt208.2.2.2.1 bt208.2.2.2.2.1 bt208.2.2.2.2.2) else (gazetteerlaw3_parts.j5 k x11 x15 true bt208.1 bt208.2.1 bt208.2.2.1 bt208.2.2.2.1 bt208.2.2.2.2.1 bt208.2.2.2.2.2)))
def gazetteerlaw3_parts.j5 : Nat → List (S39) → List (S39) → Bool → Int → Int → Int → Int → Int → Int → Option (Bool)
  | 0, _, _, _, _, _, _, _, _, _ => none
  | k + 1, x11, x15, x130, x215000, x215001, x215002, x215003, x215004, x215005 => if x130 = true then (some false) else ((gazetteerlaw3_awake.f).bind fun t215 => (if t215 = true then (if 0 ≤ (x11.length : Int) then (if (x11.length : Int) ≤ (x15.length : Int) then ((gazetteerlaw3_Same.f k (x15.take ((x11.length : Int) : Int).toNat) x11).bind fun t220 => (if t220 = true then (if (x11.length : Int) < (x15.length : Int) then (if (((rd_T39 x15 (x11.length : Int)).f0) == x215000 && (((rd_T39 x15 (x11.length : Int)).f1) == x215001 && (((rd_T39 x15 (x11.length : Int)).f2) == x215002))) = true then (if 0 ≤ (wrap64 ((x11.length : Int) + 1)) then (if (wrap64 ((x11.length : Int) + 1)) < (x15.length : Int) then (some (((rd_T39 x15 (wrap64 ((x11.length : Int) + 1))).f0) == x215003 && (((rd_T39 x15 (wrap64 ((x11.length : Int) + 1))).f1) == x215004 && (((rd_T39 x15 (wrap64 ((x11.length : Int) + 1))).f2) == x215005)))) else (none)) else (none)) else (some false)) else (none)) else (some false))) else (none)) else (none)) else (some false)))
end
def gazetteerlaw3_parts.f (k : Nat) (l0_0 : List (S42)) (l0_1 : List (S44)) (a0_2 : Int) (a0_3 : Bool) (l1 : List Int) (l2 : List Int) : Option (Bool) := (gazetteerlaw3_Few.f k l0_0 l0_1 a0_2 a0_3 l1).bind fun t170 => (if t170 = true then ((gazetteerlaw3_Few.f k l0_0 l0_1 a0_2 a0_3 l2).bind fun t171 => (if t171 = true then ((gazetteerref1_TableMay.f l0_0 l0_1 a0_2 a0_3).bind fun t172 => (gazetteerlaw3_parts.j0 k l1 l2 (!t172) l0_0 l0_1 a0_2 a0_3)) else (gazetteerlaw3_parts.j0 k l1 l2 true l0_0 l0_1 a0_2 a0_3))) else (gazetteerlaw3_parts.j0 k l1 l2 true l0_0 l0_1 a0_2 a0_3))
theorem gazetteerlaw3_parts.mono_l : ∀ k, (∀ y0 y1 y2 y3 y4 y5 y6, LeO (gazetteerlaw3_parts.j0 k y0 y1 y2 y3 y4 y5 y6) (gazetteerlaw3_parts.j0 (k + 1) y0 y1 y2 y3 y4 y5 y6)) ∧ (∀ y0 y1 y2 y3 y4 y5 y6 y7, LeO (gazetteerlaw3_parts.l0 k y0 y1 y2 y3 y4 y5 y6 y7) (gazetteerlaw3_parts.l0 (k + 1) y0 y1 y2 y3 y4 y5 y6 y7)) ∧ (∀ y0 y1 y2 y3 y4 y5 y6 y7 y8, LeO (gazetteerlaw3_parts.l1 k y0 y1 y2 y3 y4 y5 y6 y7 y8) (gazetteerlaw3_parts.l1 (k + 1) y0 y1 y2 y3 y4 y5 y6 y7 y8)) ∧ (∀ y0 y1 y2 y3 y4 y5 y6 y7, LeO (gazetteerlaw3_parts.l2 k y0 y1 y2 y3 y4 y5 y6 y7) (gazetteerlaw3_parts.l2 (k + 1) y0 y1 y2 y3 y4 y5 y6 y7)) ∧ (∀ y0 y1 y2 y3 y4 y5, LeO (gazetteerlaw3_parts.j4 k y0 y1 y2 y3 y4 y5) (gazetteerlaw3_parts.j4 (k + 1) y0 y1 y2 y3 y4 y5)) ∧ (∀ y0 y1 y2 y3 y4 y5 y6 y7 y8, LeO (gazetteerlaw3_parts.j5 k y0 y1 y2 y3 y4 y5 y6 y7 y8) (gazetteerlaw3_parts.j5 (k + 1) y0 y1 y2 y3 y4 y5 y6 y7 y8))
  | 0 => ⟨fun _ _ _ _ _ _ _ r h => by simp [gazetteerlaw3_parts.j0] at h, fun _ _ _ _ _ _ _ _ r h => by simp [gazetteerlaw3_parts.l0] at h, fun _ _ _ _ _ _ _ _ _ r h => by simp [gazetteerlaw3_parts.l1] at h, fun _ _ _ _ _ _ _ _ r h => by simp [gazetteerlaw3_parts.l2] at h, fun _ _ _ _ _ _ r h => by simp [gazetteerlaw3_parts.j4] at h, fun _ _ _ _ _ _ _ _ _ r h => by simp [gazetteerlaw3_parts.j5] at h⟩
  | k + 1 => by
    obtain ⟨ih0, ih1, ih2, ih3, ih4, ih5⟩ := gazetteerlaw3_parts.mono_l k
    refine ⟨?_, ?_, ?_, ?_, ?_, ?_⟩
    · intro y0 y1 y2 y3 y4 y5 y6
      unfold gazetteerlaw3_parts.j0
      repeat' first
      | (with_reducible exact ih0 _ _ _ _ _ _ _)
      | (with_reducible exact ih1 _ _ _ _ _ _ _ _)
      | (with_reducible exact ih2 _ _ _ _ _ _ _ _ _)
      | (with_reducible exact ih3 _ _ _ _ _ _ _ _)
      | (with_reducible exact ih4 _ _ _ _ _ _)
      | (with_reducible exact ih5 _ _ _ _ _ _ _ _ _)
      | (with_reducible exact gazetteerlaw3_Few.mono _ _ _ _ _ _)
      | (with_reducible exact gazetteerlaw3_Same.mono _ _ _)
      | (with_reducible exact LeO.refl _)
      | (with_reducible exact LeO.none _)
      | (with_reducible refine LeO.ite ?_ ?_)
      | (with_reducible refine LeO.bind ?_ (fun _ => ?_))
      | exact ih0 _ _ _ _ _ _ _
      | exact ih1 _ _ _ _ _ _ _ _
      | exact ih2 _ _ _ _ _ _ _ _ _
      | exact ih3 _ _ _ _ _ _ _ _
      | exact ih4 _ _ _ _ _ _
      | exact ih5 _ _ _ _ _ _ _ _ _
      | exact gazetteerlaw3_Few.mono _ _ _ _ _ _
      | exact gazetteerlaw3_Same.mono _ _ _
      | exact LeO.none _
      | refine LeO.ite ?_ ?_
      | refine LeO.bind ?_ (fun _ => ?_)
    · intro y0 y1 y2 y3 y4 y5 y6 y7
      unfold gazetteerlaw3_parts.l0
      repeat' first
      | (with_reducible exact ih0 _ _ _ _ _ _ _)
      | (with_reducible exact ih1 _ _ _ _ _ _ _ _)
      | (with_reducible exact ih2 _ _ _ _ _ _ _ _ _)
      | (with_reducible exact ih3 _ _ _ _ _ _ _ _)
      | (with_reducible exact ih4 _ _ _ _ _ _)
      | (with_reducible exact ih5 _ _ _ _ _ _ _ _ _)
      | (with_reducible exact gazetteerlaw3_Few.mono _ _ _ _ _ _)
      | (with_reducible exact gazetteerlaw3_Same.mono _ _ _)
      | (with_reducible exact LeO.refl _)
      | (with_reducible exact LeO.none _)
      | (with_reducible refine LeO.ite ?_ ?_)
      | (with_reducible refine LeO.bind ?_ (fun _ => ?_))
      | exact ih0 _ _ _ _ _ _ _
      | exact ih1 _ _ _ _ _ _ _ _
      | exact ih2 _ _ _ _ _ _ _ _ _
      | exact ih3 _ _ _ _ _ _ _ _
      | exact ih4 _ _ _ _ _ _
      | exact ih5 _ _ _ _ _ _ _ _ _
      | exact gazetteerlaw3_Few.mono _ _ _ _ _ _
      | exact gazetteerlaw3_Same.mono _ _ _
      | exact LeO.none _
      | refine LeO.ite ?_ ?_
      | refine LeO.bind ?_ (fun _ => ?_)
    · intro y0 y1 y2 y3 y4 y5 y6 y7 y8
      unfold gazetteerlaw3_parts.l1
      repeat' first
      | (with_reducible exact ih0 _ _ _ _ _ _ _)
      | (with_reducible exact ih1 _ _ _ _ _ _ _ _)
      | (with_reducible exact ih2 _ _ _ _ _ _ _ _ _)
      | (with_reducible exact ih3 _ _ _ _ _ _ _ _)
      | (with_reducible exact ih4 _ _ _ _ _ _)
      | (with_reducible exact ih5 _ _ _ _ _ _ _ _ _)
      | (with_reducible exact gazetteerlaw3_Few.mono _ _ _ _ _ _)
      | (with_reducible exact gazetteerlaw3_Same.mono _ _ _)
      | (with_reducible exact LeO.refl _)
      | (with_reducible exact LeO.none _)
      | (with_reducible refine LeO.ite ?_ ?_)
      | (with_reducible refine LeO.bind ?_ (fun _ => ?_))
      | exact ih0 _ _ _ _ _ _ _
      | exact ih1 _ _ _ _ _ _ _ _
      | exact ih2 _ _ _ _ _ _ _ _ _
      | exact ih3 _ _ _ _ _ _ _ _
      | exact ih4 _ _ _ _ _ _
      | exact ih5 _ _ _ _ _ _ _ _ _
      | exact gazetteerlaw3_Few.mono _ _ _ _ _ _
      | exact gazetteerlaw3_Same.mono _ _ _
      | exact LeO.none _
      | refine LeO.ite ?_ ?_
      | refine LeO.bind ?_ (fun _ => ?_)
    · intro y0 y1 y2 y3 y4 y5 y6 y7
      unfold gazetteerlaw3_parts.l2
      repeat' first
      | (with_reducible exact ih0 _ _ _ _ _ _ _)
      | (with_reducible exact ih1 _ _ _ _ _ _ _ _)
      | (with_reducible exact ih2 _ _ _ _ _ _ _ _ _)
      | (with_reducible exact ih3 _ _ _ _ _ _ _ _)
      | (with_reducible exact ih4 _ _ _ _ _ _)
      | (with_reducible exact ih5 _ _ _ _ _ _ _ _ _)
      | (with_reducible exact gazetteerlaw3_Few.mono _ _ _ _ _ _)
      | (with_reducible exact gazetteerlaw3_Same.mono _ _ _)
      | (with_reducible exact LeO.refl _)
      | (with_reducible exact LeO.none _)
      | (with_reducible refine LeO.ite ?_ ?_)
      | (with_reducible refine LeO.bind ?_ (fun _ => ?_))
      | exact ih0 _ _ _ _ _ _ _
      | exact ih1 _ _ _ _ _ _ _ _
      | exact ih2 _ _ _ _ _ _ _ _ _
      | exact ih3 _ _ _ _ _ _ _ _
      | exact ih4 _ _ _ _ _ _
      | exact ih5 _ _ _ _ _ _ _ _ _
      | exact gazetteerlaw3_Few.mono _ _ _ _ _ _
      | exact gazetteerlaw3_Same.mono _ _ _
      | exact LeO.none _
      | refine LeO.ite ?_ ?_
      | refine LeO.bind ?_ (fun _ => ?_)
    · intro y0 y1 y2 y3 y4 y5
      unfold gazetteerlaw3_parts.j4
      repeat' first
      | (with_reducible exact ih0 _ _ _ _ _ _ _)
      | (with_reducible exact ih1 _ _ _ _ _ _ _ _)
      | (with_reducible exact ih2 _ _ _ _ _ _ _ _ _)
      | (with_reducible exact ih3 _ _ _ _ _ _ _ _)
      | (with_reducible exact ih4 _ _ _ _ _ _)
      | (with_reducible exact ih5 _ _ _ _ _ _ _ _ _)
      | (with_reducible exact gazetteerlaw3_Few.mono _ _ _ _ _ _)
      | (with_reducible exact gazetteerlaw3_Same.mono _ _ _)
      | (with_reducible exact LeO.refl _)
      | (with_reducible exact LeO.none _)
      | (with_reducible refine LeO.ite ?_ ?_)
      | (with_reducible refine LeO.bind ?_ (fun _ => ?_))
      | exact ih0 _ _ _ _ _ _ _
      | exact ih1 _ _ _ _ _ _ _ _
      | exact ih2 _ _ _ _ _ _ _ _ _
      | exact ih3 _ _ _ _ _ _ _ _
      | exact ih4 _ _ _ _ _ _
      | exact ih5 _ _ _ _ _ _ _ _ _
      | exact gazetteerlaw3_Few.mono _ _ _ _ _ _
      | exact gazetteerlaw3_Same.mono _ _ _
      | exact LeO.none _
      | refine LeO.ite ?_ ?_
      | refine LeO.bind ?_ (fun _ => ?_)
    · intro y0 y1 y2 y3 y4 y5 y6 y7 y8
      unfold gazetteerlaw3_parts.j5
      repeat' first
      | (with_reducible exact ih0 _ _ _ _ _ _ _)
      | (with_reducible exact ih1 _ _ _ _ _ _ _ _)
      | (with_reducible exact ih2 _ _ _ _ _ _ _ _ _)
      | (with_reducible exact ih3 _ _ _ _ _ _ _ _)
      | (with_reducible exact ih4 _ _ _ _ _ _)
      | (with_reducible exact ih5 _ _ _ _ _ _ _ _ _)
      | (with_reducible exact gazetteerlaw3_Few.mono _ _ _ _ _ _)
      | (with_reducible exact gazetteerlaw3_Same.mono _ _ _)
      | (with_reducible exact LeO.refl _)
      | (with_reducible exact LeO.none _)
      | (with_reducible refine LeO.ite ?_ ?_)
      | (with_reducible refine LeO.bind ?_ (fun _ => ?_))
      | exact ih0 _ _ _ _ _ _ _
      | exact ih1 _ _ _ _ _ _ _ _
      | exact ih2 _ _ _ _ _ _ _ _ _
      | exact ih3 _ _ _ _ _ _ _ _
      | exact ih4 _ _ _ _ _ _
      | exact ih5 _ _ _ _ _ _ _ _ _
      | exact gazetteerlaw3_Few.mono _ _ _ _ _ _
      | exact gazetteerlaw3_Same.mono _ _ _
      | exact LeO.none _
      | refine LeO.ite ?_ ?_
      | refine LeO.bind ?_ (fun _ => ?_)
theorem gazetteerlaw3_parts.mono : ∀ a0 a1 a2 a3 a4 a5 k, LeO (gazetteerlaw3_parts.f k a0 a1 a2 a3 a4 a5) (gazetteerlaw3_parts.f (k + 1) a0 a1 a2 a3 a4 a5) := by
  intro a0 a1 a2 a3 a4 a5 k
  obtain ⟨ih0, ih1, ih2, ih3, ih4, ih5⟩ := gazetteerlaw3_parts.mono_l k
  unfold gazetteerlaw3_parts.f
  repeat' first
      | (with_reducible exact ih0 _ _ _ _ _ _ _)
      | (with_reducible exact ih1 _ _ _ _ _ _ _ _)
      | (with_reducible exact ih2 _ _ _ _ _ _ _ _ _)
      | (with_reducible exact ih3 _ _ _ _ _ _ _ _)
      | (with_reducible exact ih4 _ _ _ _ _ _)
      | (with_reducible exact ih5 _ _ _ _ _ _ _ _ _)
      | (with_reducible exact gazetteerlaw3_Few.mono _ _ _ _ _ _)
      | (with_reducible exact gazetteerlaw3_Same.mono _ _ _)
      | (with_reducible exact LeO.refl _)
      | (with_reducible exact LeO.none _)
      | (with_reducible refine LeO.ite ?_ ?_)
      | (with_reducible refine LeO.bind ?_ (fun _ => ?_))
      | exact ih0 _ _ _ _ _ _ _
      | exact ih1 _ _ _ _ _ _ _ _
      | exact ih2 _ _ _ _ _ _ _ _ _
      | exact ih3 _ _ _ _ _ _ _ _
      | exact ih4 _ _ _ _ _ _
      | exact ih5 _ _ _ _ _ _ _ _ _
      | exact gazetteerlaw3_Few.mono _ _ _ _ _ _
      | exact gazetteerlaw3_Same.mono _ _ _
      | exact LeO.none _
      | refine LeO.ite ?_ ?_
      | refine LeO.bind ?_ (fun _ => ?_)
def gazetteerlaw3_parts.T19 : Bool × List (List Nat × List Nat) := (true, [([], []), ([], []), ([], []), ([1, 2], [1, 2]), ([], []), ([4], [4]), ([3, 5, 3], [3, 5]), ([], []), ([6, 7, 6], [6, 7]), ([0, 8, 8], [0, 8]), ([9], [9]), ([10], [10]), ([10], [10]), ([11, 9, 0, 1, 2, 3, 4, 5, 6, 7, 8, 9, 10, 11], [11]), ([12, 13, 0, 1, 2, 3, 4, 5, 6, 7, 8, 9, 10, 11, 12, 13], [12])])
def gazetteerlaw3_parts.B19 : List Nat := [0, 0, 0, 6, 0, 16, 62, 0, 254, 511, 1023, 2047, 2047, 4095, 16383]
theorem gazetteerlaw3_parts.tab19 : rtab .any (opsOf Try.f16 19) = gazetteerlaw3_parts.T19 := by kernel_rfl
theorem gazetteerlaw3_parts.bits19 : waitsOk gazetteerlaw3_parts.T19.2 gazetteerlaw3_parts.B19 = true := by kernel_rfl
def gazetteerlaw3_parts.T25 : Bool × List (List Nat × List Nat) := (true, [([], []), ([0, 0], [0]), ([1], [1]), ([1], [1]), ([3, 1], [1, 3]), ([2, 4, 1], [1, 2, 4]), ([1], [1]), ([5, 6, 1, 1], [1, 5, 6]), ([1, 7], [1, 7]), ([8, 7], [8]), ([9], [9]), ([9], [9]), ([11, 9], [9, 11]), ([10, 12, 9], [9, 10, 12]), ([13, 9], [9, 13]), ([9], [9]), ([15, 9], [9, 15]), ([14, 16, 9], [9, 14, 16]), ([9, 17], [9, 17]), ([18, 9], [18]), ([19], [19]), ([19], [19]), ([21, 19], [19, 21]), ([22, 19], [19, 22]), ([20, 23, 19], [19, 20, 23]), ([24, 19], [19, 24]), ([19], [19]), ([26, 19], [19, 26]), ([25, 27, 19], [19, 25, 27]), ([19, 28], [19, 28]), ([29, 19, 0, 1, 2, 3, 4, 5, 6, 7, 8, 9, 10, 11, 12, 13, 14, 15, 16, 17, 18, 19, 20, 21, 22, 23, 24, 25, 26, 27, 28, 29], [29])])
def gazetteerlaw3_parts.B25 : List Nat := [0, 1, 3, 3, 11, 31, 3, 127, 255, 511, 1023, 1023, 3071, 8191, 16383, 1023, 33791, 131071, 262143, 524287, 1048575, 1048575, 3145727, 7340031, 16777215, 33554431, 1048575, 68157439, 268435455, 536870911, 1073741823]
theorem gazetteerlaw3_parts.tab25 : rtab .any (opsOf Try.f16 25) = gazetteerlaw3_parts.T25 := by kernel_rfl
theorem gazetteerlaw3_parts.bits25 : waitsOk gazetteerlaw3_parts.T25.2 gazetteerlaw3_parts.B25 = true := by kernel_rfl
set_option maxHeartbeats 8000000 in
set_option maxRecDepth 100000 in
theorem gazetteerlaw3_parts.calls (k : Nat) (A0_0 : Option Addr) (c0_0 : Nat) (l0_0 : List (S42)) (A0_1 : Option Addr) (c0_1 : Nat) (l0_1 : List (S44)) (a0_2 : Int) (a0_3 : Bool) (A1 : Option Addr) (c1 : Nat) (l1 : List Int) (A2 : Option Addr) (c2 : Nat) (l2 : List Int) (r : Bool) (w : World) (hr0_0 : Kd.C k42 w A0_0 l0_0.length l0_0) (hc0_0 : l0_0.length ≤ c0_0) (hr0_1 : Kd.C k44 w A0_1 l0_1.length l0_1) (hc0_1 : l0_1.length ≤ c0_1) (hr1 : Kd.C (Kd.int .i32) w A1 l1.length l1) (hc1 : l1.length ≤ c1) (hr2 : Kd.C (Kd.int .i32) w A2 l2.length l2) (hc2 : l2.length ≤ c2) (h : gazetteerlaw3_parts.f k l0_0 l0_1 a0_2 a0_3 l1 l2 = some r) :
    Calls Try.prog 16 #[.agg #[.slice A0_0 l0_0.length c0_0, .slice A0_1 l0_1.length c0_1, .int .i64 a0_2, .bool a0_3], .slice A1 l1.length c1, .slice A2 l2.length c2] w fun e w' => e = .returned (.bool r) ∧ Below w.heap.size w w' := by
  have hu25 := Try.underlying25
  have hu46 := Try.underlying46
  have hu39 := Try.underlying39
  have HR0_0 := Aside0.mk hr0_0
  have HC0_0 := Aside0.mk hc0_0
  clear hr0_0 hc0_0
  have HR0_1 := Aside0.mk hr0_1
  have HC0_1 := Aside0.mk hc0_1
  clear hr0_1 hc0_1
  have HR1 := Aside0.mk hr1
  have HC1 := Aside0.mk hc1
  clear hr1 hc1
  have HR2 := Aside0.mk hr2
  have HC2 := Aside0.mk hc2
  clear hr2 hc2
  have HB := Aside0.mk (Below.refl w.heap.size w)
  have H : ((gazetteerlaw3_Few.f k l0_0 l0_1 a0_2 a0_3 l1).bind fun t170 => (if t170 = true then ((gazetteerlaw3_Few.f k l0_0 l0_1 a0_2 a0_3 l2).bind fun t171 => (if t171 = true then ((gazetteerref1_TableMay.f l0_0 l0_1 a0_2 a0_3).bind fun t172 => (gazetteerlaw3_parts.j0 k l1 l2 (!t172) l0_0 l0_1 a0_2 a0_3)) else (gazetteerlaw3_parts.j0 k l1 l2 true l0_0 l0_1 a0_2 a0_3))) else (gazetteerlaw3_parts.j0 k l1 l2 true l0_0 l0_1 a0_2 a0_3))) = some r := h
  clear h
  have HC4 := Aside0.mk H
  clear H
  go_enter Try.func16, Try.ntmps16
  go_upto_region 1 with (first | ((with_reducible refine gate_dst (N := 3) rfl ?_); (try (refine gate_guard (by rfl) ?_; dsimp only)); refine box_event ?hg (N := 3) ?hd (cs := #[.slice A0_0 l0_0.length c0_0, .slice A0_1 l0_1.length c0_1, .int .i64 a0_2, .bool a0_3]) (t := 25) ?hr ?_; (case hd => rfl); (case hg => rfl); (case hr => first | (go_simp; done) | (go_simp; rfl)); intro gb169 hg w5 hbox hb; have BK169 := Aside0.mk (hbox); have GW169 := geL hg HB.out; have GE169 := geL hg HB.out; replace HB := Aside0.mk (below_step (pB HB.out) hb); clear hb hbox hg))
  (try simp only [Act.put, List.setIfInBounds_toArray, List.set_cons_zero, List.set_cons_succ])
  go_cut [32] (fun v32 wc => ∃ (kq : Nat) (x32_3 : Bool), v32 = .bool x32_3 ∧ Aside0 (gazetteerlaw3_parts.j0 kq l1 l2 x32_3 l0_0 l0_1 a0_2 a0_3 = some r) ∧ Aside0 (kq ≤ k) ∧ Aside0 (wc.heap[gb169]? = some (.cells #[(.slice A0_0 l0_0.length c0_0), (.slice A0_1 l0_1.length c0_1), .int .i64 a0_2, .bool a0_3] 25 (0, 0))) ∧ Aside0 (Below w.heap.size w wc))
  case first =>
   have H := HC4.out
   clear HC4
   replace H := Option.bind_eq_some_iff.mp H
   obtain ⟨t170, A60, H⟩ := H
   replace H : (if t170 = true then ((gazetteerlaw3_Few.f k l0_0 l0_1 a0_2 a0_3 l2).bind fun t171 => (if t171 = true then ((gazetteerref1_TableMay.f l0_0 l0_1 a0_2 a0_3).bind fun t172 => (gazetteerlaw3_parts.j0 k l1 l2 (!t172) l0_0 l0_1 a0_2 a0_3)) else (gazetteerlaw3_parts.j0 k l1 l2 true l0_0 l0_1 a0_2 a0_3))) else (gazetteerlaw3_parts.j0 k l1 l2 true l0_0 l0_1 a0_2 a0_3)) = some r := H
   have A6 := Aside0.mk A60
   clear A60
   by_cases c7 : t170 = true
   rotate_left
   ·
    replace c7 := Bool.eq_false_iff.mpr c7
    subst c7
    have H1 : (gazetteerlaw3_parts.j0 k l1 l2 true l0_0 l0_1 a0_2 a0_3) = some r := by rw [if_neg (show ¬ (false = true) by decide)] at H; exact H
    clear H
    have H := H1
    clear H1
    have H' := Aside0.mk H
    clear H
    have hcz21_0 : w5.cell? ⟨gb169, 0, none⟩ = some (.slice A0_0 l0_0.length c0_0) := blk_cell BK169.out 0
    have hcz21_1 : w5.cell? ⟨gb169, 1, none⟩ = some (.slice A0_1 l0_1.length c0_1) := blk_cell BK169.out 1
    have hcz21_2 : w5.cell? ⟨gb169, 2, none⟩ = some (.int .i64 a0_2) := blk_cell BK169.out 2
    have hcz21_3 : w5.cell? ⟨gb169, 3, none⟩ = some (.bool a0_3) := blk_cell BK169.out 3
    have hfz21_0 := blk_frozen BK169.out 0
    have hfz21_1 := blk_frozen BK169.out 1
    have hfz21_2 := blk_frozen BK169.out 2
    have hfz21_3 := blk_frozen BK169.out 3
    go_wp2_with (first | ((with_reducible refine gate_callee (f := 10) rfl ?_); refine goesL_ (some 20) rfl rfl Try.func10 (by kernel_rfl) rfl #[.agg #[.slice A0_0 l0_0.length c0_0, .slice A0_1 l0_1.length c0_1, .int .i64 a0_2, .bool a0_3], .slice A1 l1.length c1] rfl (by (try simp only [List.map_toArray, List.map_cons, List.map_nil]); first | done | rfl | (simp only [List.length_drop, List.length_take]; done) | (simp only [List.length_drop, List.length_take]; rfl)) ?_; (with_reducible refine (gazetteerlaw3_Few.calls k _ _ l0_0 _ _ l0_1 a0_2 a0_3 _ _ l1 false _ ?side1 ?side2 ?side3 ?side4 ?side5 ?side6 A6.out).mono ?_); (case side1 => repeat (first | exact (Kd.C_below HR0_0.out HB.out) | (with_reducible refine Kd.C_alloc ?_ _) | (with_reducible refine Kd.C_drewN ?_ _) | (with_reducible refine Kd.C_drew ?_))); (case side2 => exact HC0_0.out); (case side3 => repeat (first | exact (Kd.C_below HR0_1.out HB.out) | (with_reducible refine Kd.C_alloc ?_ _) | (with_reducible refine Kd.C_drewN ?_ _) | (with_reducible refine Kd.C_drew ?_))); (case side4 => exact HC0_1.out); (case side5 => repeat (first | exact (Kd.C_below HR1.out HB.out) | (with_reducible refine Kd.C_alloc ?_ _) | (with_reducible refine Kd.C_drewN ?_ _) | (with_reducible refine Kd.C_drew ?_))); (case side6 => exact HC1.out); rintro e w22 ⟨rfl, hb⟩; refine ⟨_, rfl, ?_⟩; replace BK169 := Aside0.mk (blk_below (pb BK169.out) hb); replace HB := Aside0.mk (below_step (pB HB.out) hb); (try clear hb); (try clear hb2); (try clear hk); (try clear hi)))
    go_meet
    case rel => exact ⟨_, (true), (by first | rfl | (simp; done) | (simp [*]; done)), H', ⟨by first | omega | exact Nat.le_refl _⟩, ⟨by (with_reducible repeat (first | refine blk_drewN ?_ _ | refine blk_drew ?_ | refine blk_alloc ?_ _)); exact BK169.out⟩, ⟨by repeat (first | (with_reducible first | exact HB.out | apply below_alloc | apply pw_below_drewN | apply below_drew1 | refine below_set ?_ GE169.out) | exact HB.out)⟩⟩
   subst c7
   have H1 : ((gazetteerlaw3_Few.f k l0_0 l0_1 a0_2 a0_3 l2).bind fun t171 => (if t171 = true then ((gazetteerref1_TableMay.f l0_0 l0_1 a0_2 a0_3).bind fun t172 => (gazetteerlaw3_parts.j0 k l1 l2 (!t172) l0_0 l0_1 a0_2 a0_3)) else (gazetteerlaw3_parts.j0 k l1 l2 true l0_0 l0_1 a0_2 a0_3))) = some r := by rw [if_pos rfl] at H; exact H
   clear H
   have H := H1
   clear H1
   replace H := Option.bind_eq_some_iff.mp H
   obtain ⟨t171, A80, H⟩ := H
   replace H : (if t171 = true then ((gazetteerref1_TableMay.f l0_0 l0_1 a0_2 a0_3).bind fun t172 => (gazetteerlaw3_parts.j0 k l1 l2 (!t172) l0_0 l0_1 a0_2 a0_3)) else (gazetteerlaw3_parts.j0 k l1 l2 true l0_0 l0_1 a0_2 a0_3)) = some r := H
   have A8 := Aside0.mk A80
   clear A80
   by_cases c9 : t171 = true
   rotate_left
   ·
    replace c9 := Bool.eq_false_iff.mpr c9
    subst c9
    have H1 : (gazetteerlaw3_parts.j0 k l1 l2 true l0_0 l0_1 a0_2 a0_3) = some r := by rw [if_neg (show ¬ (false = true) by decide)] at H; exact H
    clear H
    have H := H1
    clear H1
    have H' := Aside0.mk H
    clear H
    have hcz17_0 : w5.cell? ⟨gb169, 0, none⟩ = some (.slice A0_0 l0_0.length c0_0) := blk_cell BK169.out 0
    have hcz17_1 : w5.cell? ⟨gb169, 1, none⟩ = some (.slice A0_1 l0_1.length c0_1) := blk_cell BK169.out 1
    have hcz17_2 : w5.cell? ⟨gb169, 2, none⟩ = some (.int .i64 a0_2) := blk_cell BK169.out 2
    have hcz17_3 : w5.cell? ⟨gb169, 3, none⟩ = some (.bool a0_3) := blk_cell BK169.out 3
    have hfz17_0 := blk_frozen BK169.out 0
    have hfz17_1 := blk_frozen BK169.out 1
    have hfz17_2 := blk_frozen BK169.out 2
    have hfz17_3 := blk_frozen BK169.out 3
    go_wp2_with (first | ((with_reducible refine gate_callee (f := 10) rfl ?_); refine goesL_ (some 20) rfl rfl Try.func10 (by kernel_rfl) rfl #[.agg #[.slice A0_0 l0_0.length c0_0, .slice A0_1 l0_1.length c0_1, .int .i64 a0_2, .bool a0_3], .slice A1 l1.length c1] rfl (by (try simp only [List.map_toArray, List.map_cons, List.map_nil]); first | done | rfl | (simp only [List.length_drop, List.length_take]; done) | (simp only [List.length_drop, List.length_take]; rfl)) ?_; (with_reducible refine (gazetteerlaw3_Few.calls k _ _ l0_0 _ _ l0_1 a0_2 a0_3 _ _ l1 true _ ?side1 ?side2 ?side3 ?side4 ?side5 ?side6 A6.out).mono ?_); (case side1 => repeat (first | exact (Kd.C_below HR0_0.out HB.out) | (with_reducible refine Kd.C_alloc ?_ _) | (with_reducible refine Kd.C_drewN ?_ _) | (with_reducible refine Kd.C_drew ?_))); (case side2 => exact HC0_0.out); (case side3 => repeat (first | exact (Kd.C_below HR0_1.out HB.out) | (with_reducible refine Kd.C_alloc ?_ _) | (with_reducible refine Kd.C_drewN ?_ _) | (with_reducible refine Kd.C_drew ?_))); (case side4 => exact HC0_1.out); (case side5 => repeat (first | exact (Kd.C_below HR1.out HB.out) | (with_reducible refine Kd.C_alloc ?_ _) | (with_reducible refine Kd.C_drewN ?_ _) | (with_reducible refine Kd.C_drew ?_))); (case side6 => exact HC1.out); rintro e w18 ⟨rfl, hb⟩; refine ⟨_, rfl, ?_⟩; replace BK169 := Aside0.mk (blk_below (pb BK169.out) hb); replace HB := Aside0.mk (below_step (pB HB.out) hb); (try clear hb); (try clear hb2); (try clear hk); (try clear hi); have hcz19_0 : w18.cell? ⟨gb169, 0, none⟩ = some (.slice A0_0 l0_0.length c0_0) := blk_cell BK169.out 0; have hcz19_1 : w18.cell? ⟨gb169, 1, none⟩ = some (.slice A0_1 l0_1.length c0_1) := blk_cell BK169.out 1; have hcz19_2 : w18.cell? ⟨gb169, 2, none⟩ = some (.int .i64 a0_2) := blk_cell BK169.out 2; have hcz19_3 : w18.cell? ⟨gb169, 3, none⟩ = some (.bool a0_3) := blk_cell BK169.out 3; have hfz19_0 := blk_frozen BK169.out 0; have hfz19_1 := blk_frozen BK169.out 1; have hfz19_2 := blk_frozen BK169.out 2; have hfz19_3 := blk_frozen BK169.out 3) | (go_at_call 10; (with_reducible refine (gazetteerlaw3_Few.calls k _ _ l0_0 _ _ l0_1 a0_2 a0_3 _ _ l2 false _ ?side1 ?side2 ?side3 ?side4 ?side5 ?side6 A8.out).mono ?_); (case side1 => repeat (first | exact (Kd.C_below HR0_0.out HB.out) | (with_reducible refine Kd.C_alloc ?_ _) | (with_reducible refine Kd.C_drewN ?_ _) | (with_reducible refine Kd.C_drew ?_))); (case side2 => exact HC0_0.out); (case side3 => repeat (first | exact (Kd.C_below HR0_1.out HB.out) | (with_reducible refine Kd.C_alloc ?_ _) | (with_reducible refine Kd.C_drewN ?_ _) | (with_reducible refine Kd.C_drew ?_))); (case side4 => exact HC0_1.out); (case side5 => repeat (first | exact (Kd.C_below HR2.out HB.out) | (with_reducible refine Kd.C_alloc ?_ _) | (with_reducible refine Kd.C_drewN ?_ _) | (with_reducible refine Kd.C_drew ?_))); (case side6 => exact HC2.out); rintro e w20 ⟨rfl, hb⟩; replace BK169 := Aside0.mk (blk_below (pb BK169.out) hb); replace HB := Aside0.mk (below_step (pB HB.out) hb); (try clear hb); (try clear hb2); (try clear hk); (try clear hi)))
    go_meet
    case rel => exact ⟨_, (true), (by first | rfl | (simp; done) | (simp [*]; done)), H', ⟨by first | omega | exact Nat.le_refl _⟩, ⟨by (with_reducible repeat (first | refine blk_drewN ?_ _ | refine blk_drew ?_ | refine blk_alloc ?_ _)); exact BK169.out⟩, ⟨by repeat (first | (with_reducible first | exact HB.out | apply below_alloc | apply pw_below_drewN | apply below_drew1 | refine below_set ?_ GE169.out) | exact HB.out)⟩⟩
   subst c9
   have H1 : ((gazetteerref1_TableMay.f l0_0 l0_1 a0_2 a0_3).bind fun t172 => (gazetteerlaw3_parts.j0 k l1 l2 (!t172) l0_0 l0_1 a0_2 a0_3)) = some r := by rw [if_pos rfl] at H; exact H
   clear H
   have H := H1
   clear H1
   replace H := Option.bind_eq_some_iff.mp H
   obtain ⟨t172, A100, H⟩ := H
   replace H : (gazetteerlaw3_parts.j0 k l1 l2 (!t172) l0_0 l0_1 a0_2 a0_3) = some r := H
   have A10 := Aside0.mk A100
   clear A100
   have H' := Aside0.mk H
   clear H
   have hcz11_0 : w5.cell? ⟨gb169, 0, none⟩ = some (.slice A0_0 l0_0.length c0_0) := blk_cell BK169.out 0
   have hcz11_1 : w5.cell? ⟨gb169, 1, none⟩ = some (.slice A0_1 l0_1.length c0_1) := blk_cell BK169.out 1
   have hcz11_2 : w5.cell? ⟨gb169, 2, none⟩ = some (.int .i64 a0_2) := blk_cell BK169.out 2
   have hcz11_3 : w5.cell? ⟨gb169, 3, none⟩ = some (.bool a0_3) := blk_cell BK169.out 3
   have hfz11_0 := blk_frozen BK169.out 0
   have hfz11_1 := blk_frozen BK169.out 1
   have hfz11_2 := blk_frozen BK169.out 2
   have hfz11_3 := blk_frozen BK169.out 3
   go_wp2_with (first | ((with_reducible refine gate_callee (f := 10) rfl ?_); refine goesL_ (some 20) rfl rfl Try.func10 (by kernel_rfl) rfl #[.agg #[.slice A0_0 l0_0.length c0_0, .slice A0_1 l0_1.length c0_1, .int .i64 a0_2, .bool a0_3], .slice A1 l1.length c1] rfl (by (try simp only [List.map_toArray, List.map_cons, List.map_nil]); first | done | rfl | (simp only [List.length_drop, List.length_take]; done) | (simp only [List.length_drop, List.length_take]; rfl)) ?_; (with_reducible refine (gazetteerlaw3_Few.calls k _ _ l0_0 _ _ l0_1 a0_2 a0_3 _ _ l1 true _ ?side1 ?side2 ?side3 ?side4 ?side5 ?side6 A6.out).mono ?_); (case side1 => repeat (first | exact (Kd.C_below HR0_0.out HB.out) | (with_reducible refine Kd.C_alloc ?_ _) | (with_reducible refine Kd.C_drewN ?_ _) | (with_reducible refine Kd.C_drew ?_))); (case side2 => exact HC0_0.out); (case side3 => repeat (first | exact (Kd.C_below HR0_1.out HB.out) | (with_reducible refine Kd.C_alloc ?_ _) | (with_reducible refine Kd.C_drewN ?_ _) | (with_reducible refine Kd.C_drew ?_))); (case side4 => exact HC0_1.out); (case side5 => repeat (first | exact (Kd.C_below HR1.out HB.out) | (with_reducible refine Kd.C_alloc ?_ _) | (with_reducible refine Kd.C_drewN ?_ _) | (with_reducible refine Kd.C_drew ?_))); (case side6 => exact HC1.out); rintro e w12 ⟨rfl, hb⟩; refine ⟨_, rfl, ?_⟩; replace BK169 := Aside0.mk (blk_below (pb BK169.out) hb); replace HB := Aside0.mk (below_step (pB HB.out) hb); (try clear hb); (try clear hb2); (try clear hk); (try clear hi); have hcz13_0 : w12.cell? ⟨gb169, 0, none⟩ = some (.slice A0_0 l0_0.length c0_0) := blk_cell BK169.out 0; have hcz13_1 : w12.cell? ⟨gb169, 1, none⟩ = some (.slice A0_1 l0_1.length c0_1) := blk_cell BK169.out 1; have hcz13_2 : w12.cell? ⟨gb169, 2, none⟩ = some (.int .i64 a0_2) := blk_cell BK169.out 2; have hcz13_3 : w12.cell? ⟨gb169, 3, none⟩ = some (.bool a0_3) := blk_cell BK169.out 3; have hfz13_0 := blk_frozen BK169.out 0; have hfz13_1 := blk_frozen BK169.out 1; have hfz13_2 := blk_frozen BK169.out 2; have hfz13_3 := blk_frozen BK169.out 3) | (go_at_call 10; (with_reducible refine (gazetteerlaw3_Few.calls k _ _ l0_0 _ _ l0_1 a0_2 a0_3 _ _ l2 true _ ?side1 ?side2 ?side3 ?side4 ?side5 ?side6 A8.out).mono ?_); (case side1 => repeat (first | exact (Kd.C_below HR0_0.out HB.out) | (with_reducible refine Kd.C_alloc ?_ _) | (with_reducible refine Kd.C_drewN ?_ _) | (with_reducible refine Kd.C_drew ?_))); (case side2 => exact HC0_0.out); (case side3 => repeat (first | exact (Kd.C_below HR0_1.out HB.out) | (with_reducible refine Kd.C_alloc ?_ _) | (with_reducible refine Kd.C_drewN ?_ _) | (with_reducible refine Kd.C_drew ?_))); (case side4 => exact HC0_1.out); (case side5 => repeat (first | exact (Kd.C_below HR2.out HB.out) | (with_reducible refine Kd.C_alloc ?_ _) | (with_reducible refine Kd.C_drewN ?_ _) | (with_reducible refine Kd.C_drew ?_))); (case side6 => exact HC2.out); rintro e w14 ⟨rfl, hb⟩; replace BK169 := Aside0.mk (blk_below (pb BK169.out) hb); replace HB := Aside0.mk (below_step (pB HB.out) hb); (try clear hb); (try clear hb2); (try clear hk); (try clear hi); have hcz15_0 : w14.cell? ⟨gb169, 0, none⟩ = some (.slice A0_0 l0_0.length c0_0) := blk_cell BK169.out 0; have hcz15_1 : w14.cell? ⟨gb169, 1, none⟩ = some (.slice A0_1 l0_1.length c0_1) := blk_cell BK169.out 1; have hcz15_2 : w14.cell? ⟨gb169, 2, none⟩ = some (.int .i64 a0_2) := blk_cell BK169.out 2; have hcz15_3 : w14.cell? ⟨gb169, 3, none⟩ = some (.bool a0_3) := blk_cell BK169.out 3; have hfz15_0 := blk_frozen BK169.out 0; have hfz15_1 := blk_frozen BK169.out 1; have hfz15_2 := blk_frozen BK169.out 2; have hfz15_3 := blk_frozen BK169.out 3) | (go_at_call 15; (with_reducible refine (gazetteerref1_TableMay.calls _ _ l0_0 _ _ l0_1 a0_2 a0_3 t172 _ ?side1 ?side2 ?side3 ?side4 A10.out).mono ?_); (case side1 => repeat (first | exact (Kd.C_below HR0_0.out HB.out) | (with_reducible refine Kd.C_alloc ?_ _) | (with_reducible refine Kd.C_drewN ?_ _) | (with_reducible refine Kd.C_drew ?_))); (case side2 => exact HC0_0.out); (case side3 => repeat (first | exact (Kd.C_below HR0_1.out HB.out) | (with_reducible refine Kd.C_alloc ?_ _) | (with_reducible refine Kd.C_drewN ?_ _) | (with_reducible refine Kd.C_drew ?_))); (case side4 => exact HC0_1.out); rintro e w16 ⟨rfl, hb⟩; replace BK169 := Aside0.mk (blk_below (pb BK169.out) hb); replace HB := Aside0.mk (below_step (pB HB.out) hb); (try clear hb); (try clear hb2); (try clear hk); (try clear hi)))
   go_meet
   case rel => exact ⟨_, (!t172), (by first | rfl | (simp; done) | (simp [*]; done)), H', ⟨by first | omega | exact Nat.le_refl _⟩, ⟨by (with_reducible repeat (first | refine blk_drewN ?_ _ | refine blk_drew ?_ | refine blk_alloc ?_ _)); exact BK169.out⟩, ⟨by repeat (first | (with_reducible first | exact HB.out | apply below_alloc | apply pw_below_drewN | apply below_drew1 | refine below_set ?_ GE169.out) | exact HB.out)⟩⟩
  case rest =>
   clear HC4
   try clear c1
   try clear c2
   try clear p2
   try clear c7
   try clear c9
   try clear c10
   try clear c16
   try clear hcz11_0
   try clear hcz11_1
   try clear hcz11_2
   try clear hcz11_3
   try clear hcz13_0
   try clear hcz13_1
   try clear hcz13_2
   try clear hcz13_3
   try clear hcz15_0
   try clear hcz15_1
   try clear hcz15_2
   try clear hcz15_3
   try clear hcz17_0
   try clear hcz17_1
   try clear hcz17_2
   try clear hcz17_3
   try clear hcz19_0
   try clear hcz19_1
   try clear hcz19_2
   try clear hcz19_3
   try clear hcz21_0
   try clear hcz21_1
   try clear hcz21_2
   try clear hcz21_3
   try clear hfz11_0
   try clear hfz11_1
   try clear hfz11_2
   try clear hfz11_3
   try clear hfz13_0
   try clear hfz13_1
   try clear hfz13_2
   try clear hfz13_3
   try clear hfz15_0
   try clear hfz15_1
   try clear hfz15_2
   try clear hfz15_3
   try clear hfz17_0
   try clear hfz17_1
   try clear hfz17_2
   try clear hfz17_3
   try clear hfz19_0
   try clear hfz19_1
   try clear hfz19_2
   try clear hfz19_3
   try clear hfz21_0
   try clear hfz21_1
   try clear hfz21_2
   try clear hfz21_3
   obtain ⟨kq, x32_3, rfl, HA, HJ3, BK169, HB⟩ := hcut
   cases kq with
   | zero => exact absurd HA.out (by simp [gazetteerlaw3_parts.j0])
   | succ kj3 =>
    have H := HA.out
    clear HA
    simp only [gazetteerlaw3_parts.j0] at H
    by_cases c23 : x32_3 = true
    ·
     subst c23
     have H1 : ((gazetteerlaw3_awake.f).bind fun t173 => (some t173)) = some r := by rw [if_pos rfl] at H; exact H
     clear H
     have H := H1
     clear H1
     replace H := Option.bind_eq_some_iff.mp H
     obtain ⟨t173, A240, H⟩ := H
     replace H : (some t173) = some r := H
     have A24 := Aside0.mk A240
     clear A240
     obtain rfl := Option.some.inj H
     go_wp2_with (first | ((with_reducible refine gate_callee (f := 9) rfl ?_); refine goesL_ (some 33) rfl rfl Try.func9 (by kernel_rfl) rfl #[] rfl (by (try simp only [List.map_toArray, List.map_cons, List.map_nil]); first | done | rfl | (simp only [List.length_drop, List.length_take]; done) | (simp only [List.length_drop, List.length_take]; rfl)) ?_; (with_reducible refine (gazetteerlaw3_awake.calls  t173 _ A24.out).mono ?_); rintro e w25 ⟨rfl, hb⟩; refine ⟨_, rfl, ?_⟩; replace BK169 := Aside0.mk (blk_below (pb BK169.out) hb); replace HB := Aside0.mk (below_step (pB HB.out) hb); (try clear hb); (try clear hb2); (try clear hk); (try clear hi)))
     go_ret
     exact ⟨by first | rfl | (simp [errW_none, errW_some] <;> rfl) | (simp [*, errW_none, errW_some] <;> rfl), by repeat (first | (with_reducible first | exact HB.out | apply below_alloc | apply pw_below_drewN | apply below_drew1 | refine below_set ?_ GE169.out) | exact HB.out)⟩
    replace c23 := Bool.eq_false_iff.mpr c23
    subst c23
    have H1 : (gazetteerlaw3_parts.l0 kj3 l1 l2 19968 0 l0_0 l0_1 a0_2 a0_3) = some r := by rw [if_neg (show ¬ (false = true) by decide)] at H; exact H
    clear H
    have H := H1
    clear H1
    have H' := Aside0.mk H
    clear H
    go_wp2
    go_loopg [8] kj3 (fun kq v8 w' => ∃ (x8_2 : Int), v8 = .int .i64 x8_2 ∧ Aside0 (gazetteerlaw3_parts.l0 kq l1 l2 19968 x8_2 l0_0 l0_1 a0_2 a0_3 = some r) ∧ Aside0 (kq ≤ kj3) ∧ Aside0 (w'.heap[gb169]? = some (.cells #[(.slice A0_0 l0_0.length c0_0), (.slice A0_1 l0_1.length c0_1), .int .i64 a0_2, .bool a0_3] 25 (0, 0))) ∧ Aside0 (Below w.heap.size w w'))
    case atStart => exact ⟨(0), (by first | rfl | (simp; done) | (simp [*]; done)), H', ⟨Nat.le_refl _⟩, ⟨by (with_reducible repeat (first | refine blk_drewN ?_ _ | refine blk_drew ?_ | refine blk_alloc ?_ _)); exact BK169.out⟩, ⟨by repeat (first | (with_reducible first | exact HB.out | apply below_alloc | apply pw_below_drewN | apply below_drew1 | refine below_set ?_ GE169.out) | exact HB.out)⟩⟩
    case round =>
     clear H'
     try clear c1
     try clear c2
     try clear p2
     try clear c7
     try clear c9
     try clear c10
     try clear c16
     try clear c23
     try clear hcz11_0
     try clear hcz11_1
     try clear hcz11_2
     try clear hcz11_3
     try clear hcz13_0
     try clear hcz13_1
     try clear hcz13_2
     try clear hcz13_3
     try clear hcz15_0
     try clear hcz15_1
     try clear hcz15_2
     try clear hcz15_3
     try clear hcz17_0
     try clear hcz17_1
     try clear hcz17_2
     try clear hcz17_3
     try clear hcz19_0
     try clear hcz19_1
     try clear hcz19_2
     try clear hcz19_3
     try clear hcz21_0
     try clear hcz21_1
     try clear hcz21_2
     try clear hcz21_3
     try clear hfz11_0
     try clear hfz11_1
     try clear hfz11_2
     try clear hfz11_3
     try clear hfz13_0
     try clear hfz13_1
     try clear hfz13_2
     try clear hfz13_3
     try clear hfz15_0
     try clear hfz15_1
     try clear hfz15_2
     try clear hfz15_3
     try clear hfz17_0
     try clear hfz17_1
     try clear hfz17_2
     try clear hfz17_3
     try clear hfz19_0
     try clear hfz19_1
     try clear hfz19_2
     try clear hfz19_3
     try clear hfz21_0
     try clear hfz21_1
     try clear hfz21_2
     try clear hfz21_3
     try clear p2
     obtain ⟨x8_2, rfl, HA, HK2, BK169, HB⟩ := hrel
     cases gk with
     | zero => exact absurd HA.out (by simp [gazetteerlaw3_parts.l0])
     | succ k2 =>
      have H := HA.out
      clear HA
      simp only [gazetteerlaw3_parts.l0] at H
      by_cases c26 : x8_2 < (l0_1.length : Int)
      ·
       rw [if_pos c26] at H
       have c26b0 : decide (x8_2 < (l0_1.length : Int)) = true := decide_eq_true c26
       clear c26
       have H' := Aside0.mk H
       clear H
       have hcz27_0 : wr.cell? ⟨gb169, 0, none⟩ = some (.slice A0_0 l0_0.length c0_0) := blk_cell BK169.out 0
       have hcz27_1 : wr.cell? ⟨gb169, 1, none⟩ = some (.slice A0_1 l0_1.length c0_1) := blk_cell BK169.out 1
       have hcz27_2 : wr.cell? ⟨gb169, 2, none⟩ = some (.int .i64 a0_2) := blk_cell BK169.out 2
       have hcz27_3 : wr.cell? ⟨gb169, 3, none⟩ = some (.bool a0_3) := blk_cell BK169.out 3
       have hfz27_0 := blk_frozen BK169.out 0
       have hfz27_1 := blk_frozen BK169.out 1
       have hfz27_2 := blk_frozen BK169.out 2
       have hfz27_3 := blk_frozen BK169.out 3
       go_wp2
       go_loopg [9] k2 (fun kq v9 w' => ∃ (x9_3 : Int), v9 = .int .i64 x9_3 ∧ Aside0 (gazetteerlaw3_parts.l1 kq l1 l2 19968 x8_2 x9_3 l0_0 l0_1 a0_2 a0_3 = some r) ∧ Aside0 (kq ≤ k2) ∧ Aside0 (w'.heap[gb169]? = some (.cells #[(.slice A0_0 l0_0.length c0_0), (.slice A0_1 l0_1.length c0_1), .int .i64 a0_2, .bool a0_3] 25 (0, 0))) ∧ Aside0 (Below w.heap.size w w'))
       case atStart => exact ⟨(0), (by first | rfl | (simp; done) | (simp [*]; done)), H', ⟨Nat.le_refl _⟩, ⟨by (with_reducible repeat (first | refine blk_drewN ?_ _ | refine blk_drew ?_ | refine blk_alloc ?_ _)); exact BK169.out⟩, ⟨by repeat (first | (with_reducible first | exact HB.out | apply below_alloc | apply pw_below_drewN | apply below_drew1 | refine below_set ?_ GE169.out) | exact HB.out)⟩⟩
       case round =>
        clear H'
        try clear c1
        try clear c2
        try clear p2
        try clear c7
        try clear c9
        try clear c10
        try clear c16
        try clear c23
        try clear c26
        try clear c26b0
        try clear hcz11_0
        try clear hcz11_1
        try clear hcz11_2
        try clear hcz11_3
        try clear hcz13_0
        try clear hcz13_1
        try clear hcz13_2
        try clear hcz13_3
        try clear hcz15_0
        try clear hcz15_1
        try clear hcz15_2
        try clear hcz15_3
        try clear hcz17_0
        try clear hcz17_1
        try clear hcz17_2
        try clear hcz17_3
        try clear hcz19_0
        try clear hcz19_1
        try clear hcz19_2
        try clear hcz19_3
        try clear hcz21_0
        try clear hcz21_1
        try clear hcz21_2
        try clear hcz21_3
        try clear hcz27_0
        try clear hcz27_1
        try clear hcz27_2
        try clear hcz27_3
        try clear hfz11_0
        try clear hfz11_1
        try clear hfz11_2
        try clear hfz11_3
        try clear hfz13_0
        try clear hfz13_1
        try clear hfz13_2
        try clear hfz13_3
        try clear hfz15_0
        try clear hfz15_1
        try clear hfz15_2
        try clear hfz15_3
        try clear hfz17_0
        try clear hfz17_1
        try clear hfz17_2
        try clear hfz17_3
        try clear hfz19_0
        try clear hfz19_1
        try clear hfz19_2
        try clear hfz19_3
        try clear hfz21_0
        try clear hfz21_1
        try clear hfz21_2
        try clear hfz21_3
        try clear hfz27_0
        try clear hfz27_1
        try clear hfz27_2
        try clear hfz27_3
        try clear p2
        obtain ⟨x9_3, rfl, HA, HK3, BK169, HB⟩ := hrel
        cases gk with
        | zero => exact absurd HA.out (by simp [gazetteerlaw3_parts.l1])
        | succ k3 =>
         have H := HA.out
         clear HA
         simp only [gazetteerlaw3_parts.l1] at H
         by_cases c28 : 0 ≤ x8_2
         rotate_left
         · rw [if_neg c28] at H
           exact absurd H (by simp)
         rw [if_pos c28] at H
         have c28b0 : decide (0 ≤ x8_2) = true := decide_eq_true c28
         clear c28
         by_cases c29 : x8_2 < (l0_1.length : Int)
         rotate_left
         · rw [if_neg c29] at H
           exact absurd H (by simp)
         rw [if_pos c29] at H
         have c29b0 : decide (x8_2 < (l0_1.length : Int)) = true := decide_eq_true c29
         clear c29
         by_cases c30 : x9_3 < (((rd_T44 l0_1 x8_2).f0).length : Int)
         rotate_left
         ·
          rw [if_neg c30] at H
          have c30b0 : decide (x9_3 < (((rd_T44 l0_1 x8_2).f0).length : Int)) = false := decide_eq_false c30
          clear c30
          have H' := Aside0.mk H
          clear H
          have hcz37_0 : wr.cell? ⟨gb169, 0, none⟩ = some (.slice A0_0 l0_0.length c0_0) := blk_cell BK169.out 0
          have hcz37_1 : wr.cell? ⟨gb169, 1, none⟩ = some (.slice A0_1 l0_1.length c0_1) := blk_cell BK169.out 1
          have hcz37_2 : wr.cell? ⟨gb169, 2, none⟩ = some (.int .i64 a0_2) := blk_cell BK169.out 2
          have hcz37_3 : wr.cell? ⟨gb169, 3, none⟩ = some (.bool a0_3) := blk_cell BK169.out 3
          have hfz37_0 := blk_frozen BK169.out 0
          have hfz37_1 := blk_frozen BK169.out 1
          have hfz37_2 := blk_frozen BK169.out 2
          have hfz37_3 := blk_frozen BK169.out 3
          have p174 : 0 ≤ (x8_2 : Int) := of_decide_eq_true (by first | (with_reducible assumption) | assumption)
          have q174 : x8_2 < (l0_1.length : Int) := of_decide_eq_true (by first | (with_reducible assumption) | assumption)
          obtain ⟨ad174, A174_0, c174_0, A174_1, c174_1, e174, hx174_0, hx174_1, hl174_0, hi174_0, hl174_1, hi174_1⟩ := at_T44 HR0_1.out x8_2 p174 q174
          cases e174
          replace hx174_0 := (HB.out.cell (World.block_lt_of_cell? w _ hx174_0)).trans hx174_0
          replace hx174_1 := (HB.out.cell (World.block_lt_of_cell? w _ hx174_1)).trans hx174_1
          have HR174_0 := Aside0.mk hi174_0
          have HC174_0 := Aside0.mk hl174_0
          clear hi174_0 hl174_0
          have HR174_1 := Aside0.mk hi174_1
          have HC174_1 := Aside0.mk hl174_1
          clear hi174_1 hl174_1
          replace p174 := eq_true p174
          replace q174 := eq_true q174
          go_wp2
          go_roundg k3
          case measure => have := HJ3.out; have := HK2.out; have := HK3.out; omega
          case rel => exact ⟨(wrap64 (x8_2 + 1)), (by first | rfl | (simp; done) | (simp [*]; done)), H', ⟨by have := HJ3.out; have := HK2.out; have := HK3.out; omega⟩, ⟨by (with_reducible repeat (first | refine blk_drewN ?_ _ | refine blk_drew ?_ | refine blk_alloc ?_ _)); exact BK169.out⟩, ⟨by repeat (first | (with_reducible first | exact HB.out | apply below_alloc | apply pw_below_drewN | apply below_drew1 | refine below_set ?_ GE169.out) | exact HB.out)⟩⟩
         rw [if_pos c30] at H
         have c30b0 : decide (x9_3 < (((rd_T44 l0_1 x8_2).f0).length : Int)) = true := decide_eq_true c30
         clear c30
         by_cases c31 : 0 ≤ x9_3
         rotate_left
         · rw [if_neg c31] at H
           exact absurd H (by simp)
         rw [if_pos c31] at H
         have c31b0 : decide (0 ≤ x9_3) = true := decide_eq_true c31
         clear c31
         by_cases c32 : (rd ((rd_T44 l0_1 x8_2).f0) x9_3) = 19968
         rotate_left
         ·
          rw [if_neg c32] at H
          have c32b0 : ((rd ((rd_T44 l0_1 x8_2).f0) x9_3) == 19968) = false := beq_eq_false_iff_ne.mpr c32
          have c32b1 : ((rd ((rd_T44 l0_1 x8_2).f0) x9_3) != 19968) = true := bne_iff_ne.mpr c32
          have H' := Aside0.mk H
          clear H
          have hcz36_0 : wr.cell? ⟨gb169, 0, none⟩ = some (.slice A0_0 l0_0.length c0_0) := blk_cell BK169.out 0
          have hcz36_1 : wr.cell? ⟨gb169, 1, none⟩ = some (.slice A0_1 l0_1.length c0_1) := blk_cell BK169.out 1
          have hcz36_2 : wr.cell? ⟨gb169, 2, none⟩ = some (.int .i64 a0_2) := blk_cell BK169.out 2
          have hcz36_3 : wr.cell? ⟨gb169, 3, none⟩ = some (.bool a0_3) := blk_cell BK169.out 3
          have hfz36_0 := blk_frozen BK169.out 0
          have hfz36_1 := blk_frozen BK169.out 1
          have hfz36_2 := blk_frozen BK169.out 2
          have hfz36_3 := blk_frozen BK169.out 3
          have p174 : 0 ≤ (x8_2 : Int) := of_decide_eq_true (by first | (with_reducible assumption) | assumption)
          have q174 : x8_2 < (l0_1.length : Int) := of_decide_eq_true (by first | (with_reducible assumption) | assumption)
          obtain ⟨ad174, A174_0, c174_0, A174_1, c174_1, e174, hx174_0, hx174_1, hl174_0, hi174_0, hl174_1, hi174_1⟩ := at_T44 HR0_1.out x8_2 p174 q174
          cases e174
          replace hx174_0 := (HB.out.cell (World.block_lt_of_cell? w _ hx174_0)).trans hx174_0
          replace hx174_1 := (HB.out.cell (World.block_lt_of_cell? w _ hx174_1)).trans hx174_1
          have HR174_0 := Aside0.mk hi174_0
          have HC174_0 := Aside0.mk hl174_0
          clear hi174_0 hl174_0
          have HR174_1 := Aside0.mk hi174_1
          have HC174_1 := Aside0.mk hl174_1
          clear hi174_1 hl174_1
          replace p174 := eq_true p174
          replace q174 := eq_true q174
          have p175 : 0 ≤ (x8_2 : Int) := of_decide_eq_true (by first | (with_reducible assumption) | assumption)
          have q175 : x8_2 < (l0_1.length : Int) := of_decide_eq_true (by first | (with_reducible assumption) | assumption)
          obtain ⟨ad175, A175_0, c175_0, A175_1, c175_1, e175, hx175_0, hx175_1, hl175_0, hi175_0, hl175_1, hi175_1⟩ := at_T44 HR0_1.out x8_2 p175 q175
          obtain rfl : ad174 = ad175 := (by injection e175)
          replace hx175_0 := (HB.out.cell (World.block_lt_of_cell? w _ hx175_0)).trans hx175_0
          replace hx175_1 := (HB.out.cell (World.block_lt_of_cell? w _ hx175_1)).trans hx175_1
          have HR175_0 := Aside0.mk hi175_0
          have HC175_0 := Aside0.mk hl175_0
          clear hi175_0 hl175_0
          have HR175_1 := Aside0.mk hi175_1
          have HC175_1 := Aside0.mk hl175_1
          clear hi175_1 hl175_1
          replace p175 := eq_true p175
          replace q175 := eq_true q175
          have ea_ := Option.some.inj (hx174_0.symm.trans hx175_0)
          injection ea_ with ea_ en_ ec_
          subst ea_
          subst ec_
          clear en_
          have ea_ := Option.some.inj (hx174_1.symm.trans hx175_1)
          injection ea_ with ea_ en_ ec_
          subst ea_
          subst ec_
          clear en_
          have p176 : 0 ≤ (x9_3 : Int) := of_decide_eq_true (by first | (with_reducible assumption) | assumption)
          have q176 : x9_3 < (((rd_T44 l0_1 x8_2).f0).length : Int) := of_decide_eq_true (by first | (with_reducible assumption) | assumption)
          obtain ⟨ad176, e176, hx176_0⟩ := Kd.at_int HR175_0.out x9_3 p176 q176
          cases e176
          replace hx176_0 := (HB.out.cell (World.block_lt_of_cell? w _ hx176_0)).trans hx176_0
          replace p176 := eq_true p176
          replace q176 := eq_true q176
          go_wp2
          go_roundg k3
          case measure => have := HJ3.out; have := HK2.out; have := HK3.out; omega
          case rel => exact ⟨(wrap64 (x9_3 + 1)), (by first | rfl | (simp; done) | (simp [*]; done)), H', ⟨by have := HJ3.out; have := HK2.out; have := HK3.out; omega⟩, ⟨by (with_reducible repeat (first | refine blk_drewN ?_ _ | refine blk_drew ?_ | refine blk_alloc ?_ _)); exact BK169.out⟩, ⟨by repeat (first | (with_reducible first | exact HB.out | apply below_alloc | apply pw_below_drewN | apply below_drew1 | refine below_set ?_ GE169.out) | exact HB.out)⟩⟩
         rw [if_pos c32] at H
         have c32b0 : ((rd ((rd_T44 l0_1 x8_2).f0) x9_3) == 19968) = true := beq_iff_eq.mpr c32
         have c32b1 : ((rd ((rd_T44 l0_1 x8_2).f0) x9_3) != 19968) = false := bne_eq_false_iff_eq.mpr c32
         clear c32
         replace H := Option.bind_eq_some_iff.mp H
         obtain ⟨t177, A330, H⟩ := H
         replace H : (some t177) = some r := H
         have A33 := Aside0.mk A330
         clear A330
         obtain rfl := Option.some.inj H
         have hcz34_0 : wr.cell? ⟨gb169, 0, none⟩ = some (.slice A0_0 l0_0.length c0_0) := blk_cell BK169.out 0
         have hcz34_1 : wr.cell? ⟨gb169, 1, none⟩ = some (.slice A0_1 l0_1.length c0_1) := blk_cell BK169.out 1
         have hcz34_2 : wr.cell? ⟨gb169, 2, none⟩ = some (.int .i64 a0_2) := blk_cell BK169.out 2
         have hcz34_3 : wr.cell? ⟨gb169, 3, none⟩ = some (.bool a0_3) := blk_cell BK169.out 3
         have hfz34_0 := blk_frozen BK169.out 0
         have hfz34_1 := blk_frozen BK169.out 1
         have hfz34_2 := blk_frozen BK169.out 2
         have hfz34_3 := blk_frozen BK169.out 3
         have p174 : 0 ≤ (x8_2 : Int) := of_decide_eq_true (by first | (with_reducible assumption) | assumption)
         have q174 : x8_2 < (l0_1.length : Int) := of_decide_eq_true (by first | (with_reducible assumption) | assumption)
         obtain ⟨ad174, A174_0, c174_0, A174_1, c174_1, e174, hx174_0, hx174_1, hl174_0, hi174_0, hl174_1, hi174_1⟩ := at_T44 HR0_1.out x8_2 p174 q174
         cases e174
         replace hx174_0 := (HB.out.cell (World.block_lt_of_cell? w _ hx174_0)).trans hx174_0
         replace hx174_1 := (HB.out.cell (World.block_lt_of_cell? w _ hx174_1)).trans hx174_1
         have HR174_0 := Aside0.mk hi174_0
         have HC174_0 := Aside0.mk hl174_0
         clear hi174_0 hl174_0
         have HR174_1 := Aside0.mk hi174_1
         have HC174_1 := Aside0.mk hl174_1
         clear hi174_1 hl174_1
         replace p174 := eq_true p174
         replace q174 := eq_true q174
         have p175 : 0 ≤ (x8_2 : Int) := of_decide_eq_true (by first | (with_reducible assumption) | assumption)
         have q175 : x8_2 < (l0_1.length : Int) := of_decide_eq_true (by first | (with_reducible assumption) | assumption)
         obtain ⟨ad175, A175_0, c175_0, A175_1, c175_1, e175, hx175_0, hx175_1, hl175_0, hi175_0, hl175_1, hi175_1⟩ := at_T44 HR0_1.out x8_2 p175 q175
         obtain rfl : ad174 = ad175 := (by injection e175)
         replace hx175_0 := (HB.out.cell (World.block_lt_of_cell? w _ hx175_0)).trans hx175_0
         replace hx175_1 := (HB.out.cell (World.block_lt_of_cell? w _ hx175_1)).trans hx175_1
         have HR175_0 := Aside0.mk hi175_0
         have HC175_0 := Aside0.mk hl175_0
         clear hi175_0 hl175_0
         have HR175_1 := Aside0.mk hi175_1
         have HC175_1 := Aside0.mk hl175_1
         clear hi175_1 hl175_1
         replace p175 := eq_true p175
         replace q175 := eq_true q175
         have ea_ := Option.some.inj (hx174_0.symm.trans hx175_0)
         injection ea_ with ea_ en_ ec_
         subst ea_
         subst ec_
         clear en_
         have ea_ := Option.some.inj (hx174_1.symm.trans hx175_1)
         injection ea_ with ea_ en_ ec_
         subst ea_
         subst ec_
         clear en_
         have p176 : 0 ≤ (x9_3 : Int) := of_decide_eq_true (by first | (with_reducible assumption) | assumption)
         have q176 : x9_3 < (((rd_T44 l0_1 x8_2).f0).length : Int) := of_decide_eq_true (by first | (with_reducible assumption) | assumption)
         obtain ⟨ad176, e176, hx176_0⟩ := Kd.at_int HR175_0.out x9_3 p176 q176
         cases e176
         replace hx176_0 := (HB.out.cell (World.block_lt_of_cell? w _ hx176_0)).trans hx176_0
         replace p176 := eq_true p176
         replace q176 := eq_true q176
         go_wp2_with (first | ((with_reducible refine gate_callee (f := 9) rfl ?_); refine goesL_ (some 63) rfl rfl Try.func9 (by kernel_rfl) rfl #[] rfl (by (try simp only [List.map_toArray, List.map_cons, List.map_nil]); first | done | rfl | (simp only [List.length_drop, List.length_take]; done) | (simp only [List.length_drop, List.length_take]; rfl)) ?_; (with_reducible refine (gazetteerlaw3_awake.calls  t177 _ A33.out).mono ?_); rintro e w35 ⟨rfl, hb⟩; refine ⟨_, rfl, ?_⟩; replace BK169 := Aside0.mk (blk_below (pb BK169.out) hb); replace HB := Aside0.mk (below_step (pB HB.out) hb); (try clear hb); (try clear hb2); (try clear hk); (try clear hi)))
         go_ret
         exact ⟨by first | rfl | (simp [errW_none, errW_some] <;> rfl) | (simp [*, errW_none, errW_some] <;> rfl), by repeat (first | (with_reducible first | exact HB.out | apply below_alloc | apply pw_below_drewN | apply below_drew1 | refine below_set ?_ GE169.out) | exact HB.out)⟩
      rw [if_neg c26] at H
      have c26b0 : decide (x8_2 < (l0_1.length : Int)) = false := decide_eq_false c26
      clear c26
      have H' := Aside0.mk H
      clear H
      have hcz38_0 : wr.cell? ⟨gb169, 0, none⟩ = some (.slice A0_0 l0_0.length c0_0) := blk_cell BK169.out 0
      have hcz38_1 : wr.cell? ⟨gb169, 1, none⟩ = some (.slice A0_1 l0_1.length c0_1) := blk_cell BK169.out 1
      have hcz38_2 : wr.cell? ⟨gb169, 2, none⟩ = some (.int .i64 a0_2) := blk_cell BK169.out 2
      have hcz38_3 : wr.cell? ⟨gb169, 3, none⟩ = some (.bool a0_3) := blk_cell BK169.out 3
      have hfz38_0 := blk_frozen BK169.out 0
      have hfz38_1 := blk_frozen BK169.out 1
      have hfz38_2 := blk_frozen BK169.out 2
      have hfz38_3 := blk_frozen BK169.out 3
      go_wp2
      go_loopg [10] k2 (fun kq v10 w' => ∃ (x10_3 : Int), v10 = .int .i64 x10_3 ∧ Aside0 (gazetteerlaw3_parts.l2 kq l1 l2 19968 x10_3 l0_0 l0_1 a0_2 a0_3 = some r) ∧ Aside0 (kq ≤ k2) ∧ Aside0 (w'.heap[gb169]? = some (.cells #[(.slice A0_0 l0_0.length c0_0), (.slice A0_1 l0_1.length c0_1), .int .i64 a0_2, .bool a0_3] 25 (0, 0))) ∧ Aside0 (Below w.heap.size w w'))
      case atStart => exact ⟨(0), (by first | rfl | (simp; done) | (simp [*]; done)), H', ⟨Nat.le_refl _⟩, ⟨by (with_reducible repeat (first | refine blk_drewN ?_ _ | refine blk_drew ?_ | refine blk_alloc ?_ _)); exact BK169.out⟩, ⟨by repeat (first | (with_reducible first | exact HB.out | apply below_alloc | apply pw_below_drewN | apply below_drew1 | refine below_set ?_ GE169.out) | exact HB.out)⟩⟩
      case round =>
       clear H'
       try clear c1
       try clear p1
       try clear q1
       try clear hx1
       try clear c2
       try clear p2
       try clear c3
       try clear p6
       try clear c7
       try clear c9
       try clear c10
       try clear c16
       try clear c17
       try clear p17
       try clear q17
       try clear hx17
       try clear c23
       try clear c26
       try clear c26b0
       try clear c28
       try clear c28b0
       try clear c29
       try clear c29b0
       try clear c30
       try clear c30b0
       try clear c31
       try clear c31b0
       try clear c32
       try clear c32b0
       try clear c32b1
       try clear hcz11_0
       try clear hcz11_1
       try clear hcz11_2
       try clear hcz11_3
       try clear hcz13_0
       try clear hcz13_1
       try clear hcz13_2
       try clear hcz13_3
       try clear hcz15_0
       try clear hcz15_1
       try clear hcz15_2
       try clear hcz15_3
       try clear hcz17_0
       try clear hcz17_1
       try clear hcz17_2
       try clear hcz17_3
       try clear hcz19_0
       try clear hcz19_1
       try clear hcz19_2
       try clear hcz19_3
       try clear hcz21_0
       try clear hcz21_1
       try clear hcz21_2
       try clear hcz21_3
       try clear hcz27_0
       try clear hcz27_1
       try clear hcz27_2
       try clear hcz27_3
       try clear hcz34_0
       try clear hcz34_1
       try clear hcz34_2
       try clear hcz34_3
       try clear hcz36_0
       try clear hcz36_1
       try clear hcz36_2
       try clear hcz36_3
       try clear hcz37_0
       try clear hcz37_1
       try clear hcz37_2
       try clear hcz37_3
       try clear hcz38_0
       try clear hcz38_1
       try clear hcz38_2
       try clear hcz38_3
       try clear hfz11_0
       try clear hfz11_1
       try clear hfz11_2
       try clear hfz11_3
       try clear hfz13_0
       try clear hfz13_1
       try clear hfz13_2
       try clear hfz13_3
       try clear hfz15_0
       try clear hfz15_1
       try clear hfz15_2
       try clear hfz15_3
       try clear hfz17_0
       try clear hfz17_1
       try clear hfz17_2
       try clear hfz17_3
       try clear hfz19_0
       try clear hfz19_1
       try clear hfz19_2
       try clear hfz19_3
       try clear hfz21_0
       try clear hfz21_1
       try clear hfz21_2
       try clear hfz21_3
       try clear hfz27_0
       try clear hfz27_1
       try clear hfz27_2
       try clear hfz27_3
       try clear hfz34_0
       try clear hfz34_1
       try clear hfz34_2
       try clear hfz34_3
       try clear hfz36_0
       try clear hfz36_1
       try clear hfz36_2
       try clear hfz36_3
       try clear hfz37_0
       try clear hfz37_1
       try clear hfz37_2
       try clear hfz37_3
       try clear hfz38_0
       try clear hfz38_1
       try clear hfz38_2
       try clear hfz38_3
       try clear hx174_0
       try clear hx174_1
       try clear hx175_0
       try clear hx175_1
       try clear hx176_0
       try clear p174
       try clear p175
       try clear p176
       try clear p2
       try clear q174
       try clear q175
       try clear q176
       obtain ⟨x10_3, rfl, HA, HK3, BK169, HB⟩ := hrel
       cases gk with
       | zero => exact absurd HA.out (by simp [gazetteerlaw3_parts.l2])
       | succ k3 =>
        have H := HA.out
        clear HA
        simp only [gazetteerlaw3_parts.l2] at H
        by_cases c39 : x10_3 < (l0_0.length : Int)
        ·
         rw [if_pos c39] at H
         have c39b0 : decide (x10_3 < (l0_0.length : Int)) = true := decide_eq_true c39
         clear c39
         by_cases c40 : 0 ≤ x10_3
         rotate_left
         · rw [if_neg c40] at H
           exact absurd H (by simp)
         rw [if_pos c40] at H
         have c40b0 : decide (0 ≤ x10_3) = true := decide_eq_true c40
         clear c40
         by_cases c41 : ((rd_T42 l0_0 x10_3).f0) = 19968
         rotate_left
         ·
          rw [if_neg c41] at H
          have c41b0 : (((rd_T42 l0_0 x10_3).f0) == 19968) = false := beq_eq_false_iff_ne.mpr c41
          have c41b1 : (((rd_T42 l0_0 x10_3).f0) != 19968) = true := bne_iff_ne.mpr c41
          have H' := Aside0.mk H
          clear H
          have hcz45_0 : wr.cell? ⟨gb169, 0, none⟩ = some (.slice A0_0 l0_0.length c0_0) := blk_cell BK169.out 0
          have hcz45_1 : wr.cell? ⟨gb169, 1, none⟩ = some (.slice A0_1 l0_1.length c0_1) := blk_cell BK169.out 1
          have hcz45_2 : wr.cell? ⟨gb169, 2, none⟩ = some (.int .i64 a0_2) := blk_cell BK169.out 2
          have hcz45_3 : wr.cell? ⟨gb169, 3, none⟩ = some (.bool a0_3) := blk_cell BK169.out 3
          have hfz45_0 := blk_frozen BK169.out 0
          have hfz45_1 := blk_frozen BK169.out 1
          have hfz45_2 := blk_frozen BK169.out 2
          have hfz45_3 := blk_frozen BK169.out 3
          have p178 : 0 ≤ (x10_3 : Int) := of_decide_eq_true (by first | (with_reducible assumption) | assumption)
          have q178 : x10_3 < (l0_0.length : Int) := of_decide_eq_true (by first | (with_reducible assumption) | assumption)
          obtain ⟨ad178, A178_2, c178_2, e178, hx178_0, hx178_1, hx178_2, hl178_2, hi178_2⟩ := at_T42 HR0_0.out x10_3 p178 q178
          cases e178
          replace hx178_0 := (HB.out.cell (World.block_lt_of_cell? w _ hx178_0)).trans hx178_0
          replace hx178_1 := (HB.out.cell (World.block_lt_of_cell? w _ hx178_1)).trans hx178_1
          replace hx178_2 := (HB.out.cell (World.block_lt_of_cell? w _ hx178_2)).trans hx178_2
          have HR178_2 := Aside0.mk hi178_2
          have HC178_2 := Aside0.mk hl178_2
          clear hi178_2 hl178_2
          replace p178 := eq_true p178
          replace q178 := eq_true q178
          go_wp2
          go_roundg k3
          case measure => have := HJ3.out; have := HK2.out; have := HK3.out; omega
          case rel => exact ⟨(wrap64 (x10_3 + 1)), (by first | rfl | (simp; done) | (simp [*]; done)), H', ⟨by have := HJ3.out; have := HK2.out; have := HK3.out; omega⟩, ⟨by (with_reducible repeat (first | refine blk_drewN ?_ _ | refine blk_drew ?_ | refine blk_alloc ?_ _)); exact BK169.out⟩, ⟨by repeat (first | (with_reducible first | exact HB.out | apply below_alloc | apply pw_below_drewN | apply below_drew1 | refine below_set ?_ GE169.out) | exact HB.out)⟩⟩
         rw [if_pos c41] at H
         have c41b0 : (((rd_T42 l0_0 x10_3).f0) == 19968) = true := beq_iff_eq.mpr c41
         have c41b1 : (((rd_T42 l0_0 x10_3).f0) != 19968) = false := bne_eq_false_iff_eq.mpr c41
         clear c41
         replace H := Option.bind_eq_some_iff.mp H
         obtain ⟨t179, A420, H⟩ := H
         replace H : (some t179) = some r := H
         have A42 := Aside0.mk A420
         clear A420
         obtain rfl := Option.some.inj H
         have hcz43_0 : wr.cell? ⟨gb169, 0, none⟩ = some (.slice A0_0 l0_0.length c0_0) := blk_cell BK169.out 0
         have hcz43_1 : wr.cell? ⟨gb169, 1, none⟩ = some (.slice A0_1 l0_1.length c0_1) := blk_cell BK169.out 1
         have hcz43_2 : wr.cell? ⟨gb169, 2, none⟩ = some (.int .i64 a0_2) := blk_cell BK169.out 2
         have hcz43_3 : wr.cell? ⟨gb169, 3, none⟩ = some (.bool a0_3) := blk_cell BK169.out 3
         have hfz43_0 := blk_frozen BK169.out 0
         have hfz43_1 := blk_frozen BK169.out 1
         have hfz43_2 := blk_frozen BK169.out 2
         have hfz43_3 := blk_frozen BK169.out 3
         have p178 : 0 ≤ (x10_3 : Int) := of_decide_eq_true (by first | (with_reducible assumption) | assumption)
         have q178 : x10_3 < (l0_0.length : Int) := of_decide_eq_true (by first | (with_reducible assumption) | assumption)
         obtain ⟨ad178, A178_2, c178_2, e178, hx178_0, hx178_1, hx178_2, hl178_2, hi178_2⟩ := at_T42 HR0_0.out x10_3 p178 q178
         cases e178
         replace hx178_0 := (HB.out.cell (World.block_lt_of_cell? w _ hx178_0)).trans hx178_0
         replace hx178_1 := (HB.out.cell (World.block_lt_of_cell? w _ hx178_1)).trans hx178_1
         replace hx178_2 := (HB.out.cell (World.block_lt_of_cell? w _ hx178_2)).trans hx178_2
         have HR178_2 := Aside0.mk hi178_2
         have HC178_2 := Aside0.mk hl178_2
         clear hi178_2 hl178_2
         replace p178 := eq_true p178
         replace q178 := eq_true q178
         go_wp2_with (first | ((with_reducible refine gate_callee (f := 9) rfl ?_); refine goesL_ (some 79) rfl rfl Try.func9 (by kernel_rfl) rfl #[] rfl (by (try simp only [List.map_toArray, List.map_cons, List.map_nil]); first | done | rfl | (simp only [List.length_drop, List.length_take]; done) | (simp only [List.length_drop, List.length_take]; rfl)) ?_; (with_reducible refine (gazetteerlaw3_awake.calls  t179 _ A42.out).mono ?_); rintro e w44 ⟨rfl, hb⟩; refine ⟨_, rfl, ?_⟩; replace BK169 := Aside0.mk (blk_below (pb BK169.out) hb); replace HB := Aside0.mk (below_step (pB HB.out) hb); (try clear hb); (try clear hb2); (try clear hk); (try clear hi)))
         go_ret
         exact ⟨by first | rfl | (simp [errW_none, errW_some] <;> rfl) | (simp [*, errW_none, errW_some] <;> rfl), by repeat (first | (with_reducible first | exact HB.out | apply below_alloc | apply pw_below_drewN | apply below_drew1 | refine below_set ?_ GE169.out) | exact HB.out)⟩
        rw [if_neg c39] at H
        have c39b0 : decide (x10_3 < (l0_0.length : Int)) = false := decide_eq_false c39
        clear c39
        replace H := Option.bind_eq_some_iff.mp H
        obtain ⟨⟨t180, t183⟩, A460, H⟩ := H
        replace H : ((weigh_Elements.f l0_0 l0_1 a0_2 a0_3 l2).bind fun bt184 => ((some (([] : List Int) : List Int)).bind fun y188 => (if y188.length + l1.length < 35184372088832 then ((some (y188 ++ l1 : List Int)).bind fun y191 => ((some (([19968] : List Int) : List Int)).bind fun y194 => (if y191.length + y194.length < 35184372088832 then ((some (y191 ++ y194 : List Int)).bind fun y197 => (if y197.length + l2.length < 35184372088832 then ((weigh_Elements.f l0_0 l0_1 a0_2 a0_3 (y197 ++ l2)).bind fun bt203 => (if t183 = 0 then (gazetteerlaw3_parts.j4 k3 19968 t180 bt184.1 bt203.1 bt203.2 (bt184.2 != 0)) else (gazetteerlaw3_parts.j4 k3 19968 t180 bt184.1 bt203.1 bt203.2 true))) else (none))) else (none)))) else (none)))) = some r := H
        have A46 := Aside0.mk A460
        clear A460
        replace H := Option.bind_eq_some_iff.mp H
        obtain ⟨⟨t184, t187⟩, A470, H⟩ := H
        replace H : ((some (([] : List Int) : List Int)).bind fun y188 => (if y188.length + l1.length < 35184372088832 then ((some (y188 ++ l1 : List Int)).bind fun y191 => ((some (([19968] : List Int) : List Int)).bind fun y194 => (if y191.length + y194.length < 35184372088832 then ((some (y191 ++ y194 : List Int)).bind fun y197 => (if y197.length + l2.length < 35184372088832 then ((weigh_Elements.f l0_0 l0_1 a0_2 a0_3 (y197 ++ l2)).bind fun bt203 => (if t183 = 0 then (gazetteerlaw3_parts.j4 k3 19968 t180 t184 bt203.1 bt203.2 (t187 != 0)) else (gazetteerlaw3_parts.j4 k3 19968 t180 t184 bt203.1 bt203.2 true))) else (none))) else (none)))) else (none))) = some r := H
        have A47 := Aside0.mk A470
        clear A470
        obtain ⟨y188, hy188⟩ : ∃ y_ : List Int, y_ = (([] : List Int)) := ⟨_, rfl⟩
        replace H : (if y188.length + l1.length < 35184372088832 then ((some (y188 ++ l1 : List Int)).bind fun y191 => ((some (([19968] : List Int) : List Int)).bind fun y194 => (if y191.length + y194.length < 35184372088832 then ((some (y191 ++ y194 : List Int)).bind fun y197 => (if y197.length + l2.length < 35184372088832 then ((weigh_Elements.f l0_0 l0_1 a0_2 a0_3 (y197 ++ l2)).bind fun bt203 => (if t183 = 0 then (gazetteerlaw3_parts.j4 k3 19968 t180 t184 bt203.1 bt203.2 (t187 != 0)) else (gazetteerlaw3_parts.j4 k3 19968 t180 t184 bt203.1 bt203.2 true))) else (none))) else (none)))) else (none)) = some r := by first | (rw [hy188]; with_reducible exact H) | (have H2_ := (Option.bind_some _ _).symm.trans H; rw [hy188]; with_reducible exact H2_) | (have H2_ := (Option.bind_some _ _).symm.trans H; with_reducible exact H2_) | with_reducible exact H | (rw [hy188]; exact H) | exact H
        have Ny188 := Aside0.mk hy188
        clear hy188
        by_cases c48 : y188.length + l1.length < 35184372088832
        rotate_left
        · rw [if_neg c48] at H
          exact absurd H (by simp)
        rw [if_pos c48] at H
        have LMc48 := Aside0.mk c48
        clear c48
        obtain ⟨y191, hy191⟩ : ∃ y_ : List Int, y_ = (y188 ++ l1) := ⟨_, rfl⟩
        replace H : ((some (([19968] : List Int) : List Int)).bind fun y194 => (if y191.length + y194.length < 35184372088832 then ((some (y191 ++ y194 : List Int)).bind fun y197 => (if y197.length + l2.length < 35184372088832 then ((weigh_Elements.f l0_0 l0_1 a0_2 a0_3 (y197 ++ l2)).bind fun bt203 => (if t183 = 0 then (gazetteerlaw3_parts.j4 k3 19968 t180 t184 bt203.1 bt203.2 (t187 != 0)) else (gazetteerlaw3_parts.j4 k3 19968 t180 t184 bt203.1 bt203.2 true))) else (none))) else (none))) = some r := by first | (rw [hy191]; with_reducible exact H) | (have H2_ := (Option.bind_some _ _).symm.trans H; rw [hy191]; with_reducible exact H2_) | (have H2_ := (Option.bind_some _ _).symm.trans H; with_reducible exact H2_) | with_reducible exact H | (rw [hy191]; exact H) | exact H
        have Ny191 := Aside0.mk hy191
        clear hy191
        obtain ⟨y194, hy194⟩ : ∃ y_ : List Int, y_ = (([19968] : List Int)) := ⟨_, rfl⟩
        replace H : (if y191.length + y194.length < 35184372088832 then ((some (y191 ++ y194 : List Int)).bind fun y197 => (if y197.length + l2.length < 35184372088832 then ((weigh_Elements.f l0_0 l0_1 a0_2 a0_3 (y197 ++ l2)).bind fun bt203 => (if t183 = 0 then (gazetteerlaw3_parts.j4 k3 19968 t180 t184 bt203.1 bt203.2 (t187 != 0)) else (gazetteerlaw3_parts.j4 k3 19968 t180 t184 bt203.1 bt203.2 true))) else (none))) else (none)) = some r := by first | (rw [hy194]; with_reducible exact H) | (have H2_ := (Option.bind_some _ _).symm.trans H; rw [hy194]; with_reducible exact H2_) | (have H2_ := (Option.bind_some _ _).symm.trans H; with_reducible exact H2_) | with_reducible exact H | (rw [hy194]; exact H) | exact H
        have Ny194 := Aside0.mk hy194
        clear hy194
        by_cases c49 : y191.length + y194.length < 35184372088832
        rotate_left
        · rw [if_neg c49] at H
          exact absurd H (by simp)
        rw [if_pos c49] at H
        have LMc49 := Aside0.mk c49
        clear c49
        obtain ⟨y197, hy197⟩ : ∃ y_ : List Int, y_ = (y191 ++ y194) := ⟨_, rfl⟩
        replace H : (if y197.length + l2.length < 35184372088832 then ((weigh_Elements.f l0_0 l0_1 a0_2 a0_3 (y197 ++ l2)).bind fun bt203 => (if t183 = 0 then (gazetteerlaw3_parts.j4 k3 19968 t180 t184 bt203.1 bt203.2 (t187 != 0)) else (gazetteerlaw3_parts.j4 k3 19968 t180 t184 bt203.1 bt203.2 true))) else (none)) = some r := by first | (rw [hy197]; with_reducible exact H) | (have H2_ := (Option.bind_some _ _).symm.trans H; rw [hy197]; with_reducible exact H2_) | (have H2_ := (Option.bind_some _ _).symm.trans H; with_reducible exact H2_) | with_reducible exact H | (rw [hy197]; exact H) | exact H
        have Ny197 := Aside0.mk hy197
        clear hy197
        by_cases c50 : y197.length + l2.length < 35184372088832
        rotate_left
        · rw [if_neg c50] at H
          exact absurd H (by simp)
        rw [if_pos c50] at H
        have LMc50 := Aside0.mk c50
        clear c50
        obtain ⟨y200, hy200⟩ : ∃ y_ : List Int, y_ = (y197 ++ l2) := ⟨_, rfl⟩
        replace H : ((weigh_Elements.f l0_0 l0_1 a0_2 a0_3 y200).bind fun bt203 => (if t183 = 0 then (gazetteerlaw3_parts.j4 k3 19968 t180 t184 bt203.1 bt203.2 (t187 != 0)) else (gazetteerlaw3_parts.j4 k3 19968 t180 t184 bt203.1 bt203.2 true))) = some r := by first | (rw [hy200]; with_reducible exact H) | (have H2_ := (Option.bind_some _ _).symm.trans H; rw [hy200]; with_reducible exact H2_) | (have H2_ := (Option.bind_some _ _).symm.trans H; with_reducible exact H2_) | with_reducible exact H | (rw [hy200]; exact H) | exact H
        have Ny200 := Aside0.mk hy200
        clear hy200
        replace H := Option.bind_eq_some_iff.mp H
        obtain ⟨⟨t203, t206⟩, A510, H⟩ := H
        replace H : (if t183 = 0 then (gazetteerlaw3_parts.j4 k3 19968 t180 t184 t203 t206 (t187 != 0)) else (gazetteerlaw3_parts.j4 k3 19968 t180 t184 t203 t206 true)) = some r := H
        have A51 := Aside0.mk A510
        clear A510
        have HC52 := Aside0.mk H
        clear H
        have hcz53_0 : wr.cell? ⟨gb169, 0, none⟩ = some (.slice A0_0 l0_0.length c0_0) := blk_cell BK169.out 0
        have hcz53_1 : wr.cell? ⟨gb169, 1, none⟩ = some (.slice A0_1 l0_1.length c0_1) := blk_cell BK169.out 1
        have hcz53_2 : wr.cell? ⟨gb169, 2, none⟩ = some (.int .i64 a0_2) := blk_cell BK169.out 2
        have hcz53_3 : wr.cell? ⟨gb169, 3, none⟩ = some (.bool a0_3) := blk_cell BK169.out 3
        have hfz53_0 := blk_frozen BK169.out 0
        have hfz53_1 := blk_frozen BK169.out 1
        have hfz53_2 := blk_frozen BK169.out 2
        have hfz53_3 := blk_frozen BK169.out 3
        try go_wp2_with (first | ((with_reducible refine gate_callee (f := 11) rfl ?_); refine goesL_ (some 83) rfl rfl Try.func11 (by kernel_rfl) rfl #[.agg #[.slice A0_0 l0_0.length c0_0, .slice A0_1 l0_1.length c0_1, .int .i64 a0_2, .bool a0_3], .slice A1 l1.length c1] rfl (by (try simp only [List.map_toArray, List.map_cons, List.map_nil]); first | done | rfl | (simp only [List.length_drop, List.length_take]; done) | (simp only [List.length_drop, List.length_take]; rfl)) ?_; (with_reducible refine (weigh_Elements.calls _ _ l0_0 _ _ l0_1 a0_2 a0_3 _ _ l1 t180 t183 _ ?side1 ?side2 ?side3 ?side4 ?side5 ?side6 A46.out).mono ?_); (case side1 => repeat (first | exact (Kd.C_below HR0_0.out HB.out) | (with_reducible refine Kd.C_alloc ?_ _) | (with_reducible refine Kd.C_drewN ?_ _) | (with_reducible refine Kd.C_drew ?_))); (case side2 => exact HC0_0.out); (case side3 => repeat (first | exact (Kd.C_below HR0_1.out HB.out) | (with_reducible refine Kd.C_alloc ?_ _) | (with_reducible refine Kd.C_drewN ?_ _) | (with_reducible refine Kd.C_drew ?_))); (case side4 => exact HC0_1.out); (case side5 => repeat (first | exact (Kd.C_below HR1.out HB.out) | (with_reducible refine Kd.C_alloc ?_ _) | (with_reducible refine Kd.C_drewN ?_ _) | (with_reducible refine Kd.C_drew ?_))); (case side6 => exact HC1.out); rintro e w54 ⟨v181, rfl, ho0, hb⟩; refine ⟨_, rfl, ?_⟩; have HO182 := Aside0.mk (Kd.R_lower ho0 (below_size (pB HB.out))); replace BK169 := Aside0.mk (blk_below (pb BK169.out) hb); replace HB := Aside0.mk (below_step (pB HB.out) hb); (try clear hb); (try clear hb2); (try clear hk); (try clear hi); (try clear ho0); have hcz55_0 : w54.cell? ⟨gb169, 0, none⟩ = some (.slice A0_0 l0_0.length c0_0) := blk_cell BK169.out 0; have hcz55_1 : w54.cell? ⟨gb169, 1, none⟩ = some (.slice A0_1 l0_1.length c0_1) := blk_cell BK169.out 1; have hcz55_2 : w54.cell? ⟨gb169, 2, none⟩ = some (.int .i64 a0_2) := blk_cell BK169.out 2; have hcz55_3 : w54.cell? ⟨gb169, 3, none⟩ = some (.bool a0_3) := blk_cell BK169.out 3; have hfz55_0 := blk_frozen BK169.out 0; have hfz55_1 := blk_frozen BK169.out 1; have hfz55_2 := blk_frozen BK169.out 2; have hfz55_3 := blk_frozen BK169.out 3) | ((with_reducible refine gate_callee (f := 11) rfl ?_); refine goesL_ (some 89) rfl rfl Try.func11 (by kernel_rfl) rfl #[.agg #[.slice A0_0 l0_0.length c0_0, .slice A0_1 l0_1.length c0_1, .int .i64 a0_2, .bool a0_3], .slice A2 l2.length c2] rfl (by (try simp only [List.map_toArray, List.map_cons, List.map_nil]); first | done | rfl | (simp only [List.length_drop, List.length_take]; done) | (simp only [List.length_drop, List.length_take]; rfl)) ?_; (with_reducible refine (weigh_Elements.calls _ _ l0_0 _ _ l0_1 a0_2 a0_3 _ _ l2 t184 t187 _ ?side1 ?side2 ?side3 ?side4 ?side5 ?side6 A47.out).mono ?_); (case side1 => repeat (first | exact (Kd.C_below HR0_0.out HB.out) | (with_reducible refine Kd.C_alloc ?_ _) | (with_reducible refine Kd.C_drewN ?_ _) | (with_reducible refine Kd.C_drew ?_))); (case side2 => exact HC0_0.out); (case side3 => repeat (first | exact (Kd.C_below HR0_1.out HB.out) | (with_reducible refine Kd.C_alloc ?_ _) | (with_reducible refine Kd.C_drewN ?_ _) | (with_reducible refine Kd.C_drew ?_))); (case side4 => exact HC0_1.out); (case side5 => repeat (first | exact (Kd.C_below HR2.out HB.out) | (with_reducible refine Kd.C_alloc ?_ _) | (with_reducible refine Kd.C_drewN ?_ _) | (with_reducible refine Kd.C_drew ?_))); (case side6 => exact HC2.out); rintro e w56 ⟨v185, rfl, ho0, hb⟩; refine ⟨_, rfl, ?_⟩; have HO186 := Aside0.mk (Kd.R_lower (Kd.R_new' ho0 (Kd.R_lt (pR HO182.out))) (below_size (pB HB.out))); replace HO182 := Aside0.mk (Kd.R_elder' (pR HO182.out) (Kd.R_base ho0) hb); replace BK169 := Aside0.mk (blk_below (pb BK169.out) hb); replace HB := Aside0.mk (below_step (pB HB.out) hb); (try clear hb); (try clear hb2); (try clear hk); (try clear hi); (try clear ho0)))
        replace HO182 := Aside0.mk (Kd.R_drew HO182.out)
        replace HO186 := Aside0.mk (Kd.R_drew HO186.out)
        replace BK169 := Aside0.mk (blk_drew BK169.out)
        replace HB := Aside0.mk (below_drew1 HB.out)
        refine start_ (n := 15) (S := fun w' => w'.cell? ⟨gb169, 0, none⟩ = some (.slice A0_0 l0_0.length c0_0) ∧ w'.cell? ⟨gb169, 1, none⟩ = some (.slice A0_1 l0_1.length c0_1) ∧ w'.cell? ⟨gb169, 2, none⟩ = some (.int .i64 a0_2) ∧ w'.cell? ⟨gb169, 3, none⟩ = some (.bool a0_3)) (ds := []) (fl 0 15) (by kernel_rfl) rfl rfl ⟨blk_cell BK169.out 0, blk_cell BK169.out 1, blk_cell BK169.out 2, blk_cell BK169.out 3⟩ (fun hHeld => ?_); refine with_tabW gazetteerlaw3_parts.tab19 gazetteerlaw3_parts.bits19 (fun HT_ HW_ => ?_)
        generalize w56.drew = w57 at HO182 HO186 BK169 HB hHeld ⊢
        refine pure_ (i := 2) (N := some 95) (v := ?_) (a' := ?_) #[false, false, true, false, false, false, false, false, false, false, false, false, false, false, false] rfl rfl (any_of HT_.out (by kernel_rfl)) (fun _ _ _ h => h) (Or.inl ⟨by rfl, ?_⟩) ?_ ?_
        rotate_left
        · intro w'
          go_simp
          with_reducible rfl
        rotate_left
        · simp only [Act.put, List.setIfInBounds_toArray, List.set_cons_zero, List.set_cons_succ, i64_w, i32_w]; rfl
        refine pure_ (i := 4) (N := some 97) (v := ?_) (a' := ?_) #[false, false, true, false, true, false, false, false, false, false, false, false, false, false, false] rfl rfl (any_of HT_.out (by kernel_rfl)) (fun _ _ _ h => h) (Or.inl ⟨by rfl, ?_⟩) ?_ ?_
        rotate_left
        · intro w'
          go_simp
          with_reducible rfl
        rotate_left
        · simp only [Act.put, List.setIfInBounds_toArray, List.set_cons_zero, List.set_cons_succ, i64_w, i32_w]; rfl
        refine pure_ (i := 7) (N := some 100) (v := ?_) (a' := ?_) #[false, false, true, false, true, false, false, true, false, false, false, false, false, false, false] rfl rfl (any_of HT_.out (by kernel_rfl)) (fun _ _ _ h => h) (Or.inl ⟨by rfl, ?_⟩) ?_ ?_
        rotate_left
        · intro w'
          go_simp
          with_reducible rfl
        rotate_left
        · simp only [Act.put, List.setIfInBounds_toArray, List.set_cons_zero, List.set_cons_succ, i64_w, i32_w]; rfl
        refine take_ (i := 0) (N := some 93) (v := ?_) (a' := ?_) #[true, false, true, false, true, false, false, true, false, false, false, false, false, false, false] rfl rfl (take_ofW HT_.out HW_.out (by kernel_rfl)) (fun _ _ _ h => h) (Or.inl ⟨by rfl, ?_⟩) hHeld ?_ ?_
        rotate_left
        · rintro w' ⟨s0, s1, s2, s3⟩; go_simp; with_reducible rfl
        rotate_left
        · simp only [Act.put, List.setIfInBounds_toArray, List.set_cons_zero, List.set_cons_succ, i64_w, i32_w]; rfl
        refine join_ (σ := Value × Value × Value) 8 #[true, true, true, true, true, true, false, true, false, false, false, false, false, false, false] (fun s_ => [(94, s_.1), (96, s_.2.1), (98, s_.2.2)]) (fun s_ w' => (w'.cell? ⟨gb169, 0, none⟩ = some (.slice A0_0 l0_0.length c0_0) ∧ w'.cell? ⟨gb169, 1, none⟩ = some (.slice A0_1 l0_1.length c0_1) ∧ w'.cell? ⟨gb169, 2, none⟩ = some (.int .i64 a0_2) ∧ w'.cell? ⟨gb169, 3, none⟩ = some (.bool a0_3)) ∧ (Kd.R k39 39 w' w.heap.size (fun k_ => some k_ ≠ (v185 : Value).ownBlock) v181 t180) ∧ (Kd.R k39 39 w' w.heap.size (fun k_ => some k_ ≠ (v181 : Value).ownBlock) v185 t184) ∧ (Kd.R (Kd.int .i32) 21 w' w.heap.size (fun k_ => some k_ ≠ (s_.2.2 : Value).ownBlock) s_.2.1 y191) ∧ (Kd.R (Kd.int .i32) 21 w' w.heap.size (fun k_ => some k_ ≠ (s_.2.1 : Value).ownBlock) s_.2.2 y194) ∧ (w'.heap[gb169]? = some (.cells #[.slice A0_0 l0_0.length c0_0, .slice A0_1 l0_1.length c0_1, .int .i64 a0_2, .bool a0_3] 25 (0, 0))) ∧ (Below w.heap.size w w')) ?_ ?_
        rotate_left
        ·
         intro hCont
         refine two_ (i := 1) (j := 5) (Ni := some 94) (Nj := some 98) #[true, true, true, false, true, false, false, true, false, false, false, false, false, false, false] #[true, false, true, false, true, true, false, true, false, false, false, false, false, false, false] rfl rfl rfl rfl (two_of HT_.out (by kernel_rfl)) (by decide) (by decide) (fun K hK => ?_) (fun K hK => ?_)
         ·
          skip
          refine Kd.R_lit_step (Kd.int .i32) _ 21 ?hg (N := 94) ?hd (xs := ([] : List Int)) (inner := []) (ok := fun _ => True) (okp := fun _ => True) ?hr ?hp (fun _ hk => hk) trivial (Below.refl _ _) (Nat.le_refl _) (by simp) ?_; (case hd => rfl); (case hg => rfl); (case hr => first | (go_simp; done) | (go_simp; rfl)); (case hp => exact (Reps.none _ _))
          intro v189 w58 ho59 hb hg_ hnew_
          clear hg_ hnew_
          (first | rw [← Ny188.out] at ho59 | (simp only [Int.reduceToNat] at ho59; rw [← Ny188.out] at ho59))
          have HO190 := Aside0.mk (Kd.R_lower ho59 (below_size (pB HB.out)))
          replace HO182 := Aside0.mk (Kd.R_below (pR HO182.out) hb)
          replace HO186 := Aside0.mk (Kd.R_below (pR HO186.out) hb)
          replace BK169 := Aside0.mk (blk_below (pb BK169.out) hb)
          replace HB := Aside0.mk (below_step (pB HB.out) hb)
          clear hb ho59
          refine hK.out _ _ ⟨blk_cell BK169.out 0, blk_cell BK169.out 1, blk_cell BK169.out 2, blk_cell BK169.out 3⟩ (fun hHeld => ?_)
          clear hK K
          refine norm_ (a' := ?_) ?_ ?_
          rotate_left
          · show Act.put _ (some 94) _ = _; simp only [Act.put, List.setIfInBounds_toArray, List.set_cons_zero, List.set_cons_succ, i64_w, i32_w]; rfl
          refine two_ (i := 3) (j := 5) (Ni := some 96) (Nj := some 98) #[true, true, true, true, true, false, false, true, false, false, false, false, false, false, false] #[true, true, true, false, true, true, false, true, false, false, false, false, false, false, false] rfl rfl rfl rfl (two_of HT_.out (by kernel_rfl)) (by decide) (by decide) (fun K hK => ?_) (fun K hK => ?_)
          ·
           skip
           refine Kd.R_append_rows_step (Kd.int .i32) (w0 := w) w.heap.size (by rfl) (.tmp 94) (.tmp 95) 26 21 (.int .i32 0) 4 rfl Try.underlying26 info21 rfl (by decide) (by omega) v189 y188 l1 _ _ _ (fun _ => True) (fun _ => False) rfl rfl ?aO ?aR (fun _ _ h => h) (fun _ h => h.elim) ?aF ?aB ?aS ?aL ?_
           (case aR => repeat (first | exact (Kd.C_below HR1.out HB.out) | (with_reducible refine Kd.C_alloc ?_ _) | (with_reducible refine Kd.C_drewN ?_ _) | (with_reducible refine Kd.C_drew ?_)))
           (case aB => exact (pB HB.out))
           (case aF => exact (fun _ _ => trivial))
           (case aO => exact (pR HO190.out))
           (case aS => exact (below_size (pB HB.out)))
           (case aL => have := LMc48.out; omega)
           intro v192 w60 ho hb hg hat
           rw [← Ny191.out] at ho
           have HO193 := Aside0.mk (ho)
           replace BK169 := Aside0.mk (blk_grown (g := gb169) (o := .cells #[.slice A0_0 l0_0.length c0_0, .slice A0_1 l0_1.length c0_1, .int .i64 a0_2, .bool a0_3] 25 (0, 0)) (pb BK169.out) hg (Kd.R_ne HO190.out BK169.out (by decide)))
           replace HO182 := Aside0.mk (Kd.R_over' (pR HO182.out) (Kd.R_typed (pR HO190.out)) (by decide) hg)
           replace HO186 := Aside0.mk (Kd.R_over' (pR HO186.out) (Kd.R_typed (pR HO190.out)) (by decide) hg)
           replace HB := Aside0.mk (hb)
           clear HO190
           clear ho hb hg hat
           refine hK.out _ _ ⟨blk_cell BK169.out 0, blk_cell BK169.out 1, blk_cell BK169.out 2, blk_cell BK169.out 3⟩ (fun hHeld => ?_)
           clear hK K
           refine norm_ (a' := ?_) ?_ ?_
           rotate_left
           · show Act.put _ (some 96) _ = _; simp only [Act.put, List.setIfInBounds_toArray, List.set_cons_zero, List.set_cons_succ, i64_w, i32_w]; rfl
           refine one_ (i := 5) (N := some 98) #[true, true, true, true, true, true, false, true, false, false, false, false, false, false, false] rfl rfl (one_of HT_.out (by kernel_rfl)) (by decide) (fun K hK => ?_)
           refine Kd.R_lit_step (Kd.int .i32) _ 21 ?hg (N := 98) ?hd (xs := ([19968] : List Int)) (inner := [.int .i32 19968]) (ok := fun _ => True) (okp := fun _ => True) ?hr ?hp (fun _ hk => hk) trivial (Below.refl _ _) (Nat.le_refl _) (by simp) ?_; (case hd => rfl); (case hg => rfl); (case hr => first | (go_simp; done) | (go_simp; rfl)); (case hp => exact (Reps.one (show Kd.M (Kd.int .i32) _ _ _ 19968 [.int .i32 19968] from rfl) (Reps.none _ _)))
           intro v195 w61 ho62 hb hg_ hnew_
           clear hg_ hnew_
           (first | rw [← Ny194.out] at ho62 | (simp only [Int.reduceToNat] at ho62; rw [← Ny194.out] at ho62))
           have HO196 := Aside0.mk (Kd.R_lower (Kd.R_new' ho62 (Kd.R_lt (pR HO193.out))) (below_size (pB HB.out)))
           replace HO182 := Aside0.mk (Kd.R_below (pR HO182.out) hb)
           replace HO186 := Aside0.mk (Kd.R_below (pR HO186.out) hb)
           replace HO193 := Aside0.mk (Kd.R_elder' (pR HO193.out) (Kd.R_base ho62) hb)
           replace BK169 := Aside0.mk (blk_below (pb BK169.out) hb)
           replace HB := Aside0.mk (below_step (pB HB.out) hb)
           clear hb ho62
           refine hK.out _ _ ⟨blk_cell BK169.out 0, blk_cell BK169.out 1, blk_cell BK169.out 2, blk_cell BK169.out 3⟩ (fun hHeld => ?_)
           clear hK K
           refine norm_ (a' := ?_) ?_ ?_
           rotate_left
           · show Act.put _ (some 98) _ = _; simp only [Act.put, List.setIfInBounds_toArray, List.set_cons_zero, List.set_cons_succ, i64_w, i32_w]; rfl
           exact norm_ (by simp only [putAll, Act.put, List.setIfInBounds_toArray, List.set_cons_zero, List.set_cons_succ]) (hCont (v189, v192, v195) _ ⟨hHeld, (by (with_reducible repeat (first | apply Kd.R_alloc | apply Kd.R_drewN | apply Kd.R_drew)); exact Kd.R_mono HO182.out (fun _ hk => hk.2)), (by (with_reducible repeat (first | apply Kd.R_alloc | apply Kd.R_drewN | apply Kd.R_drew)); exact Kd.R_mono HO186.out (fun _ hk => hk.2)), (by (with_reducible repeat (first | apply Kd.R_alloc | apply Kd.R_drewN | apply Kd.R_drew)); exact Kd.R_mono HO193.out (fun _ hk => hk.2)), (by (with_reducible repeat (first | apply Kd.R_alloc | apply Kd.R_drewN | apply Kd.R_drew)); exact Kd.R_mono HO196.out (fun _ hk => hk.2)), (pb BK169.out), (pB HB.out)⟩)
          skip
          refine Kd.R_lit_step (Kd.int .i32) _ 21 ?hg (N := 98) ?hd (xs := ([19968] : List Int)) (inner := [.int .i32 19968]) (ok := fun _ => True) (okp := fun _ => True) ?hr ?hp (fun _ hk => hk) trivial (Below.refl _ _) (Nat.le_refl _) (by simp) ?_; (case hd => rfl); (case hg => rfl); (case hr => first | (go_simp; done) | (go_simp; rfl)); (case hp => exact (Reps.one (show Kd.M (Kd.int .i32) _ _ _ 19968 [.int .i32 19968] from rfl) (Reps.none _ _)))
          intro v195 w60 ho61 hb hg_ hnew_
          clear hg_ hnew_
          (first | rw [← Ny194.out] at ho61 | (simp only [Int.reduceToNat] at ho61; rw [← Ny194.out] at ho61))
          have HO196 := Aside0.mk (Kd.R_lower (Kd.R_new' ho61 (Kd.R_lt (pR HO190.out))) (below_size (pB HB.out)))
          replace HO182 := Aside0.mk (Kd.R_below (pR HO182.out) hb)
          replace HO186 := Aside0.mk (Kd.R_below (pR HO186.out) hb)
          replace HO190 := Aside0.mk (Kd.R_elder' (pR HO190.out) (Kd.R_base ho61) hb)
          replace BK169 := Aside0.mk (blk_below (pb BK169.out) hb)
          replace HB := Aside0.mk (below_step (pB HB.out) hb)
          clear hb ho61
          refine hK.out _ _ ⟨blk_cell BK169.out 0, blk_cell BK169.out 1, blk_cell BK169.out 2, blk_cell BK169.out 3⟩ (fun hHeld => ?_)
          clear hK K
          refine norm_ (a' := ?_) ?_ ?_
          rotate_left
          · show Act.put _ (some 98) _ = _; simp only [Act.put, List.setIfInBounds_toArray, List.set_cons_zero, List.set_cons_succ, i64_w, i32_w]; rfl
          refine one_ (i := 3) (N := some 96) #[true, true, true, true, true, true, false, true, false, false, false, false, false, false, false] rfl rfl (one_of HT_.out (by kernel_rfl)) (by decide) (fun K hK => ?_)
          refine Kd.R_append_rows_step (Kd.int .i32) (w0 := w) w.heap.size (by rfl) (.tmp 94) (.tmp 95) 26 21 (.int .i32 0) 4 rfl Try.underlying26 info21 rfl (by decide) (by omega) v189 y188 l1 _ _ _ (fun k_ => some k_ ≠ (v195 : Value).ownBlock) (fun _ => False) rfl rfl ?aO ?aR (fun _ _ h => h) (fun _ h => h.elim) ?aF ?aB ?aS ?aL ?_
          (case aR => repeat (first | exact (Kd.C_below HR1.out HB.out) | (with_reducible refine Kd.C_alloc ?_ _) | (with_reducible refine Kd.C_drewN ?_ _) | (with_reducible refine Kd.C_drew ?_)))
          (case aB => exact (pB HB.out))
          (case aF => exact (fun k_ hk => Kd.fresh' (Kd.R_lt (pR HO196.out)) k_ hk))
          (case aO => exact (by (with_reducible repeat (first | apply Kd.R_alloc | apply Kd.R_drewN | apply Kd.R_drew)); exact Kd.R_mono HO190.out (fun _ hk => hk.2)))
          (case aS => exact (below_size (pB HB.out)))
          (case aL => have := LMc48.out; omega)
          intro v192 w62 ho hb hg hat
          rw [← Ny191.out] at ho
          have HO193 := Aside0.mk (ho)
          replace BK169 := Aside0.mk (blk_grown (g := gb169) (o := .cells #[.slice A0_0 l0_0.length c0_0, .slice A0_1 l0_1.length c0_1, .int .i64 a0_2, .bool a0_3] 25 (0, 0)) (pb BK169.out) hg (Kd.R_ne HO190.out BK169.out (by decide)))
          replace HO182 := Aside0.mk (Kd.R_over' (pR HO182.out) (Kd.R_typed (pR HO190.out)) (by decide) hg)
          replace HO186 := Aside0.mk (Kd.R_over' (pR HO186.out) (Kd.R_typed (pR HO190.out)) (by decide) hg)
          replace HO196 := Aside0.mk (Kd.R_after (ok := (fun _ => True)) (pR HO196.out) hg hat)
          replace HB := Aside0.mk (hb)
          clear HO190
          clear ho hb hg hat
          refine hK.out _ _ ⟨blk_cell BK169.out 0, blk_cell BK169.out 1, blk_cell BK169.out 2, blk_cell BK169.out 3⟩ (fun hHeld => ?_)
          clear hK K
          refine norm_ (a' := ?_) ?_ ?_
          rotate_left
          · show Act.put _ (some 96) _ = _; simp only [Act.put, List.setIfInBounds_toArray, List.set_cons_zero, List.set_cons_succ, i64_w, i32_w]; rfl
          exact norm_ (by simp only [putAll, Act.put, List.setIfInBounds_toArray, List.set_cons_zero, List.set_cons_succ]) (hCont (v189, v192, v195) _ ⟨hHeld, (by (with_reducible repeat (first | apply Kd.R_alloc | apply Kd.R_drewN | apply Kd.R_drew)); exact Kd.R_mono HO182.out (fun _ hk => hk.2)), (by (with_reducible repeat (first | apply Kd.R_alloc | apply Kd.R_drewN | apply Kd.R_drew)); exact Kd.R_mono HO186.out (fun _ hk => hk.2)), (pR HO193.out), (by (with_reducible repeat (first | apply Kd.R_alloc | apply Kd.R_drewN | apply Kd.R_drew)); exact Kd.R_mono HO196.out (fun _ hk => hk.2)), (pb BK169.out), (pB HB.out)⟩)
         skip
         refine Kd.R_lit_step (Kd.int .i32) _ 21 ?hg (N := 98) ?hd (xs := ([19968] : List Int)) (inner := [.int .i32 19968]) (ok := fun _ => True) (okp := fun _ => True) ?hr ?hp (fun _ hk => hk) trivial (Below.refl _ _) (Nat.le_refl _) (by simp) ?_; (case hd => rfl); (case hg => rfl); (case hr => first | (go_simp; done) | (go_simp; rfl)); (case hp => exact (Reps.one (show Kd.M (Kd.int .i32) _ _ _ 19968 [.int .i32 19968] from rfl) (Reps.none _ _)))
         intro v195 w58 ho59 hb hg_ hnew_
         clear hg_ hnew_
         (first | rw [← Ny194.out] at ho59 | (simp only [Int.reduceToNat] at ho59; rw [← Ny194.out] at ho59))
         have HO196 := Aside0.mk (Kd.R_lower ho59 (below_size (pB HB.out)))
         replace HO182 := Aside0.mk (Kd.R_below (pR HO182.out) hb)
         replace HO186 := Aside0.mk (Kd.R_below (pR HO186.out) hb)
         replace BK169 := Aside0.mk (blk_below (pb BK169.out) hb)
         replace HB := Aside0.mk (below_step (pB HB.out) hb)
         clear hb ho59
         refine hK.out _ _ ⟨blk_cell BK169.out 0, blk_cell BK169.out 1, blk_cell BK169.out 2, blk_cell BK169.out 3⟩ (fun hHeld => ?_)
         clear hK K
         refine norm_ (a' := ?_) ?_ ?_
         rotate_left
         · show Act.put _ (some 98) _ = _; simp only [Act.put, List.setIfInBounds_toArray, List.set_cons_zero, List.set_cons_succ, i64_w, i32_w]; rfl
         refine one_ (i := 1) (N := some 94) #[true, true, true, false, true, true, false, true, false, false, false, false, false, false, false] rfl rfl (one_of HT_.out (by kernel_rfl)) (by decide) (fun K hK => ?_)
         refine Kd.R_lit_step (Kd.int .i32) _ 21 ?hg (N := 94) ?hd (xs := ([] : List Int)) (inner := []) (ok := fun _ => True) (okp := fun _ => True) ?hr ?hp (fun _ hk => hk) trivial (Below.refl _ _) (Nat.le_refl _) (by simp) ?_; (case hd => rfl); (case hg => rfl); (case hr => first | (go_simp; done) | (go_simp; rfl)); (case hp => exact (Reps.none _ _))
         intro v189 w60 ho61 hb hg_ hnew_
         clear hg_ hnew_
         (first | rw [← Ny188.out] at ho61 | (simp only [Int.reduceToNat] at ho61; rw [← Ny188.out] at ho61))
         have HO190 := Aside0.mk (Kd.R_lower (Kd.R_new' ho61 (Kd.R_lt (pR HO196.out))) (below_size (pB HB.out)))
         replace HO182 := Aside0.mk (Kd.R_below (pR HO182.out) hb)
         replace HO186 := Aside0.mk (Kd.R_below (pR HO186.out) hb)
         replace HO196 := Aside0.mk (Kd.R_elder' (pR HO196.out) (Kd.R_base ho61) hb)
         replace BK169 := Aside0.mk (blk_below (pb BK169.out) hb)
         replace HB := Aside0.mk (below_step (pB HB.out) hb)
         clear hb ho61
         refine hK.out _ _ ⟨blk_cell BK169.out 0, blk_cell BK169.out 1, blk_cell BK169.out 2, blk_cell BK169.out 3⟩ (fun hHeld => ?_)
         clear hK K
         refine norm_ (a' := ?_) ?_ ?_
         rotate_left
         · show Act.put _ (some 94) _ = _; simp only [Act.put, List.setIfInBounds_toArray, List.set_cons_zero, List.set_cons_succ, i64_w, i32_w]; rfl
         refine one_ (i := 3) (N := some 96) #[true, true, true, true, true, true, false, true, false, false, false, false, false, false, false] rfl rfl (one_of HT_.out (by kernel_rfl)) (by decide) (fun K hK => ?_)
         refine Kd.R_append_rows_step (Kd.int .i32) (w0 := w) w.heap.size (by rfl) (.tmp 94) (.tmp 95) 26 21 (.int .i32 0) 4 rfl Try.underlying26 info21 rfl (by decide) (by omega) v189 y188 l1 _ _ _ (fun k_ => some k_ ≠ (v195 : Value).ownBlock) (fun _ => False) rfl rfl ?aO ?aR (fun _ _ h => h) (fun _ h => h.elim) ?aF ?aB ?aS ?aL ?_
         (case aR => repeat (first | exact (Kd.C_below HR1.out HB.out) | (with_reducible refine Kd.C_alloc ?_ _) | (with_reducible refine Kd.C_drewN ?_ _) | (with_reducible refine Kd.C_drew ?_)))
         (case aB => exact (pB HB.out))
         (case aF => exact (fun k_ hk => Kd.fresh' (Kd.R_lt (pR HO196.out)) k_ hk))
         (case aO => exact (by (with_reducible repeat (first | apply Kd.R_alloc | apply Kd.R_drewN | apply Kd.R_drew)); exact Kd.R_mono HO190.out (fun _ hk => hk.2)))
         (case aS => exact (below_size (pB HB.out)))
         (case aL => have := LMc48.out; omega)
         intro v192 w62 ho hb hg hat
         rw [← Ny191.out] at ho
         have HO193 := Aside0.mk (ho)
         replace BK169 := Aside0.mk (blk_grown (g := gb169) (o := .cells #[.slice A0_0 l0_0.length c0_0, .slice A0_1 l0_1.length c0_1, .int .i64 a0_2, .bool a0_3] 25 (0, 0)) (pb BK169.out) hg (Kd.R_ne HO190.out BK169.out (by decide)))
         replace HO182 := Aside0.mk (Kd.R_over' (pR HO182.out) (Kd.R_typed (pR HO190.out)) (by decide) hg)
         replace HO186 := Aside0.mk (Kd.R_over' (pR HO186.out) (Kd.R_typed (pR HO190.out)) (by decide) hg)
         replace HO196 := Aside0.mk (Kd.R_after (ok := (fun _ => True)) (pR HO196.out) hg hat)
         replace HB := Aside0.mk (hb)
         clear HO190
         clear ho hb hg hat
         refine hK.out _ _ ⟨blk_cell BK169.out 0, blk_cell BK169.out 1, blk_cell BK169.out 2, blk_cell BK169.out 3⟩ (fun hHeld => ?_)
         clear hK K
         refine norm_ (a' := ?_) ?_ ?_
         rotate_left
         · show Act.put _ (some 96) _ = _; simp only [Act.put, List.setIfInBounds_toArray, List.set_cons_zero, List.set_cons_succ, i64_w, i32_w]; rfl
         exact norm_ (by simp only [putAll, Act.put, List.setIfInBounds_toArray, List.set_cons_zero, List.set_cons_succ]) (hCont (v189, v192, v195) _ ⟨hHeld, (by (with_reducible repeat (first | apply Kd.R_alloc | apply Kd.R_drewN | apply Kd.R_drew)); exact Kd.R_mono HO182.out (fun _ hk => hk.2)), (by (with_reducible repeat (first | apply Kd.R_alloc | apply Kd.R_drewN | apply Kd.R_drew)); exact Kd.R_mono HO186.out (fun _ hk => hk.2)), (pR HO193.out), (by (with_reducible repeat (first | apply Kd.R_alloc | apply Kd.R_drewN | apply Kd.R_drew)); exact Kd.R_mono HO196.out (fun _ hk => hk.2)), (pb BK169.out), (pB HB.out)⟩)
        rintro ⟨v189, v192, v195⟩ w63 ⟨hS_, h0_, h1_, h2_, h3_, h4_, h5_⟩
        clear HO182 HO186 BK169 HB
        (try dsimp only at h0_ h1_ h2_ h3_ h4_ h5_)
        have HO182 := Aside0.mk h0_
        have HO186 := Aside0.mk h1_
        have HO193 := Aside0.mk h2_
        have HO196 := Aside0.mk h3_
        have BK169 := Aside0.mk h4_
        have HB := Aside0.mk h5_
        clear h0_ h1_ h2_ h3_ h4_ h5_
        have hHeld : w63.cell? ⟨gb169, 0, none⟩ = some (.slice A0_0 l0_0.length c0_0) ∧ w63.cell? ⟨gb169, 1, none⟩ = some (.slice A0_1 l0_1.length c0_1) ∧ w63.cell? ⟨gb169, 2, none⟩ = some (.int .i64 a0_2) ∧ w63.cell? ⟨gb169, 3, none⟩ = some (.bool a0_3) := hS_
        obtain ⟨Ao65, co65, eo65⟩ := Kd.R_slice HO196.out
        (first | subst eo65 | (injection eo65 with f1_ f2_ f3_; have f4_ := f1_.symm; have f5_ := f3_.symm; clear f1_ f2_ f3_; subst f4_; subst f5_))
        refine norm_ (a' := ?_) ?_ ?_
        rotate_left
        · simp only [putAll, Act.put, List.setIfInBounds_toArray, List.set_cons_zero, List.set_cons_succ]; rfl
        refine one_ (i := 6) (N := some 99) (fl 8 7) rfl rfl (one_of HT_.out (by kernel_rfl)) (by decide) (fun K hK => ?_)
        refine Kd.R_append_rows_step (Kd.int .i32) (w0 := w) w.heap.size (by rfl) (.tmp 96) (.tmp 98) 26 21 (.int .i32 0) 4 rfl Try.underlying26 info21 rfl (by decide) (by omega) v192 y191 y194 _ _ _ (fun k_ => some k_ ≠ (.slice Ao65 y194.length co65 : Value).ownBlock) (fun _ => False) rfl rfl ?aO ?aR (fun _ _ h => h) (fun _ h => h.elim) ?aF ?aB ?aS ?aL ?_
        (case aR => repeat (first | exact (Kd.R_reads' HO196.out).2.2 | (with_reducible refine Kd.C_alloc ?_ _) | (with_reducible refine Kd.C_drewN ?_ _) | (with_reducible refine Kd.C_drew ?_)))
        (case aB => exact (pB HB.out))
        (case aF => exact (fun k_ hk => Kd.fresh' (Kd.R_lt (pR HO196.out)) k_ hk))
        (case aO => exact (pR HO193.out))
        (case aS => exact (below_size (pB HB.out)))
        (case aL => have := LMc49.out; omega)
        intro v198 w64 ho hb hg hat
        rw [← Ny197.out] at ho
        have HO199 := Aside0.mk (ho)
        replace BK169 := Aside0.mk (blk_grown (g := gb169) (o := .cells #[.slice A0_0 l0_0.length c0_0, .slice A0_1 l0_1.length c0_1, .int .i64 a0_2, .bool a0_3] 25 (0, 0)) (pb BK169.out) hg (Kd.R_ne HO193.out BK169.out (by decide)))
        replace HO182 := Aside0.mk (Kd.R_over' (pR HO182.out) (Kd.R_typed (pR HO193.out)) (by decide) hg)
        replace HO186 := Aside0.mk (Kd.R_over' (pR HO186.out) (Kd.R_typed (pR HO193.out)) (by decide) hg)
        replace HO196 := Aside0.mk (Kd.R_after (ok := (fun _ => True)) (by (with_reducible repeat (first | apply Kd.R_alloc | apply Kd.R_drewN | apply Kd.R_drew)); exact Kd.R_mono HO196.out (fun _ hk => ⟨trivial, hk⟩)) hg hat)
        replace HB := Aside0.mk (hb)
        clear HO193
        clear ho hb hg hat
        refine hK.out _ _ ⟨blk_cell BK169.out 0, blk_cell BK169.out 1, blk_cell BK169.out 2, blk_cell BK169.out 3⟩ (fun hHeld => ?_)
        clear hK K
        refine norm_ (a' := ?_) ?_ ?_
        rotate_left
        · show Act.put _ (some 99) _ = _; simp only [Act.put, List.setIfInBounds_toArray, List.set_cons_zero, List.set_cons_succ, i64_w, i32_w]; rfl
        refine one_ (i := 8) (N := some 101) (fl 9 6) rfl rfl (one_of HT_.out (by kernel_rfl)) (by decide) (fun K hK => ?_)
        refine Kd.R_append_rows_step (Kd.int .i32) (w0 := w) w.heap.size (by rfl) (.tmp 99) (.tmp 100) 26 21 (.int .i32 0) 4 rfl Try.underlying26 info21 rfl (by decide) (by omega) v198 y197 l2 _ _ _ (fun k_ => some k_ ≠ (.slice Ao65 y194.length co65 : Value).ownBlock) (fun _ => False) rfl rfl ?aO ?aR (fun _ _ h => h) (fun _ h => h.elim) ?aF ?aB ?aS ?aL ?_
        (case aR => repeat (first | exact (Kd.C_below HR2.out HB.out) | (with_reducible refine Kd.C_alloc ?_ _) | (with_reducible refine Kd.C_drewN ?_ _) | (with_reducible refine Kd.C_drew ?_)))
        (case aB => exact (pB HB.out))
        (case aF => exact (fun k_ hk => Kd.fresh' (Kd.R_lt (pR HO196.out)) k_ hk))
        (case aO => exact (pR HO199.out))
        (case aS => exact (below_size (pB HB.out)))
        (case aL => have := LMc50.out; omega)
        intro v201 w66 ho hb hg hat
        rw [← Ny200.out] at ho
        have HO202 := Aside0.mk (ho)
        replace BK169 := Aside0.mk (blk_grown (g := gb169) (o := .cells #[.slice A0_0 l0_0.length c0_0, .slice A0_1 l0_1.length c0_1, .int .i64 a0_2, .bool a0_3] 25 (0, 0)) (pb BK169.out) hg (Kd.R_ne HO199.out BK169.out (by decide)))
        replace HO182 := Aside0.mk (Kd.R_over' (pR HO182.out) (Kd.R_typed (pR HO199.out)) (by decide) hg)
        replace HO186 := Aside0.mk (Kd.R_over' (pR HO186.out) (Kd.R_typed (pR HO199.out)) (by decide) hg)
        replace HO196 := Aside0.mk (Kd.R_after (ok := (fun _ => True)) (pR HO196.out) hg hat)
        replace HB := Aside0.mk (hb)
        clear HO199
        clear ho hb hg hat
        obtain ⟨Ao67, co67, eo67⟩ := Kd.R_slice HO202.out
        (first | subst eo67 | (injection eo67 with f1_ f2_ f3_; have f4_ := f1_.symm; have f5_ := f3_.symm; clear f1_ f2_ f3_; subst f4_; subst f5_))
        refine hK.out _ _ ⟨blk_cell BK169.out 0, blk_cell BK169.out 1, blk_cell BK169.out 2, blk_cell BK169.out 3⟩ (fun hHeld => ?_)
        clear hK K
        refine norm_ (a' := ?_) ?_ ?_
        rotate_left
        · show Act.put _ (some 101) _ = _; simp only [Act.put, List.setIfInBounds_toArray, List.set_cons_zero, List.set_cons_succ, i64_w, i32_w]; rfl
        refine one_ (i := 9) (N := some 102) (fl 10 5) rfl rfl (one_of HT_.out (by kernel_rfl)) (by decide) (fun K hK => ?_)
        refine goes_ Try.func11 (by kernel_rfl) rfl #[.agg #[.slice A0_0 l0_0.length c0_0, .slice A0_1 l0_1.length c0_1, .int .i64 a0_2, .bool a0_3], .slice Ao67 y200.length co67] (by rfl) rfl rfl (by (try simp only [List.map_toArray, List.map_cons, List.map_nil]); first | done | rfl | (simp only [List.length_drop, List.length_take]; done) | (simp only [List.length_drop, List.length_take]; rfl)) ?_
        with_reducible refine (weigh_Elements.calls _ _ l0_0 _ _ l0_1 a0_2 a0_3 _ _ y200 t203 t206 _ ?side1 ?side2 ?side3 ?side4 ?side5 ?side6 A51.out).mono ?_
        (case side1 => repeat (first | exact (Kd.C_below HR0_0.out HB.out) | (with_reducible refine Kd.C_alloc ?_ _) | (with_reducible refine Kd.C_drewN ?_ _) | (with_reducible refine Kd.C_drew ?_)))
        (case side2 => exact HC0_0.out)
        (case side3 => repeat (first | exact (Kd.C_below HR0_1.out HB.out) | (with_reducible refine Kd.C_alloc ?_ _) | (with_reducible refine Kd.C_drewN ?_ _) | (with_reducible refine Kd.C_drew ?_)))
        (case side4 => exact HC0_1.out)
        (case side5 => repeat (first | exact (Kd.R_reads' HO202.out).2.2 | (with_reducible refine Kd.C_alloc ?_ _) | (with_reducible refine Kd.C_drewN ?_ _) | (with_reducible refine Kd.C_drew ?_)))
        (case side6 => exact (Kd.R_reads' HO202.out).2.1)
        rintro e w68 ⟨v204, rfl, ho0, hb⟩
        refine ⟨_, rfl, ?_⟩
        have HO205 := Aside0.mk (Kd.R_lower (Kd.R_new' (Kd.R_new' ho0 (Kd.R_lt (pR HO182.out))) (Kd.R_lt (pR HO186.out))) (below_size (pB HB.out)))
        replace HO182 := Aside0.mk (Kd.R_elder' (pR HO182.out) (Kd.R_base ho0) hb)
        replace HO186 := Aside0.mk (Kd.R_elder' (pR HO186.out) (Kd.R_base ho0) hb)
        replace HO196 := Aside0.mk (Kd.R_below (pR HO196.out) hb)
        replace HO202 := Aside0.mk (Kd.R_below (pR HO202.out) hb)
        replace BK169 := Aside0.mk (blk_below (pb BK169.out) hb)
        replace HB := Aside0.mk (below_step (pB HB.out) hb)
        (try clear hb)
        (try clear hb2)
        (try clear hk)
        (try clear hi)
        (try clear ho0)
        refine hK.out _ _ ⟨blk_cell BK169.out 0, blk_cell BK169.out 1, blk_cell BK169.out 2, blk_cell BK169.out 3⟩ (fun hHeld => ?_)
        clear hK K
        refine norm_ (a' := ?_) ?_ ?_
        rotate_left
        · show Act.put _ (some 102) _ = _; simp only [Act.put, List.setIfInBounds_toArray, List.set_cons_zero, List.set_cons_succ, i64_w, i32_w]; rfl
        refine pure_ (i := 10) (N := some 92) (v := ?_) (a' := ?_) (fl 11 4) rfl rfl (any_of HT_.out (by kernel_rfl)) (fun _ _ _ h => h) (Or.inl ⟨by rfl, ?_⟩) ?_ ?_
        rotate_left
        · intro w'
          go_simp
          with_reducible rfl
        rotate_left
        · simp only [Act.put, List.setIfInBounds_toArray, List.set_cons_zero, List.set_cons_succ, i64_w, i32_w]; rfl
        refine pure_ (i := 11) (N := some 103) (v := ?_) (a' := ?_) (fl 12 3) rfl rfl (any_of HT_.out (by kernel_rfl)) (fun _ _ _ h => h) (Or.inl ⟨by rfl, ?_⟩) ?_ ?_
        rotate_left
        · intro w'
          go_simp
          with_reducible rfl
        rotate_left
        · simp only [Act.put, List.setIfInBounds_toArray, List.set_cons_zero, List.set_cons_succ, i64_w, i32_w]; rfl
        refine pure_ (i := 12) (N := some 104) (v := ?_) (a' := ?_) (fl 13 2) rfl rfl (any_of HT_.out (by kernel_rfl)) (fun _ _ _ h => h) (Or.inl ⟨by rfl, ?_⟩) ?_ ?_
        rotate_left
        · intro w'
          go_simp
          with_reducible rfl
        rotate_left
        · simp only [Act.put, List.setIfInBounds_toArray, List.set_cons_zero, List.set_cons_succ, i64_w, i32_w]; rfl
        refine pure_ (i := 13) (N := some 15) (v := ?_) (a' := ?_) (fl 14 1) rfl rfl (any_of HT_.out (by kernel_rfl)) (fun _ _ _ h => h) (Or.inl ⟨by rfl, ?_⟩) ?_ ?_
        rotate_left
        · intro w'
          go_simp
          with_reducible rfl
        rotate_left
        · simp only [Act.put, List.setIfInBounds_toArray, List.set_cons_zero, List.set_cons_succ, i64_w, i32_w]; rfl
        refine pure_ (i := 14) (N := some 16) (v := ?_) (a' := ?_) (fl 15 0) rfl rfl (any_of HT_.out (by kernel_rfl)) (fun _ _ _ h => h) (Or.inl ⟨by rfl, ?_⟩) ?_ ?_
        rotate_left
        · intro w'
          go_simp
          with_reducible rfl
        rotate_left
        · simp only [Act.put, List.setIfInBounds_toArray, List.set_cons_zero, List.set_cons_succ, i64_w, i32_w]; rfl
        refine done_ (done_of HT_.out (by kernel_rfl)) ?_
        go_upto_region 20 with (fail)
        go_cut [110] (fun v110 wc => ∃ (kq : Nat) (x110_51 : Bool), v110 = .bool x110_51 ∧ Aside0 (gazetteerlaw3_parts.j4 kq 19968 t180 t184 t203 t206 x110_51 = some r) ∧ Aside0 (kq ≤ k3) ∧ Aside0 (Kd.R k39 39 wc w.heap.size (fun k_ => some k_ ≠ (v185 : Value).ownBlock ∧ some k_ ≠ (v204 : Value).ownBlock) v181 t180) ∧ Aside0 (Kd.R k39 39 wc w.heap.size (fun k_ => some k_ ≠ (v181 : Value).ownBlock ∧ some k_ ≠ (v204 : Value).ownBlock) v185 t184) ∧ Aside0 (Kd.R k39 39 wc w.heap.size (fun k_ => some k_ ≠ (v181 : Value).ownBlock ∧ some k_ ≠ (v185 : Value).ownBlock) v204 t203) ∧ Aside0 (wc.heap[gb169]? = some (.cells #[(.slice A0_0 l0_0.length c0_0), (.slice A0_1 l0_1.length c0_1), .int .i64 a0_2, .bool a0_3] 25 (0, 0))) ∧ Aside0 (Below w.heap.size w wc))
        case first =>
         have H := HC52.out
         clear HC52
         by_cases c69 : t183 = 0
         rotate_left
         ·
          rw [if_neg c69] at H
          have c69b0 : (t183 == 0) = false := beq_eq_false_iff_ne.mpr c69
          have c69b1 : (t183 != 0) = true := bne_iff_ne.mpr c69
          (first | rw [c69b0] | (simp only [i64_w, i32_w]; rw [c69b0]) | skip)
          have H' := Aside0.mk H
          clear H
          go_wp2
          go_meet
          case rel => exact ⟨_, (true), (by first | rfl | (simp; done) | (simp [*]; done)), H', ⟨by have := HJ3.out; have := HK2.out; have := HK3.out; first | omega | exact Nat.le_refl _⟩, ⟨by (with_reducible repeat (first | apply Kd.R_alloc | apply Kd.R_drewN | apply Kd.R_drew)); exact HO182.out⟩, ⟨by (with_reducible repeat (first | apply Kd.R_alloc | apply Kd.R_drewN | apply Kd.R_drew)); exact HO186.out⟩, ⟨by (with_reducible repeat (first | apply Kd.R_alloc | apply Kd.R_drewN | apply Kd.R_drew)); exact Kd.R_mono HO205.out (fun _ hk => by first | exact ⟨hk.1.2, hk.2⟩ | omega)⟩, ⟨by (with_reducible repeat (first | refine blk_drewN ?_ _ | refine blk_drew ?_ | refine blk_alloc ?_ _)); exact BK169.out⟩, ⟨by repeat (first | (with_reducible first | exact HB.out | apply below_alloc | apply pw_below_drewN | apply below_drew1 | refine below_set ?_ GE169.out) | exact HB.out)⟩⟩
         rw [if_pos c69] at H
         have c69b0 : (t183 == 0) = true := beq_iff_eq.mpr c69
         have c69b1 : (t183 != 0) = false := bne_eq_false_iff_eq.mpr c69
         clear c69
         (first | rw [c69b0] | (simp only [i64_w, i32_w]; rw [c69b0]) | skip)
         have H' := Aside0.mk H
         clear H
         go_wp2
         go_meet
         case rel => exact ⟨_, ((t187 != 0)), (by first | rfl | (simp; done) | (simp [*]; done)), H', ⟨by have := HJ3.out; have := HK2.out; have := HK3.out; first | omega | exact Nat.le_refl _⟩, ⟨by (with_reducible repeat (first | apply Kd.R_alloc | apply Kd.R_drewN | apply Kd.R_drew)); exact HO182.out⟩, ⟨by (with_reducible repeat (first | apply Kd.R_alloc | apply Kd.R_drewN | apply Kd.R_drew)); exact HO186.out⟩, ⟨by (with_reducible repeat (first | apply Kd.R_alloc | apply Kd.R_drewN | apply Kd.R_drew)); exact Kd.R_mono HO205.out (fun _ hk => by first | exact ⟨hk.1.2, hk.2⟩ | omega)⟩, ⟨by (with_reducible repeat (first | refine blk_drewN ?_ _ | refine blk_drew ?_ | refine blk_alloc ?_ _)); exact BK169.out⟩, ⟨by repeat (first | (with_reducible first | exact HB.out | apply below_alloc | apply pw_below_drewN | apply below_drew1 | refine below_set ?_ GE169.out) | exact HB.out)⟩⟩
        case rest =>
         clear HC52
         try clear c1
         try clear p1
         try clear q1
         try clear hx1
         try clear c2
         try clear p2
         try clear c3
         try clear c4
         try clear c5
         try clear c6
         try clear p6
         try clear c11
         try clear p17
         try clear q17
         try clear hx17
         try clear c39
         try clear c39b0
         try clear c40
         try clear c48
         try clear c49
         try clear c50
         try clear p64
         try clear c69
         try clear c69b0
         try clear c69b1
         try clear hcz53_0
         try clear hcz53_1
         try clear hcz53_2
         try clear hcz53_3
         try clear hcz55_0
         try clear hcz55_1
         try clear hcz55_2
         try clear hcz55_3
         try clear hfz53_0
         try clear hfz53_1
         try clear hfz53_2
         try clear hfz53_3
         try clear hfz55_0
         try clear hfz55_1
         try clear hfz55_2
         try clear hfz55_3
         try clear hx178_1
         try clear hx178_2
         try clear p178
         try clear q178
         obtain ⟨kq, x110_51, rfl, HA, HJ51, HO_11, HO_13, HO_15, BK169, HB⟩ := hcut
         cases kq with
         | zero => exact absurd HA.out (by simp [gazetteerlaw3_parts.j4])
         | succ kj51 =>
          have H := HA.out
          clear HA
          simp only [gazetteerlaw3_parts.j4] at H
          by_cases c70 : x110_51 = true
          ·
           subst c70
           have H1 : ((gazetteerlaw3_awake.f).bind fun t207 => (if t207 = true then (some (t206 != 0)) else (some false))) = some r := by rw [if_pos rfl] at H; exact H
           clear H
           have H := H1
           clear H1
           replace H := Option.bind_eq_some_iff.mp H
           obtain ⟨t207, A710, H⟩ := H
           replace H : (if t207 = true then (some (t206 != 0)) else (some false)) = some r := H
           have A71 := Aside0.mk A710
           clear A710
           by_cases c72 : t207 = true
           ·
            subst c72
            have H1 : (some (t206 != 0)) = some r := by rw [if_pos rfl] at H; exact H
            clear H
            have H := H1
            clear H1
            obtain rfl := Option.some.inj H
            go_wp2_with (first | ((with_reducible refine gate_callee (f := 9) rfl ?_); refine goesL_ (some 111) rfl rfl Try.func9 (by kernel_rfl) rfl #[] rfl (by (try simp only [List.map_toArray, List.map_cons, List.map_nil]); first | done | rfl | (simp only [List.length_drop, List.length_take]; done) | (simp only [List.length_drop, List.length_take]; rfl)) ?_; (with_reducible refine (gazetteerlaw3_awake.calls  true _ A71.out).mono ?_); rintro e w73 ⟨rfl, hb⟩; refine ⟨_, rfl, ?_⟩; replace HO_11 := Aside0.mk (Kd.R_below (pR HO_11.out) hb); replace HO_13 := Aside0.mk (Kd.R_below (pR HO_13.out) hb); replace HO_15 := Aside0.mk (Kd.R_below (pR HO_15.out) hb); replace BK169 := Aside0.mk (blk_below (pb BK169.out) hb); replace HB := Aside0.mk (below_step (pB HB.out) hb); (try clear hb); (try clear hb2); (try clear hk); (try clear hi)))
            go_ret
            exact ⟨by first | rfl | (simp [errW_none, errW_some] <;> rfl) | (simp [*, errW_none, errW_some] <;> rfl), by repeat (first | (with_reducible first | exact HB.out | apply below_alloc | apply pw_below_drewN | apply below_drew1 | refine below_set ?_ GE169.out) | exact HB.out)⟩
           replace c72 := Bool.eq_false_iff.mpr c72
           subst c72
           have H1 : (some false) = some r := by rw [if_neg (show ¬ (false = true) by decide)] at H; exact H
           clear H
           have H := H1
           clear H1
           obtain rfl := Option.some.inj H
           go_wp2_with (first | ((with_reducible refine gate_callee (f := 9) rfl ?_); refine goesL_ (some 111) rfl rfl Try.func9 (by kernel_rfl) rfl #[] rfl (by (try simp only [List.map_toArray, List.map_cons, List.map_nil]); first | done | rfl | (simp only [List.length_drop, List.length_take]; done) | (simp only [List.length_drop, List.length_take]; rfl)) ?_; (with_reducible refine (gazetteerlaw3_awake.calls  false _ A71.out).mono ?_); rintro e w74 ⟨rfl, hb⟩; refine ⟨_, rfl, ?_⟩; replace HO_11 := Aside0.mk (Kd.R_below (pR HO_11.out) hb); replace HO_13 := Aside0.mk (Kd.R_below (pR HO_13.out) hb); replace HO_15 := Aside0.mk (Kd.R_below (pR HO_15.out) hb); replace BK169 := Aside0.mk (blk_below (pb BK169.out) hb); replace HB := Aside0.mk (below_step (pB HB.out) hb); (try clear hb); (try clear hb2); (try clear hk); (try clear hi)))
           go_ret
           exact ⟨by first | rfl | (simp [errW_none, errW_some] <;> rfl) | (simp [*, errW_none, errW_some] <;> rfl), by repeat (first | (with_reducible first | exact HB.out | apply below_alloc | apply pw_below_drewN | apply below_drew1 | refine below_set ?_ GE169.out) | exact HB.out)⟩
          replace c70 := Bool.eq_false_iff.mpr c70
          subst c70
          have H1 : ((weigh_Implied.f 19968).bind fun bt208 => (if t206 = 0 then (gazetteerlaw3_parts.j5 kj51 t180 t203 ((t203.length : Int) != (wrap64 ((wrap64 ((t180.length : Int) + 2)) + (t184.length : Int)))) bt208.1 bt208.2.1 bt208.2.2.1 bt208.2.2.2.1 bt208.2.2.2.2.1 bt208.2.2.2.2.2) else (gazetteerlaw3_parts.j5 kj51 t180 t203 true bt208.1 bt208.2.1 bt208.2.2.1 bt208.2.2.2.1 bt208.2.2.2.2.1 bt208.2.2.2.2.2))) = some r := by rw [if_neg (show ¬ (false = true) by decide)] at H; exact H
          clear H
          have H := H1
          clear H1
          replace H := Option.bind_eq_some_iff.mp H
          obtain ⟨⟨t208, t209, t210, t211, t212, t213⟩, A750, H⟩ := H
          replace H : (if t206 = 0 then (gazetteerlaw3_parts.j5 kj51 t180 t203 ((t203.length : Int) != (wrap64 ((wrap64 ((t180.length : Int) + 2)) + (t184.length : Int)))) t208 t209 t210 t211 t212 t213) else (gazetteerlaw3_parts.j5 kj51 t180 t203 true t208 t209 t210 t211 t212 t213)) = some r := H
          have A75 := Aside0.mk A750
          clear A750
          have HC76 := Aside0.mk H
          clear H
          go_upto_region 23 with (first | ((with_reducible refine gate_callee (f := 18) rfl ?_); refine goesL_ (some 117) rfl rfl Try.func18 (by kernel_rfl) rfl #[.int .i32 19968] rfl (by (try simp only [List.map_toArray, List.map_cons, List.map_nil]); first | done | rfl | (simp only [List.length_drop, List.length_take]; done) | (simp only [List.length_drop, List.length_take]; rfl)) ?_; (with_reducible refine (weigh_Implied.calls 19968 t208 t209 t210 t211 t212 t213 _ A75.out).mono ?_); rintro e w77 ⟨rfl, hb⟩; refine ⟨_, rfl, ?_⟩; replace HO_11 := Aside0.mk (Kd.R_below (pR HO_11.out) hb); replace HO_13 := Aside0.mk (Kd.R_below (pR HO_13.out) hb); replace HO_15 := Aside0.mk (Kd.R_below (pR HO_15.out) hb); replace BK169 := Aside0.mk (blk_below (pb BK169.out) hb); replace HB := Aside0.mk (below_step (pB HB.out) hb); (try clear hb); (try clear hb2); (try clear hk); (try clear hi)) | ((with_reducible refine gate_dst (N := 17) rfl ?_); (try (refine gate_guard (by rfl) ?_; dsimp only)); refine box_event ?hg (N := 17) ?hd (cs := #[.int .i64 0, .int .i64 0, .int .i64 0, .int .i64 0, .int .i64 0, .int .i64 0]) (t := 46) ?hr ?_; (case hd => rfl); (case hg => rfl); (case hr => first | (go_simp; done) | (go_simp; rfl)); intro gb214 hg w78 hbox hb; have BK214 := Aside0.mk (hbox); have GW214 := geL hg HB.out; have GE214 := geL hg HB.out; have NB169_214 := neL hg BK169.out; have NB214_169 := neG hg BK169.out; replace HO_11 := Aside0.mk (Kd.R_below (pR HO_11.out) hb); replace HO_13 := Aside0.mk (Kd.R_below (pR HO_13.out) hb); replace HO_15 := Aside0.mk (Kd.R_below (pR HO_15.out) hb); replace BK169 := Aside0.mk (blk_below (pb BK169.out) hb); replace HB := Aside0.mk (below_step (pB HB.out) hb); clear hb hbox hg; have hnb79 := NB214_169.out; have hnc79 := NB169_214.out; have hcz80_0 : w78.cell? ⟨gb214, 0, none⟩ = some (.int .i64 0) := blk_cell BK214.out 0; have hcz80_1 : w78.cell? ⟨gb214, 1, none⟩ = some (.int .i64 0) := blk_cell BK214.out 1; have hcz80_2 : w78.cell? ⟨gb214, 2, none⟩ = some (.int .i64 0) := blk_cell BK214.out 2; have hcz80_3 : w78.cell? ⟨gb214, 3, none⟩ = some (.int .i64 0) := blk_cell BK214.out 3; have hcz80_4 : w78.cell? ⟨gb214, 4, none⟩ = some (.int .i64 0) := blk_cell BK214.out 4; have hcz80_5 : w78.cell? ⟨gb214, 5, none⟩ = some (.int .i64 0) := blk_cell BK214.out 5; have hfz80_0 := blk_frozen BK214.out 0; have hfz80_1 := blk_frozen BK214.out 1; have hfz80_2 := blk_frozen BK214.out 2; have hfz80_3 := blk_frozen BK214.out 3; have hfz80_4 := blk_frozen BK214.out 4; have hfz80_5 := blk_frozen BK214.out 5))
          (try simp only [Act.put, List.setIfInBounds_toArray, List.set_cons_zero, List.set_cons_succ])
          go_cut [130] (fun v130 wc => ∃ (kq : Nat) (x130_75 : Bool), v130 = .bool x130_75 ∧ Aside0 (gazetteerlaw3_parts.j5 kq t180 t203 x130_75 t208 t209 t210 t211 t212 t213 = some r) ∧ Aside0 (kq ≤ kj51) ∧ Aside0 (Kd.R k39 39 wc w.heap.size (fun k_ => some k_ ≠ (v204 : Value).ownBlock) v181 t180) ∧ Aside0 (Kd.R k39 39 wc w.heap.size (fun k_ => some k_ ≠ (v181 : Value).ownBlock) v204 t203) ∧ Aside0 (wc.heap[gb169]? = some (.cells #[(.slice A0_0 l0_0.length c0_0), (.slice A0_1 l0_1.length c0_1), .int .i64 a0_2, .bool a0_3] 25 (0, 0))) ∧ Aside0 (wc.heap[gb214]? = some (.cells #[.int .i64 t208, .int .i64 t209, .int .i64 t210, .int .i64 t211, .int .i64 t212, .int .i64 t213] 46 (0, 0))) ∧ Aside0 (Below w.heap.size w wc))
          case first =>
           have H := HC76.out
           clear HC76
           by_cases c81 : t206 = 0
           rotate_left
           ·
            rw [if_neg c81] at H
            have c81b0 : (t206 == 0) = false := beq_eq_false_iff_ne.mpr c81
            have c81b1 : (t206 != 0) = true := bne_iff_ne.mpr c81
            (first | rw [c81b0] | (simp only [i64_w, i32_w]; rw [c81b0]) | skip)
            have H' := Aside0.mk H
            clear H
            go_wp2
            go_meet
            case rel => exact ⟨_, (true), (by first | rfl | (simp; done) | (simp [*]; done)), H', ⟨by have := HJ3.out; have := HK2.out; have := HK3.out; have := HJ51.out; first | omega | exact Nat.le_refl _⟩, ⟨by (with_reducible repeat (first | apply Kd.R_alloc | apply Kd.R_drewN | apply Kd.R_drew)); exact Kd.R_mono (Kd.R_far (p := ⟨gb214, 5, none⟩) (Kd.R_far (p := ⟨gb214, 4, none⟩) (Kd.R_far (p := ⟨gb214, 3, none⟩) (Kd.R_far (p := ⟨gb214, 2, none⟩) (Kd.R_far (p := ⟨gb214, 1, none⟩) (Kd.R_far (p := ⟨gb214, 0, none⟩) (Kd.R_types HO_11.out BK214.out (by decide)) (fun _ hk => hk.2) (.int .i64 t208)) (fun _ hk => hk.2) (.int .i64 t209)) (fun _ hk => hk.2) (.int .i64 t210)) (fun _ hk => hk.2) (.int .i64 t211)) (fun _ hk => hk.2) (.int .i64 t212)) (fun _ hk => hk.2) (.int .i64 t213)) (fun _ hk => hk.1.2)⟩, ⟨by (with_reducible repeat (first | apply Kd.R_alloc | apply Kd.R_drewN | apply Kd.R_drew)); exact Kd.R_mono (Kd.R_far (p := ⟨gb214, 5, none⟩) (Kd.R_far (p := ⟨gb214, 4, none⟩) (Kd.R_far (p := ⟨gb214, 3, none⟩) (Kd.R_far (p := ⟨gb214, 2, none⟩) (Kd.R_far (p := ⟨gb214, 1, none⟩) (Kd.R_far (p := ⟨gb214, 0, none⟩) (Kd.R_types HO_15.out BK214.out (by decide)) (fun _ hk => hk.2) (.int .i64 t208)) (fun _ hk => hk.2) (.int .i64 t209)) (fun _ hk => hk.2) (.int .i64 t210)) (fun _ hk => hk.2) (.int .i64 t211)) (fun _ hk => hk.2) (.int .i64 t212)) (fun _ hk => hk.2) (.int .i64 t213)) (fun _ hk => hk.1.1)⟩, ⟨by (with_reducible repeat (first | refine blk_drewN ?_ _ | refine blk_drew ?_ | refine blk_alloc ?_ _)); refine blk_far ?_ NB169_214.out _; (with_reducible repeat (first | refine blk_drewN ?_ _ | refine blk_drew ?_ | refine blk_alloc ?_ _)); refine blk_far ?_ NB169_214.out _; (with_reducible repeat (first | refine blk_drewN ?_ _ | refine blk_drew ?_ | refine blk_alloc ?_ _)); refine blk_far ?_ NB169_214.out _; (with_reducible repeat (first | refine blk_drewN ?_ _ | refine blk_drew ?_ | refine blk_alloc ?_ _)); refine blk_far ?_ NB169_214.out _; (with_reducible repeat (first | refine blk_drewN ?_ _ | refine blk_drew ?_ | refine blk_alloc ?_ _)); refine blk_far ?_ NB169_214.out _; (with_reducible repeat (first | refine blk_drewN ?_ _ | refine blk_drew ?_ | refine blk_alloc ?_ _)); refine blk_far ?_ NB169_214.out _; (with_reducible repeat (first | refine blk_drewN ?_ _ | refine blk_drew ?_ | refine blk_alloc ?_ _)); exact BK169.out⟩, ⟨by (with_reducible repeat (first | refine blk_drewN ?_ _ | refine blk_drew ?_ | refine blk_alloc ?_ _)); refine blk_put (cs := #[.int .i64 t208, .int .i64 t209, .int .i64 t210, .int .i64 t211, .int .i64 t212, .int .i64 0]) ?_ 5 _ rfl; (with_reducible repeat (first | refine blk_drewN ?_ _ | refine blk_drew ?_ | refine blk_alloc ?_ _)); refine blk_put (cs := #[.int .i64 t208, .int .i64 t209, .int .i64 t210, .int .i64 t211, .int .i64 0, .int .i64 0]) ?_ 4 _ rfl; (with_reducible repeat (first | refine blk_drewN ?_ _ | refine blk_drew ?_ | refine blk_alloc ?_ _)); refine blk_put (cs := #[.int .i64 t208, .int .i64 t209, .int .i64 t210, .int .i64 0, .int .i64 0, .int .i64 0]) ?_ 3 _ rfl; (with_reducible repeat (first | refine blk_drewN ?_ _ | refine blk_drew ?_ | refine blk_alloc ?_ _)); refine blk_put (cs := #[.int .i64 t208, .int .i64 t209, .int .i64 0, .int .i64 0, .int .i64 0, .int .i64 0]) ?_ 2 _ rfl; (with_reducible repeat (first | refine blk_drewN ?_ _ | refine blk_drew ?_ | refine blk_alloc ?_ _)); refine blk_put (cs := #[.int .i64 t208, .int .i64 0, .int .i64 0, .int .i64 0, .int .i64 0, .int .i64 0]) ?_ 1 _ rfl; (with_reducible repeat (first | refine blk_drewN ?_ _ | refine blk_drew ?_ | refine blk_alloc ?_ _)); refine blk_put (cs := #[.int .i64 0, .int .i64 0, .int .i64 0, .int .i64 0, .int .i64 0, .int .i64 0]) ?_ 0 _ rfl; (with_reducible repeat (first | refine blk_drewN ?_ _ | refine blk_drew ?_ | refine blk_alloc ?_ _)); exact BK214.out⟩, ⟨by repeat (first | (with_reducible first | exact HB.out | apply below_alloc | apply pw_below_drewN | apply below_drew1 | refine below_set ?_ GE169.out | refine below_set ?_ GE214.out) | exact HB.out)⟩⟩
           rw [if_pos c81] at H
           have c81b0 : (t206 == 0) = true := beq_iff_eq.mpr c81
           have c81b1 : (t206 != 0) = false := bne_eq_false_iff_eq.mpr c81
           clear c81
           (first | rw [c81b0] | (simp only [i64_w, i32_w]; rw [c81b0]) | skip)
           have H' := Aside0.mk H
           clear H
           obtain ⟨Ao82, co82, eo82⟩ := Kd.R_slice HO_15.out
           subst eo82
           obtain ⟨Ao83, co83, eo83⟩ := Kd.R_slice HO_11.out
           subst eo83
           obtain ⟨Ao84, co84, eo84⟩ := Kd.R_slice HO_13.out
           subst eo84
           go_wp2
           go_meet
           case rel => exact ⟨_, (((t203.length : Int) != (wrap64 ((wrap64 ((t180.length : Int) + 2)) + (t184.length : Int))))), (by first | rfl | (simp; done) | (simp [*]; done)), H', ⟨by have := HJ3.out; have := HK2.out; have := HK3.out; have := HJ51.out; first | omega | exact Nat.le_refl _⟩, ⟨by (with_reducible repeat (first | apply Kd.R_alloc | apply Kd.R_drewN | apply Kd.R_drew)); exact Kd.R_mono (Kd.R_far (p := ⟨gb214, 5, none⟩) (Kd.R_far (p := ⟨gb214, 4, none⟩) (Kd.R_far (p := ⟨gb214, 3, none⟩) (Kd.R_far (p := ⟨gb214, 2, none⟩) (Kd.R_far (p := ⟨gb214, 1, none⟩) (Kd.R_far (p := ⟨gb214, 0, none⟩) (Kd.R_types HO_11.out BK214.out (by decide)) (fun _ hk => hk.2) (.int .i64 t208)) (fun _ hk => hk.2) (.int .i64 t209)) (fun _ hk => hk.2) (.int .i64 t210)) (fun _ hk => hk.2) (.int .i64 t211)) (fun _ hk => hk.2) (.int .i64 t212)) (fun _ hk => hk.2) (.int .i64 t213)) (fun _ hk => hk.1.2)⟩, ⟨by (with_reducible repeat (first | apply Kd.R_alloc | apply Kd.R_drewN | apply Kd.R_drew)); exact Kd.R_mono (Kd.R_far (p := ⟨gb214, 5, none⟩) (Kd.R_far (p := ⟨gb214, 4, none⟩) (Kd.R_far (p := ⟨gb214, 3, none⟩) (Kd.R_far (p := ⟨gb214, 2, none⟩) (Kd.R_far (p := ⟨gb214, 1, none⟩) (Kd.R_far (p := ⟨gb214, 0, none⟩) (Kd.R_types HO_15.out BK214.out (by decide)) (fun _ hk => hk.2) (.int .i64 t208)) (fun _ hk => hk.2) (.int .i64 t209)) (fun _ hk => hk.2) (.int .i64 t210)) (fun _ hk => hk.2) (.int .i64 t211)) (fun _ hk => hk.2) (.int .i64 t212)) (fun _ hk => hk.2) (.int .i64 t213)) (fun _ hk => hk.1.1)⟩, ⟨by (with_reducible repeat (first | refine blk_drewN ?_ _ | refine blk_drew ?_ | refine blk_alloc ?_ _)); refine blk_far ?_ NB169_214.out _; (with_reducible repeat (first | refine blk_drewN ?_ _ | refine blk_drew ?_ | refine blk_alloc ?_ _)); refine blk_far ?_ NB169_214.out _; (with_reducible repeat (first | refine blk_drewN ?_ _ | refine blk_drew ?_ | refine blk_alloc ?_ _)); refine blk_far ?_ NB169_214.out _; (with_reducible repeat (first | refine blk_drewN ?_ _ | refine blk_drew ?_ | refine blk_alloc ?_ _)); refine blk_far ?_ NB169_214.out _; (with_reducible repeat (first | refine blk_drewN ?_ _ | refine blk_drew ?_ | refine blk_alloc ?_ _)); refine blk_far ?_ NB169_214.out _; (with_reducible repeat (first | refine blk_drewN ?_ _ | refine blk_drew ?_ | refine blk_alloc ?_ _)); refine blk_far ?_ NB169_214.out _; (with_reducible repeat (first | refine blk_drewN ?_ _ | refine blk_drew ?_ | refine blk_alloc ?_ _)); exact BK169.out⟩, ⟨by (with_reducible repeat (first | refine blk_drewN ?_ _ | refine blk_drew ?_ | refine blk_alloc ?_ _)); refine blk_put (cs := #[.int .i64 t208, .int .i64 t209, .int .i64 t210, .int .i64 t211, .int .i64 t212, .int .i64 0]) ?_ 5 _ rfl; (with_reducible repeat (first | refine blk_drewN ?_ _ | refine blk_drew ?_ | refine blk_alloc ?_ _)); refine blk_put (cs := #[.int .i64 t208, .int .i64 t209, .int .i64 t210, .int .i64 t211, .int .i64 0, .int .i64 0]) ?_ 4 _ rfl; (with_reducible repeat (first | refine blk_drewN ?_ _ | refine blk_drew ?_ | refine blk_alloc ?_ _)); refine blk_put (cs := #[.int .i64 t208, .int .i64 t209, .int .i64 t210, .int .i64 0, .int .i64 0, .int .i64 0]) ?_ 3 _ rfl; (with_reducible repeat (first | refine blk_drewN ?_ _ | refine blk_drew ?_ | refine blk_alloc ?_ _)); refine blk_put (cs := #[.int .i64 t208, .int .i64 t209, .int .i64 0, .int .i64 0, .int .i64 0, .int .i64 0]) ?_ 2 _ rfl; (with_reducible repeat (first | refine blk_drewN ?_ _ | refine blk_drew ?_ | refine blk_alloc ?_ _)); refine blk_put (cs := #[.int .i64 t208, .int .i64 0, .int .i64 0, .int .i64 0, .int .i64 0, .int .i64 0]) ?_ 1 _ rfl; (with_reducible repeat (first | refine blk_drewN ?_ _ | refine blk_drew ?_ | refine blk_alloc ?_ _)); refine blk_put (cs := #[.int .i64 0, .int .i64 0, .int .i64 0, .int .i64 0, .int .i64 0, .int .i64 0]) ?_ 0 _ rfl; (with_reducible repeat (first | refine blk_drewN ?_ _ | refine blk_drew ?_ | refine blk_alloc ?_ _)); exact BK214.out⟩, ⟨by repeat (first | (with_reducible first | exact HB.out | apply below_alloc | apply pw_below_drewN | apply below_drew1 | refine below_set ?_ GE169.out | refine below_set ?_ GE214.out) | exact HB.out)⟩⟩
          case rest =>
           clear HC76
           try clear c1
           try clear p1
           try clear q1
           try clear hx1
           try clear c2
           try clear p2
           try clear c3
           try clear c4
           try clear c5
           try clear c6
           try clear p6
           try clear c7
           try clear c8
           try clear c9
           try clear c11
           try clear p17
           try clear q17
           try clear hx17
           try clear c18
           try clear c39
           try clear c39b0
           try clear c40
           try clear c48
           try clear c49
           try clear c50
           try clear p64
           try clear c69
           try clear c69b0
           try clear c69b1
           try clear c70
           try clear c72
           try clear c79
           try clear c81
           try clear c81b0
           try clear c81b1
           try clear hcz53_0
           try clear hcz53_1
           try clear hcz53_2
           try clear hcz53_3
           try clear hcz55_0
           try clear hcz55_1
           try clear hcz55_2
           try clear hcz55_3
           try clear hcz80_0
           try clear hcz80_1
           try clear hcz80_2
           try clear hcz80_3
           try clear hcz80_4
           try clear hcz80_5
           try clear hfz53_0
           try clear hfz53_1
           try clear hfz53_2
           try clear hfz53_3
           try clear hfz55_0
           try clear hfz55_1
           try clear hfz55_2
           try clear hfz55_3
           try clear hfz80_0
           try clear hfz80_1
           try clear hfz80_2
           try clear hfz80_3
           try clear hfz80_4
           try clear hfz80_5
           try clear hx178_1
           try clear hx178_2
           try clear p1
           try clear p17
           try clear p178
           try clear p2
           try clear p6
           try clear p64
           try clear q1
           try clear q17
           try clear q178
           obtain ⟨kq, x130_75, rfl, HA, HJ75, HO_11, HO_15, BK169, BK214, HB⟩ := hcut
           cases kq with
           | zero => exact absurd HA.out (by simp [gazetteerlaw3_parts.j5])
           | succ kj75 =>
            have H := HA.out
            clear HA
            simp only [gazetteerlaw3_parts.j5] at H
            by_cases c85 : x130_75 = true
            ·
             subst c85
             have H1 : (some false) = some r := by rw [if_pos rfl] at H; exact H
             clear H
             have H := H1
             clear H1
             obtain rfl := Option.some.inj H
             go_wp2
             go_ret
             exact ⟨by first | rfl | (simp [errW_none, errW_some] <;> rfl) | (simp [*, errW_none, errW_some] <;> rfl), by repeat (first | (with_reducible first | exact HB.out | apply below_alloc | apply pw_below_drewN | apply below_drew1 | refine below_set ?_ GE169.out | refine below_set ?_ GE214.out) | exact HB.out)⟩
            replace c85 := Bool.eq_false_iff.mpr c85
            subst c85
            have H1 : ((gazetteerlaw3_awake.f).bind fun t215 => (if t215 = true then (if 0 ≤ (t180.length : Int) then (if (t180.length : Int) ≤ (t203.length : Int) then ((gazetteerlaw3_Same.f kj75 (t203.take ((t180.length : Int) : Int).toNat) t180).bind fun t220 => (if t220 = true then (if (t180.length : Int) < (t203.length : Int) then (if (((rd_T39 t203 (t180.length : Int)).f0) == t208 && (((rd_T39 t203 (t180.length : Int)).f1) == t209 && (((rd_T39 t203 (t180.length : Int)).f2) == t210))) = true then (if 0 ≤ (wrap64 ((t180.length : Int) + 1)) then (if (wrap64 ((t180.length : Int) + 1)) < (t203.length : Int) then (some (((rd_T39 t203 (wrap64 ((t180.length : Int) + 1))).f0) == t211 && (((rd_T39 t203 (wrap64 ((t180.length : Int) + 1))).f1) == t212 && (((rd_T39 t203 (wrap64 ((t180.length : Int) + 1))).f2) == t213)))) else (none)) else (none)) else (some false)) else (none)) else (some false))) else (none)) else (none)) else (some false))) = some r := by rw [if_neg (show ¬ (false = true) by decide)] at H; exact H
            clear H
            have H := H1
            clear H1
            replace H := Option.bind_eq_some_iff.mp H
            obtain ⟨t215, A860, H⟩ := H
            replace H : (if t215 = true then (if 0 ≤ (t180.length : Int) then (if (t180.length : Int) ≤ (t203.length : Int) then ((gazetteerlaw3_Same.f kj75 (t203.take ((t180.length : Int) : Int).toNat) t180).bind fun t220 => (if t220 = true then (if (t180.length : Int) < (t203.length : Int) then (if (((rd_T39 t203 (t180.length : Int)).f0) == t208 && (((rd_T39 t203 (t180.length : Int)).f1) == t209 && (((rd_T39 t203 (t180.length : Int)).f2) == t210))) = true then (if 0 ≤ (wrap64 ((t180.length : Int) + 1)) then (if (wrap64 ((t180.length : Int) + 1)) < (t203.length : Int) then (some (((rd_T39 t203 (wrap64 ((t180.length : Int) + 1))).f0) == t211 && (((rd_T39 t203 (wrap64 ((t180.length : Int) + 1))).f1) == t212 && (((rd_T39 t203 (wrap64 ((t180.length : Int) + 1))).f2) == t213)))) else (none)) else (none)) else (some false)) else (none)) else (some false))) else (none)) else (none)) else (some false)) = some r := H
            have A86 := Aside0.mk A860
            clear A860
            by_cases c87 : t215 = true
            rotate_left
            ·
             replace c87 := Bool.eq_false_iff.mpr c87
             subst c87
             have H1 : (some false) = some r := by rw [if_neg (show ¬ (false = true) by decide)] at H; exact H
             clear H
             have H := H1
             clear H1
             obtain rfl := Option.some.inj H
             try go_wp2
             replace HO_11 := Aside0.mk (Kd.R_drew HO_11.out)
             replace HO_15 := Aside0.mk (Kd.R_drew HO_15.out)
             replace BK169 := Aside0.mk (blk_drew BK169.out)
             replace BK214 := Aside0.mk (blk_drew BK214.out)
             replace HB := Aside0.mk (below_drew1 HB.out)
             refine start_ (n := 31) (S := fun w' => True) (ds := []) (fl 0 31) (by kernel_rfl) rfl rfl trivial (fun hHeld => ?_); refine with_tabW gazetteerlaw3_parts.tab25 gazetteerlaw3_parts.bits25 (fun HT_ HW_ => ?_)
             generalize wc.drew = w112 at HO_11 HO_15 BK169 BK214 HB hHeld ⊢
             refine one_ (i := 0) (N := some 131) (fl 1 30) rfl rfl (one_of HT_.out (by kernel_rfl)) (by decide) (fun K hK => ?_)
             refine goes_ Try.func9 (by kernel_rfl) rfl #[] (by rfl) rfl rfl (by (try simp only [List.map_toArray, List.map_cons, List.map_nil]); first | done | rfl | (simp only [List.length_drop, List.length_take]; done) | (simp only [List.length_drop, List.length_take]; rfl)) ?_
             with_reducible refine (gazetteerlaw3_awake.calls  false _ A86.out).mono ?_
             rintro e w113 ⟨rfl, hb⟩
             refine ⟨_, rfl, ?_⟩
             replace HO_11 := Aside0.mk (Kd.R_below (pR HO_11.out) hb)
             replace HO_15 := Aside0.mk (Kd.R_below (pR HO_15.out) hb)
             replace BK169 := Aside0.mk (blk_below (pb BK169.out) hb)
             replace BK214 := Aside0.mk (blk_below (pb BK214.out) hb)
             replace HB := Aside0.mk (below_step (pB HB.out) hb)
             (try clear hb)
             (try clear hb2)
             (try clear hk)
             (try clear hi)
             refine hK.out _ _ trivial (fun hHeld => ?_)
             clear hK K
             refine norm_ (a' := ?_) ?_ ?_
             rotate_left
             · show Act.put _ (some 131) _ = _; simp only [Act.put, List.setIfInBounds_toArray, List.set_cons_zero, List.set_cons_succ, i64_w, i32_w]; rfl
             refine pure_ (i := 1) (N := some 132) (v := ?_) (a' := ?_) (fl 2 29) rfl rfl (any_of HT_.out (by kernel_rfl)) (fun _ _ _ h => h) (Or.inl ⟨by rfl, ?_⟩) ?_ ?_
             rotate_left
             · intro w'
               go_simp
               with_reducible rfl
             rotate_left
             · simp only [Act.put, List.setIfInBounds_toArray, List.set_cons_zero, List.set_cons_succ, i64_w, i32_w]; rfl
             refine pure_ (i := 2) (N := some 133) (v := undef) (a' := ?_) (fl 3 28) rfl rfl (any_of HT_.out (by kernel_rfl)) (fun _ _ _ h => h) (Or.inr ⟨by rfl, rfl⟩) ?_ ?_
             rotate_left
             · simp only [Act.put, List.setIfInBounds_toArray, List.set_cons_zero, List.set_cons_succ, i64_w, i32_w]; rfl
             refine pure_ (i := 3) (N := some 134) (v := undef) (a' := ?_) (fl 4 27) rfl rfl (any_of HT_.out (by kernel_rfl)) (fun _ _ _ h => h) (Or.inr ⟨by rfl, rfl⟩) ?_ ?_
             rotate_left
             · simp only [Act.put, List.setIfInBounds_toArray, List.set_cons_zero, List.set_cons_succ, i64_w, i32_w]; rfl
             refine pure_ (i := 4) (N := some 135) (v := undef) (a' := ?_) (fl 5 26) rfl rfl (any_of HT_.out (by kernel_rfl)) (fun _ _ _ h => h) (Or.inr ⟨by rfl, rfl⟩) ?_ ?_
             rotate_left
             · simp only [Act.put, List.setIfInBounds_toArray, List.set_cons_zero, List.set_cons_succ, i64_w, i32_w]; rfl
             refine pure_ (i := 5) (N := some 136) (v := undef) (a' := ?_) (fl 6 25) rfl rfl (any_of HT_.out (by kernel_rfl)) (fun _ _ _ h => h) (Or.inr ⟨by rfl, rfl⟩) ?_ ?_
             rotate_left
             · simp only [Act.put, List.setIfInBounds_toArray, List.set_cons_zero, List.set_cons_succ, i64_w, i32_w]; rfl
             refine pure_ (i := 6) (N := some 137) (v := undef) (a' := ?_) (fl 7 24) rfl rfl (any_of HT_.out (by kernel_rfl)) (fun _ _ _ h => h) (Or.inr ⟨by rfl, rfl⟩) ?_ ?_
             rotate_left
             · simp only [Act.put, List.setIfInBounds_toArray, List.set_cons_zero, List.set_cons_succ, i64_w, i32_w]; rfl
             refine pure_ (i := 7) (N := some 138) (v := undef) (a' := ?_) (fl 8 23) rfl rfl (any_of HT_.out (by kernel_rfl)) (fun _ _ _ h => h) (Or.inr ⟨by rfl, rfl⟩) ?_ ?_
             rotate_left
             · simp only [Act.put, List.setIfInBounds_toArray, List.set_cons_zero, List.set_cons_succ, i64_w, i32_w]; rfl
             refine pure_ (i := 8) (N := some 139) (v := ?_) (a' := ?_) (fl 9 22) rfl rfl (any_of HT_.out (by kernel_rfl)) (fun _ _ _ h => h) (Or.inl ⟨by rfl, ?_⟩) ?_ ?_
             rotate_left
             · intro w'
               go_simp
               with_reducible rfl
             rotate_left
             · simp only [Act.put, List.setIfInBounds_toArray, List.set_cons_zero, List.set_cons_succ, i64_w, i32_w]; rfl
             refine pure_ (i := 9) (N := some 140) (v := ?_) (a' := ?_) (fl 10 21) rfl rfl (any_of HT_.out (by kernel_rfl)) (fun _ _ _ h => h) (Or.inl ⟨by rfl, ?_⟩) ?_ ?_
             rotate_left
             · intro w'
               go_simp
               with_reducible rfl
             rotate_left
             · simp only [Act.put, List.setIfInBounds_toArray, List.set_cons_zero, List.set_cons_succ, i64_w, i32_w]; rfl
             refine pure_ (i := 10) (N := some 141) (v := undef) (a' := ?_) (fl 11 20) rfl rfl (any_of HT_.out (by kernel_rfl)) (fun _ _ _ h => h) (Or.inr ⟨by rfl, rfl⟩) ?_ ?_
             rotate_left
             · simp only [Act.put, List.setIfInBounds_toArray, List.set_cons_zero, List.set_cons_succ, i64_w, i32_w]; rfl
             refine pure_ (i := 11) (N := some 142) (v := undef) (a' := ?_) (fl 12 19) rfl rfl (any_of HT_.out (by kernel_rfl)) (fun _ _ _ h => h) (Or.inr ⟨by rfl, rfl⟩) ?_ ?_
             rotate_left
             · simp only [Act.put, List.setIfInBounds_toArray, List.set_cons_zero, List.set_cons_succ, i64_w, i32_w]; rfl
             refine pure_ (i := 12) (N := some 143) (v := undef) (a' := ?_) (fl 13 18) rfl rfl (any_of HT_.out (by kernel_rfl)) (fun _ _ _ h => h) (Or.inr ⟨by rfl, rfl⟩) ?_ ?_
             rotate_left
             · simp only [Act.put, List.setIfInBounds_toArray, List.set_cons_zero, List.set_cons_succ, i64_w, i32_w]; rfl
             refine pure_ (i := 13) (N := some 144) (v := undef) (a' := ?_) (fl 14 17) rfl rfl (any_of HT_.out (by kernel_rfl)) (fun _ _ _ h => h) (Or.inr ⟨by rfl, rfl⟩) ?_ ?_
             rotate_left
             · simp only [Act.put, List.setIfInBounds_toArray, List.set_cons_zero, List.set_cons_succ, i64_w, i32_w]; rfl
             refine pure_ (i := 14) (N := some 145) (v := undef) (a' := ?_) (fl 15 16) rfl rfl (any_of HT_.out (by kernel_rfl)) (fun _ _ _ h => h) (Or.inr ⟨by rfl, rfl⟩) ?_ ?_
             rotate_left
             · simp only [Act.put, List.setIfInBounds_toArray, List.set_cons_zero, List.set_cons_succ, i64_w, i32_w]; rfl
             refine pure_ (i := 15) (N := some 146) (v := undef) (a' := ?_) (fl 16 15) rfl rfl (any_of HT_.out (by kernel_rfl)) (fun _ _ _ h => h) (Or.inr ⟨by rfl, rfl⟩) ?_ ?_
             rotate_left
             · simp only [Act.put, List.setIfInBounds_toArray, List.set_cons_zero, List.set_cons_succ, i64_w, i32_w]; rfl
             refine pure_ (i := 16) (N := some 147) (v := undef) (a' := ?_) (fl 17 14) rfl rfl (any_of HT_.out (by kernel_rfl)) (fun _ _ _ h => h) (Or.inr ⟨by rfl, rfl⟩) ?_ ?_
             rotate_left
             · simp only [Act.put, List.setIfInBounds_toArray, List.set_cons_zero, List.set_cons_succ, i64_w, i32_w]; rfl
             refine pure_ (i := 17) (N := some 148) (v := undef) (a' := ?_) (fl 18 13) rfl rfl (any_of HT_.out (by kernel_rfl)) (fun _ _ _ h => h) (Or.inr ⟨by rfl, rfl⟩) ?_ ?_
             rotate_left
             · simp only [Act.put, List.setIfInBounds_toArray, List.set_cons_zero, List.set_cons_succ, i64_w, i32_w]; rfl
             refine pure_ (i := 18) (N := some 149) (v := ?_) (a' := ?_) (fl 19 12) rfl rfl (any_of HT_.out (by kernel_rfl)) (fun _ _ _ h => h) (Or.inl ⟨by rfl, ?_⟩) ?_ ?_
             rotate_left
             · intro w'
               go_simp
               with_reducible rfl
             rotate_left
             · simp only [Act.put, List.setIfInBounds_toArray, List.set_cons_zero, List.set_cons_succ, i64_w, i32_w]; rfl
             refine pure_ (i := 19) (N := some 150) (v := ?_) (a' := ?_) (fl 20 11) rfl rfl (any_of HT_.out (by kernel_rfl)) (fun _ _ _ h => h) (Or.inl ⟨by rfl, ?_⟩) ?_ ?_
             rotate_left
             · intro w'
               go_simp
               with_reducible rfl
             rotate_left
             · simp only [Act.put, List.setIfInBounds_toArray, List.set_cons_zero, List.set_cons_succ, i64_w, i32_w]; rfl
             refine pure_ (i := 20) (N := some 151) (v := undef) (a' := ?_) (fl 21 10) rfl rfl (any_of HT_.out (by kernel_rfl)) (fun _ _ _ h => h) (Or.inr ⟨by rfl, rfl⟩) ?_ ?_
             rotate_left
             · simp only [Act.put, List.setIfInBounds_toArray, List.set_cons_zero, List.set_cons_succ, i64_w, i32_w]; rfl
             refine pure_ (i := 21) (N := some 152) (v := undef) (a' := ?_) (fl 22 9) rfl rfl (any_of HT_.out (by kernel_rfl)) (fun _ _ _ h => h) (Or.inr ⟨by rfl, rfl⟩) ?_ ?_
             rotate_left
             · simp only [Act.put, List.setIfInBounds_toArray, List.set_cons_zero, List.set_cons_succ, i64_w, i32_w]; rfl
             refine pure_ (i := 22) (N := some 153) (v := undef) (a' := ?_) (fl 23 8) rfl rfl (any_of HT_.out (by kernel_rfl)) (fun _ _ _ h => h) (Or.inr ⟨by rfl, rfl⟩) ?_ ?_
             rotate_left
             · simp only [Act.put, List.setIfInBounds_toArray, List.set_cons_zero, List.set_cons_succ, i64_w, i32_w]; rfl
             refine pure_ (i := 23) (N := some 154) (v := undef) (a' := ?_) (fl 24 7) rfl rfl (any_of HT_.out (by kernel_rfl)) (fun _ _ _ h => h) (Or.inr ⟨by rfl, rfl⟩) ?_ ?_
             rotate_left
             · simp only [Act.put, List.setIfInBounds_toArray, List.set_cons_zero, List.set_cons_succ, i64_w, i32_w]; rfl
             refine pure_ (i := 24) (N := some 155) (v := undef) (a' := ?_) (fl 25 6) rfl rfl (any_of HT_.out (by kernel_rfl)) (fun _ _ _ h => h) (Or.inr ⟨by rfl, rfl⟩) ?_ ?_
             rotate_left
             · simp only [Act.put, List.setIfInBounds_toArray, List.set_cons_zero, List.set_cons_succ, i64_w, i32_w]; rfl
             refine pure_ (i := 25) (N := some 156) (v := undef) (a' := ?_) (fl 26 5) rfl rfl (any_of HT_.out (by kernel_rfl)) (fun _ _ _ h => h) (Or.inr ⟨by rfl, rfl⟩) ?_ ?_
             rotate_left
             · simp only [Act.put, List.setIfInBounds_toArray, List.set_cons_zero, List.set_cons_succ, i64_w, i32_w]; rfl
             refine pure_ (i := 26) (N := some 157) (v := undef) (a' := ?_) (fl 27 4) rfl rfl (any_of HT_.out (by kernel_rfl)) (fun _ _ _ h => h) (Or.inr ⟨by rfl, rfl⟩) ?_ ?_
             rotate_left
             · simp only [Act.put, List.setIfInBounds_toArray, List.set_cons_zero, List.set_cons_succ, i64_w, i32_w]; rfl
             refine pure_ (i := 27) (N := some 158) (v := undef) (a' := ?_) (fl 28 3) rfl rfl (any_of HT_.out (by kernel_rfl)) (fun _ _ _ h => h) (Or.inr ⟨by rfl, rfl⟩) ?_ ?_
             rotate_left
             · simp only [Act.put, List.setIfInBounds_toArray, List.set_cons_zero, List.set_cons_succ, i64_w, i32_w]; rfl
             refine pure_ (i := 28) (N := some 159) (v := undef) (a' := ?_) (fl 29 2) rfl rfl (any_of HT_.out (by kernel_rfl)) (fun _ _ _ h => h) (Or.inr ⟨by rfl, rfl⟩) ?_ ?_
             rotate_left
             · simp only [Act.put, List.setIfInBounds_toArray, List.set_cons_zero, List.set_cons_succ, i64_w, i32_w]; rfl
             refine pure_ (i := 29) (N := some 160) (v := ?_) (a' := ?_) (fl 30 1) rfl rfl (any_of HT_.out (by kernel_rfl)) (fun _ _ _ h => h) (Or.inl ⟨by rfl, ?_⟩) ?_ ?_
             rotate_left
             · intro w'
               go_simp
               with_reducible rfl
             rotate_left
             · simp only [Act.put, List.setIfInBounds_toArray, List.set_cons_zero, List.set_cons_succ, i64_w, i32_w]; rfl
             refine pure_ (i := 30) (N := some 6) (v := ?_) (a' := ?_) (fl 31 0) rfl rfl (any_of HT_.out (by kernel_rfl)) (fun _ _ _ h => h) (Or.inl ⟨by rfl, ?_⟩) ?_ ?_
             rotate_left
             · intro w'
               go_simp
               with_reducible rfl
             rotate_left
             · simp only [Act.put, List.setIfInBounds_toArray, List.set_cons_zero, List.set_cons_succ, i64_w, i32_w]; rfl
             refine done_ (done_of HT_.out (by kernel_rfl)) ?_
             try go_wp2
             go_ret
             exact ⟨by first | rfl | (simp [errW_none, errW_some] <;> rfl) | (simp [*, errW_none, errW_some] <;> rfl), by repeat (first | (with_reducible first | exact HB.out | apply below_alloc | apply pw_below_drewN | apply below_drew1 | refine below_set ?_ GE169.out | refine below_set ?_ GE214.out) | exact HB.out)⟩
            subst c87
            have H1 : (if 0 ≤ (t180.length : Int) then (if (t180.length : Int) ≤ (t203.length : Int) then ((gazetteerlaw3_Same.f kj75 (t203.take ((t180.length : Int) : Int).toNat) t180).bind fun t220 => (if t220 = true then (if (t180.length : Int) < (t203.length : Int) then (if (((rd_T39 t203 (t180.length : Int)).f0) == t208 && (((rd_T39 t203 (t180.length : Int)).f1) == t209 && (((rd_T39 t203 (t180.length : Int)).f2) == t210))) = true then (if 0 ≤ (wrap64 ((t180.length : Int) + 1)) then (if (wrap64 ((t180.length : Int) + 1)) < (t203.length : Int) then (some (((rd_T39 t203 (wrap64 ((t180.length : Int) + 1))).f0) == t211 && (((rd_T39 t203 (wrap64 ((t180.length : Int) + 1))).f1) == t212 && (((rd_T39 t203 (wrap64 ((t180.length : Int) + 1))).f2) == t213)))) else (none)) else (none)) else (some false)) else (none)) else (some false))) else (none)) else (none)) = some r := by rw [if_pos rfl] at H; exact H
            clear H
            have H := H1
            clear H1
            by_cases c88 : 0 ≤ (t180.length : Int)
            rotate_left
            · rw [if_neg c88] at H
              exact absurd H (by simp)
            rw [if_pos c88] at H
            have c88b0 := eq_true c88
            have c88b1 : decide (0 ≤ (t180.length : Int)) = true := decide_eq_true c88
            clear c88
            by_cases c89 : (t180.length : Int) ≤ (t203.length : Int)
            rotate_left
            · rw [if_neg c89] at H
              exact absurd H (by simp)
            rw [if_pos c89] at H
            have c89b0 := eq_true c89
            have c89b1 : decide ((t180.length : Int) ≤ (t203.length : Int)) = true := decide_eq_true c89
            clear c89
            obtain ⟨y216, hy216⟩ : ∃ y_ : List (S39), y_ = (t203.take ((t180.length : Int) : Int).toNat) := ⟨_, rfl⟩
            replace H : ((gazetteerlaw3_Same.f kj75 y216 t180).bind fun t220 => (if t220 = true then (if (t180.length : Int) < (t203.length : Int) then (if (((rd_T39 t203 (t180.length : Int)).f0) == t208 && (((rd_T39 t203 (t180.length : Int)).f1) == t209 && (((rd_T39 t203 (t180.length : Int)).f2) == t210))) = true then (if 0 ≤ (wrap64 ((t180.length : Int) + 1)) then (if (wrap64 ((t180.length : Int) + 1)) < (t203.length : Int) then (some (((rd_T39 t203 (wrap64 ((t180.length : Int) + 1))).f0) == t211 && (((rd_T39 t203 (wrap64 ((t180.length : Int) + 1))).f1) == t212 && (((rd_T39 t203 (wrap64 ((t180.length : Int) + 1))).f2) == t213)))) else (none)) else (none)) else (some false)) else (none)) else (some false))) = some r := by first | (rw [hy216]; with_reducible exact H) | (have H2_ := (Option.bind_some _ _).symm.trans H; rw [hy216]; with_reducible exact H2_) | (have H2_ := (Option.bind_some _ _).symm.trans H; with_reducible exact H2_) | with_reducible exact H | (rw [hy216]; exact H) | exact H
            have Ny216 := Aside0.mk hy216
            clear hy216
            replace H := Option.bind_eq_some_iff.mp H
            obtain ⟨t220, A900, H⟩ := H
            replace H : (if t220 = true then (if (t180.length : Int) < (t203.length : Int) then (if (((rd_T39 t203 (t180.length : Int)).f0) == t208 && (((rd_T39 t203 (t180.length : Int)).f1) == t209 && (((rd_T39 t203 (t180.length : Int)).f2) == t210))) = true then (if 0 ≤ (wrap64 ((t180.length : Int) + 1)) then (if (wrap64 ((t180.length : Int) + 1)) < (t203.length : Int) then (some (((rd_T39 t203 (wrap64 ((t180.length : Int) + 1))).f0) == t211 && (((rd_T39 t203 (wrap64 ((t180.length : Int) + 1))).f1) == t212 && (((rd_T39 t203 (wrap64 ((t180.length : Int) + 1))).f2) == t213)))) else (none)) else (none)) else (some false)) else (none)) else (some false)) = some r := H
            have A90 := Aside0.mk A900
            clear A900
            by_cases c91 : t220 = true
            rotate_left
            ·
             replace c91 := Bool.eq_false_iff.mpr c91
             subst c91
             have H1 : (some false) = some r := by rw [if_neg (show ¬ (false = true) by decide)] at H; exact H
             clear H
             have H := H1
             clear H1
             obtain rfl := Option.some.inj H
             try go_wp2
             replace HO_11 := Aside0.mk (Kd.R_drew HO_11.out)
             replace HO_15 := Aside0.mk (Kd.R_drew HO_15.out)
             replace BK169 := Aside0.mk (blk_drew BK169.out)
             replace BK214 := Aside0.mk (blk_drew BK214.out)
             replace HB := Aside0.mk (below_drew1 HB.out)
             refine start_ (n := 31) (S := fun w' => True) (ds := []) (fl 0 31) (by kernel_rfl) rfl rfl trivial (fun hHeld => ?_); refine with_tabW gazetteerlaw3_parts.tab25 gazetteerlaw3_parts.bits25 (fun HT_ HW_ => ?_)
             generalize wc.drew = w107 at HO_11 HO_15 BK169 BK214 HB hHeld ⊢
             refine one_ (i := 0) (N := some 131) (fl 1 30) rfl rfl (one_of HT_.out (by kernel_rfl)) (by decide) (fun K hK => ?_)
             refine goes_ Try.func9 (by kernel_rfl) rfl #[] (by rfl) rfl rfl (by (try simp only [List.map_toArray, List.map_cons, List.map_nil]); first | done | rfl | (simp only [List.length_drop, List.length_take]; done) | (simp only [List.length_drop, List.length_take]; rfl)) ?_
             with_reducible refine (gazetteerlaw3_awake.calls  true _ A86.out).mono ?_
             rintro e w108 ⟨rfl, hb⟩
             refine ⟨_, rfl, ?_⟩
             replace HO_11 := Aside0.mk (Kd.R_below (pR HO_11.out) hb)
             replace HO_15 := Aside0.mk (Kd.R_below (pR HO_15.out) hb)
             replace BK169 := Aside0.mk (blk_below (pb BK169.out) hb)
             replace BK214 := Aside0.mk (blk_below (pb BK214.out) hb)
             replace HB := Aside0.mk (below_step (pB HB.out) hb)
             (try clear hb)
             (try clear hb2)
             (try clear hk)
             (try clear hi)
             obtain ⟨Ao109, co109, eo109⟩ := Kd.R_slice HO_11.out
             (first | subst eo109 | (injection eo109 with f1_ f2_ f3_; have f4_ := f1_.symm; have f5_ := f3_.symm; clear f1_ f2_ f3_; subst f4_; subst f5_))
             obtain ⟨Ao111, co111, eo111⟩ := Kd.R_slice HO_15.out
             (first | subst eo111 | (injection eo111 with f1_ f2_ f3_; have f4_ := f1_.symm; have f5_ := f3_.symm; clear f1_ f2_ f3_; subst f4_; subst f5_))
             have q110 : ((t180.length : Int) : Int) ≤ ((t203.length : Int) : Int) := of_decide_eq_true (by first | (with_reducible assumption) | assumption)
             obtain ⟨i0110, hi0110, _, hsz110, _⟩ := info_parts info39
             have hroom110 : t203.length ≤ co111 := (Kd.R_reads' HO_15.out).2.1
             have hC110 : Kd.C k39 _ Ao111 t203.length t203 := (Kd.R_reads' HO_15.out).2.2
             have hcut110 := cut_to (P := Try.prog) 29 39 .i64 Try.underlying29 hi0110 Ao111 t203.length co111 (t180.length : Int) (of_decide_eq_true (by first | (with_reducible assumption) | assumption)) q110 hroom110
             have hr110 := Kd.C_take (m := ((t180.length : Int) : Int).toNat) hC110 (by omega)
             have hy110 : y216.length = ((t180.length : Int) : Int).toNat := (by rw [Ny216.out, List.length_take]; omega)
             rw [← Ny216.out] at hr110
             rw [← hy110] at hcut110
             have HR219 := Aside0.mk hr110
             have HC219 := Aside0.mk (show y216.length ≤ co111 from by omega)
             clear hr110 hC110 hroom110 hi0110 hsz110
             have KY110 := Aside0.mk hy110
             clear hy110
             have KL110 := Aside0.mk (show ((t180.length : Int) : Int).toNat ≤ t203.length from by omega)
             replace q110 := eq_true q110
             refine hK.out _ _ trivial (fun hHeld => ?_)
             clear hK K
             refine norm_ (a' := ?_) ?_ ?_
             rotate_left
             · show Act.put _ (some 131) _ = _; simp only [Act.put, List.setIfInBounds_toArray, List.set_cons_zero, List.set_cons_succ, i64_w, i32_w]; rfl
             refine pure_ (i := 1) (N := some 132) (v := ?_) (a' := ?_) (fl 2 29) rfl rfl (any_of HT_.out (by kernel_rfl)) (fun _ _ _ h => h) (Or.inl ⟨by rfl, ?_⟩) ?_ ?_
             rotate_left
             · intro w'
               go_simp
               with_reducible rfl
             rotate_left
             · simp only [Act.put, List.setIfInBounds_toArray, List.set_cons_zero, List.set_cons_succ, i64_w, i32_w]; rfl
             refine pure_ (i := 2) (N := some 133) (v := ?_) (a' := ?_) (fl 3 28) rfl rfl (any_of HT_.out (by kernel_rfl)) (fun _ _ _ h => h) (Or.inl ⟨by rfl, ?_⟩) ?_ ?_
             rotate_left
             · intro w'
               go_simp
               with_reducible rfl
             rotate_left
             · simp only [Act.put, List.setIfInBounds_toArray, List.set_cons_zero, List.set_cons_succ, i64_w, i32_w]; rfl
             refine pure_ (i := 3) (N := some 134) (v := ?_) (a' := ?_) (fl 4 27) rfl rfl (any_of HT_.out (by kernel_rfl)) (fun _ _ _ h => h) (Or.inl ⟨by rfl, ?_⟩) ?_ ?_
             rotate_left
             · intro w'
               go_simp
               with_reducible rfl
             rotate_left
             · simp only [Act.put, List.setIfInBounds_toArray, List.set_cons_zero, List.set_cons_succ, i64_w, i32_w]; rfl
             refine pure_ (i := 4) (N := some 135) (v := ?_) (a' := ?_) (fl 5 26) rfl rfl (any_of HT_.out (by kernel_rfl)) (fun _ _ _ h => h) (Or.inl ⟨by rfl, ?_⟩) ?_ ?_
             rotate_left
             · intro w'
               go_simp
               with_reducible rfl
             rotate_left
             · simp only [Act.put, List.setIfInBounds_toArray, List.set_cons_zero, List.set_cons_succ, i64_w, i32_w]; rfl
             refine pure_ (i := 5) (N := some 136) (v := ?_) (a' := ?_) (fl 6 25) rfl rfl (any_of HT_.out (by kernel_rfl)) (fun _ _ _ h => h) (Or.inl ⟨by rfl, ?_⟩) ?_ ?_
             rotate_left
             · intro w'
               go_simp
               with_reducible rfl
             rotate_left
             · simp only [Act.put, List.setIfInBounds_toArray, List.set_cons_zero, List.set_cons_succ, i64_w, i32_w]; rfl
             refine pure_ (i := 6) (N := some 137) (v := ?_) (a' := ?_) (fl 7 24) rfl rfl (any_of HT_.out (by kernel_rfl)) (fun _ _ _ h => h) (Or.inl ⟨by rfl, ?_⟩) ?_ ?_
             rotate_left
             · intro w'
               go_simp
               with_reducible rfl
             rotate_left
             · simp only [Act.put, List.setIfInBounds_toArray, List.set_cons_zero, List.set_cons_succ, i64_w, i32_w]; rfl
             refine one_ (i := 7) (N := some 138) (fl 8 23) rfl rfl (one_of HT_.out (by kernel_rfl)) (by decide) (fun K hK => ?_)
             refine goes_ Try.func13 (by kernel_rfl) rfl #[.slice Ao111 y216.length co111, .slice Ao109 t180.length co109] (by rfl) rfl rfl (by (try simp only [List.map_toArray, List.map_cons, List.map_nil]); first | done | rfl | (simp only [List.length_drop, List.length_take]; done) | (simp only [List.length_drop, List.length_take]; rfl)) ?_
             with_reducible refine (gazetteerlaw3_Same.calls kj75 _ _ y216 _ _ t180 false _ ?side1 ?side2 ?side3 ?side4 A90.out).mono ?_
             (case side1 => repeat (first | exact (by repeat (first | (with_reducible exact HR219.out) | (with_reducible refine Kd.C_alloc ?_ _) | (with_reducible refine Kd.C_drewN ?_ _) | (with_reducible refine Kd.C_drew ?_) | exact HR219.out)) | (with_reducible refine Kd.C_alloc ?_ _) | (with_reducible refine Kd.C_drewN ?_ _) | (with_reducible refine Kd.C_drew ?_)))
             (case side2 => exact HC219.out)
             (case side3 => repeat (first | exact (Kd.R_reads' HO_11.out).2.2 | (with_reducible refine Kd.C_alloc ?_ _) | (with_reducible refine Kd.C_drewN ?_ _) | (with_reducible refine Kd.C_drew ?_)))
             (case side4 => exact (Kd.R_reads' HO_11.out).2.1)
             rintro e w' ⟨rfl, ⟨nd, rfl⟩⟩
             refine ⟨_, rfl, ?_⟩
             refine hK.out _ _ trivial (fun hHeld => ?_)
             clear hK K
             refine norm_ (a' := ?_) ?_ ?_
             rotate_left
             · show Act.put _ (some 138) _ = _; simp only [Act.put, List.setIfInBounds_toArray, List.set_cons_zero, List.set_cons_succ, i64_w, i32_w]; rfl
             refine pure_ (i := 8) (N := some 139) (v := ?_) (a' := ?_) (fl 9 22) rfl rfl (any_of HT_.out (by kernel_rfl)) (fun _ _ _ h => h) (Or.inl ⟨by rfl, ?_⟩) ?_ ?_
             rotate_left
             · intro w'
               go_simp
               with_reducible rfl
             rotate_left
             · simp only [Act.put, List.setIfInBounds_toArray, List.set_cons_zero, List.set_cons_succ, i64_w, i32_w]; rfl
             refine pure_ (i := 9) (N := some 140) (v := ?_) (a' := ?_) (fl 10 21) rfl rfl (any_of HT_.out (by kernel_rfl)) (fun _ _ _ h => h) (Or.inl ⟨by rfl, ?_⟩) ?_ ?_
             rotate_left
             · intro w'
               go_simp
               with_reducible rfl
             rotate_left
             · simp only [Act.put, List.setIfInBounds_toArray, List.set_cons_zero, List.set_cons_succ, i64_w, i32_w]; rfl
             refine pure_ (i := 10) (N := some 141) (v := undef) (a' := ?_) (fl 11 20) rfl rfl (any_of HT_.out (by kernel_rfl)) (fun _ _ _ h => h) (Or.inr ⟨by rfl, rfl⟩) ?_ ?_
             rotate_left
             · simp only [Act.put, List.setIfInBounds_toArray, List.set_cons_zero, List.set_cons_succ, i64_w, i32_w]; rfl
             refine pure_ (i := 11) (N := some 142) (v := undef) (a' := ?_) (fl 12 19) rfl rfl (any_of HT_.out (by kernel_rfl)) (fun _ _ _ h => h) (Or.inr ⟨by rfl, rfl⟩) ?_ ?_
             rotate_left
             · simp only [Act.put, List.setIfInBounds_toArray, List.set_cons_zero, List.set_cons_succ, i64_w, i32_w]; rfl
             refine pure_ (i := 12) (N := some 143) (v := undef) (a' := ?_) (fl 13 18) rfl rfl (any_of HT_.out (by kernel_rfl)) (fun _ _ _ h => h) (Or.inr ⟨by rfl, rfl⟩) ?_ ?_
             rotate_left
             · simp only [Act.put, List.setIfInBounds_toArray, List.set_cons_zero, List.set_cons_succ, i64_w, i32_w]; rfl
             refine pure_ (i := 13) (N := some 144) (v := undef) (a' := ?_) (fl 14 17) rfl rfl (any_of HT_.out (by kernel_rfl)) (fun _ _ _ h => h) (Or.inr ⟨by rfl, rfl⟩) ?_ ?_
             rotate_left
             · simp only [Act.put, List.setIfInBounds_toArray, List.set_cons_zero, List.set_cons_succ, i64_w, i32_w]; rfl
             refine pure_ (i := 14) (N := some 145) (v := undef) (a' := ?_) (fl 15 16) rfl rfl (any_of HT_.out (by kernel_rfl)) (fun _ _ _ h => h) (Or.inr ⟨by rfl, rfl⟩) ?_ ?_
             rotate_left
             · simp only [Act.put, List.setIfInBounds_toArray, List.set_cons_zero, List.set_cons_succ, i64_w, i32_w]; rfl
             refine pure_ (i := 15) (N := some 146) (v := undef) (a' := ?_) (fl 16 15) rfl rfl (any_of HT_.out (by kernel_rfl)) (fun _ _ _ h => h) (Or.inr ⟨by rfl, rfl⟩) ?_ ?_
             rotate_left
             · simp only [Act.put, List.setIfInBounds_toArray, List.set_cons_zero, List.set_cons_succ, i64_w, i32_w]; rfl
             refine pure_ (i := 16) (N := some 147) (v := undef) (a' := ?_) (fl 17 14) rfl rfl (any_of HT_.out (by kernel_rfl)) (fun _ _ _ h => h) (Or.inr ⟨by rfl, rfl⟩) ?_ ?_
             rotate_left
             · simp only [Act.put, List.setIfInBounds_toArray, List.set_cons_zero, List.set_cons_succ, i64_w, i32_w]; rfl
             refine pure_ (i := 17) (N := some 148) (v := undef) (a' := ?_) (fl 18 13) rfl rfl (any_of HT_.out (by kernel_rfl)) (fun _ _ _ h => h) (Or.inr ⟨by rfl, rfl⟩) ?_ ?_
             rotate_left
             · simp only [Act.put, List.setIfInBounds_toArray, List.set_cons_zero, List.set_cons_succ, i64_w, i32_w]; rfl
             refine pure_ (i := 18) (N := some 149) (v := ?_) (a' := ?_) (fl 19 12) rfl rfl (any_of HT_.out (by kernel_rfl)) (fun _ _ _ h => h) (Or.inl ⟨by rfl, ?_⟩) ?_ ?_
             rotate_left
             · intro w'
               go_simp
               with_reducible rfl
             rotate_left
             · simp only [Act.put, List.setIfInBounds_toArray, List.set_cons_zero, List.set_cons_succ, i64_w, i32_w]; rfl
             refine pure_ (i := 19) (N := some 150) (v := ?_) (a' := ?_) (fl 20 11) rfl rfl (any_of HT_.out (by kernel_rfl)) (fun _ _ _ h => h) (Or.inl ⟨by rfl, ?_⟩) ?_ ?_
             rotate_left
             · intro w'
               go_simp
               with_reducible rfl
             rotate_left
             · simp only [Act.put, List.setIfInBounds_toArray, List.set_cons_zero, List.set_cons_succ, i64_w, i32_w]; rfl
             refine pure_ (i := 20) (N := some 151) (v := undef) (a' := ?_) (fl 21 10) rfl rfl (any_of HT_.out (by kernel_rfl)) (fun _ _ _ h => h) (Or.inr ⟨by rfl, rfl⟩) ?_ ?_
             rotate_left
             · simp only [Act.put, List.setIfInBounds_toArray, List.set_cons_zero, List.set_cons_succ, i64_w, i32_w]; rfl
             refine pure_ (i := 21) (N := some 152) (v := undef) (a' := ?_) (fl 22 9) rfl rfl (any_of HT_.out (by kernel_rfl)) (fun _ _ _ h => h) (Or.inr ⟨by rfl, rfl⟩) ?_ ?_
             rotate_left
             · simp only [Act.put, List.setIfInBounds_toArray, List.set_cons_zero, List.set_cons_succ, i64_w, i32_w]; rfl
             refine pure_ (i := 22) (N := some 153) (v := undef) (a' := ?_) (fl 23 8) rfl rfl (any_of HT_.out (by kernel_rfl)) (fun _ _ _ h => h) (Or.inr ⟨by rfl, rfl⟩) ?_ ?_
             rotate_left
             · simp only [Act.put, List.setIfInBounds_toArray, List.set_cons_zero, List.set_cons_succ, i64_w, i32_w]; rfl
             refine pure_ (i := 23) (N := some 154) (v := undef) (a' := ?_) (fl 24 7) rfl rfl (any_of HT_.out (by kernel_rfl)) (fun _ _ _ h => h) (Or.inr ⟨by rfl, rfl⟩) ?_ ?_
             rotate_left
             · simp only [Act.put, List.setIfInBounds_toArray, List.set_cons_zero, List.set_cons_succ, i64_w, i32_w]; rfl
             refine pure_ (i := 24) (N := some 155) (v := undef) (a' := ?_) (fl 25 6) rfl rfl (any_of HT_.out (by kernel_rfl)) (fun _ _ _ h => h) (Or.inr ⟨by rfl, rfl⟩) ?_ ?_
             rotate_left
             · simp only [Act.put, List.setIfInBounds_toArray, List.set_cons_zero, List.set_cons_succ, i64_w, i32_w]; rfl
             refine pure_ (i := 25) (N := some 156) (v := undef) (a' := ?_) (fl 26 5) rfl rfl (any_of HT_.out (by kernel_rfl)) (fun _ _ _ h => h) (Or.inr ⟨by rfl, rfl⟩) ?_ ?_
             rotate_left
             · simp only [Act.put, List.setIfInBounds_toArray, List.set_cons_zero, List.set_cons_succ, i64_w, i32_w]; rfl
             refine pure_ (i := 26) (N := some 157) (v := undef) (a' := ?_) (fl 27 4) rfl rfl (any_of HT_.out (by kernel_rfl)) (fun _ _ _ h => h) (Or.inr ⟨by rfl, rfl⟩) ?_ ?_
             rotate_left
             · simp only [Act.put, List.setIfInBounds_toArray, List.set_cons_zero, List.set_cons_succ, i64_w, i32_w]; rfl
             refine pure_ (i := 27) (N := some 158) (v := undef) (a' := ?_) (fl 28 3) rfl rfl (any_of HT_.out (by kernel_rfl)) (fun _ _ _ h => h) (Or.inr ⟨by rfl, rfl⟩) ?_ ?_
             rotate_left
             · simp only [Act.put, List.setIfInBounds_toArray, List.set_cons_zero, List.set_cons_succ, i64_w, i32_w]; rfl
             refine pure_ (i := 28) (N := some 159) (v := undef) (a' := ?_) (fl 29 2) rfl rfl (any_of HT_.out (by kernel_rfl)) (fun _ _ _ h => h) (Or.inr ⟨by rfl, rfl⟩) ?_ ?_
             rotate_left
             · simp only [Act.put, List.setIfInBounds_toArray, List.set_cons_zero, List.set_cons_succ, i64_w, i32_w]; rfl
             refine pure_ (i := 29) (N := some 160) (v := ?_) (a' := ?_) (fl 30 1) rfl rfl (any_of HT_.out (by kernel_rfl)) (fun _ _ _ h => h) (Or.inl ⟨by rfl, ?_⟩) ?_ ?_
             rotate_left
             · intro w'
               go_simp
               with_reducible rfl
             rotate_left
             · simp only [Act.put, List.setIfInBounds_toArray, List.set_cons_zero, List.set_cons_succ, i64_w, i32_w]; rfl
             refine pure_ (i := 30) (N := some 6) (v := ?_) (a' := ?_) (fl 31 0) rfl rfl (any_of HT_.out (by kernel_rfl)) (fun _ _ _ h => h) (Or.inl ⟨by rfl, ?_⟩) ?_ ?_
             rotate_left
             · intro w'
               go_simp
               with_reducible rfl
             rotate_left
             · simp only [Act.put, List.setIfInBounds_toArray, List.set_cons_zero, List.set_cons_succ, i64_w, i32_w]; rfl
             refine done_ (done_of HT_.out (by kernel_rfl)) ?_
             try go_wp2
             go_ret
             exact ⟨by first | rfl | (simp [errW_none, errW_some] <;> rfl) | (simp [*, errW_none, errW_some] <;> rfl), by repeat (first | (with_reducible first | exact HB.out | apply below_alloc | apply pw_below_drewN | apply below_drew1 | refine below_set ?_ GE169.out | refine below_set ?_ GE214.out) | exact HB.out)⟩
            subst c91
            have H1 : (if (t180.length : Int) < (t203.length : Int) then (if (((rd_T39 t203 (t180.length : Int)).f0) == t208 && (((rd_T39 t203 (t180.length : Int)).f1) == t209 && (((rd_T39 t203 (t180.length : Int)).f2) == t210))) = true then (if 0 ≤ (wrap64 ((t180.length : Int) + 1)) then (if (wrap64 ((t180.length : Int) + 1)) < (t203.length : Int) then (some (((rd_T39 t203 (wrap64 ((t180.length : Int) + 1))).f0) == t211 && (((rd_T39 t203 (wrap64 ((t180.length : Int) + 1))).f1) == t212 && (((rd_T39 t203 (wrap64 ((t180.length : Int) + 1))).f2) == t213)))) else (none)) else (none)) else (some false)) else (none)) = some r := by rw [if_pos rfl] at H; exact H
            clear H
            have H := H1
            clear H1
            by_cases c92 : (t180.length : Int) < (t203.length : Int)
            rotate_left
            · rw [if_neg c92] at H
              exact absurd H (by simp)
            rw [if_pos c92] at H
            have c92b0 : decide ((t180.length : Int) < (t203.length : Int)) = true := decide_eq_true c92
            have c92b1 : decide (t180.length < t203.length) = true := decide_eq_true (Int.ofNat_lt.mp c92)
            clear c92
            by_cases c93 : (((rd_T39 t203 (t180.length : Int)).f0) == t208 && (((rd_T39 t203 (t180.length : Int)).f1) == t209 && (((rd_T39 t203 (t180.length : Int)).f2) == t210))) = true
            rotate_left
            ·
             rw [if_neg c93] at H
             have c93b0 : (((rd_T39 t203 (t180.length : Int)).f0) == t208 && (((rd_T39 t203 (t180.length : Int)).f1) == t209 && (((rd_T39 t203 (t180.length : Int)).f2) == t210))) = false := by simpa using c93
             (try (have c93b1 : decide (((rd_T39 t203 (t180.length : Int)).f0) = t208 && (((rd_T39 t203 (t180.length : Int)).f1) == t209 && (((rd_T39 t203 (t180.length : Int)).f2) == t210))) = false := by simpa using c93))
             (try (have c93b2 : (((rd_T39 t203 (t180.length : Int)).f0) == t208 && (((rd_T39 t203 (t180.length : Int)).f1) == t209 && (((rd_T39 t203 (t180.length : Int)).f2) == t210))) = false := by simpa using c93))
             (try (have c93b3 : ¬ (((rd_T39 t203 (t180.length : Int)).f0) = t208 && (((rd_T39 t203 (t180.length : Int)).f1) == t209 && (((rd_T39 t203 (t180.length : Int)).f2) == t210))) := by simpa using c93))
             clear c93
             obtain rfl := Option.some.inj H
             try go_wp2
             replace HO_11 := Aside0.mk (Kd.R_drew HO_11.out)
             replace HO_15 := Aside0.mk (Kd.R_drew HO_15.out)
             replace BK169 := Aside0.mk (blk_drew BK169.out)
             replace BK214 := Aside0.mk (blk_drew BK214.out)
             replace HB := Aside0.mk (below_drew1 HB.out)
             have p221 : 0 ≤ ((t180.length : Int) : Int) := of_decide_eq_true (by first | (with_reducible assumption) | assumption)
             have q221 : (t180.length : Int) < (t203.length : Int) := of_decide_eq_true (by first | (with_reducible assumption) | assumption)
             obtain ⟨Aq_15, cq_15, eq_15⟩ := Kd.R_slice HO_15.out
             subst eq_15
             obtain ⟨ad221, e221, hx221_0, hx221_1, hx221_2⟩ := at_T39 (Kd.R_reads' HO_15.out).2.2 (t180.length : Int) p221 q221
             cases e221
             (try simp only [Go.IntWalk.toNatUp] at hx221_0)
             (try simp only [Go.IntWalk.toNatUp] at hx221_1)
             (try simp only [Go.IntWalk.toNatUp] at hx221_2)
             (try simp only [Int.toNat_natCast] at hx221_0 hx221_1 hx221_2)
             replace p221 := eq_true p221
             replace q221 := eq_true q221
             refine start_ (n := 31) (S := fun w' => w'.cell? ⟨gb214, 0, none⟩ = some (.int .i64 t208) ∧ w'.cell? ⟨gb214, 1, none⟩ = some (.int .i64 t209) ∧ w'.cell? ⟨gb214, 2, none⟩ = some (.int .i64 t210) ∧ w'.cell? ⟨gb214, 3, none⟩ = some (.int .i64 t211) ∧ w'.cell? ⟨gb214, 4, none⟩ = some (.int .i64 t212) ∧ w'.cell? ⟨gb214, 5, none⟩ = some (.int .i64 t213) ∧ w'.cell? (ad221.add (t180.length * 3)) = some (.int .i64 ((rd_T39 t203 (t180.length : Int)).f0)) ∧ w'.cell? ⟨(ad221.add (t180.length * 3)).block, (ad221.add (t180.length * 3)).off + 1, none⟩ = some (.int .i64 ((rd_T39 t203 (t180.length : Int)).f1)) ∧ w'.cell? ⟨(ad221.add (t180.length * 3)).block, (ad221.add (t180.length * 3)).off + 2, none⟩ = some (.int .i64 ((rd_T39 t203 (t180.length : Int)).f2))) (ds := []) (fl 0 31) (by kernel_rfl) rfl rfl ⟨blk_cell BK214.out 0, blk_cell BK214.out 1, blk_cell BK214.out 2, blk_cell BK214.out 3, blk_cell BK214.out 4, blk_cell BK214.out 5, hx221_0, hx221_1, hx221_2⟩ (fun hHeld => ?_); refine with_tabW gazetteerlaw3_parts.tab25 gazetteerlaw3_parts.bits25 (fun HT_ HW_ => ?_)
             generalize wc.drew = w102 at HO_11 HO_15 BK169 BK214 HB hx221_0 hx221_1 hx221_2 hHeld ⊢
             refine one_ (i := 0) (N := some 131) (fl 1 30) rfl rfl (one_of HT_.out (by kernel_rfl)) (by decide) (fun K hK => ?_)
             refine goes_ Try.func9 (by kernel_rfl) rfl #[] (by rfl) rfl rfl (by (try simp only [List.map_toArray, List.map_cons, List.map_nil]); first | done | rfl | (simp only [List.length_drop, List.length_take]; done) | (simp only [List.length_drop, List.length_take]; rfl)) ?_
             with_reducible refine (gazetteerlaw3_awake.calls  true _ A86.out).mono ?_
             rintro e w103 ⟨rfl, hb⟩
             have HS6_ := (hb.cell (World.block_lt_of_cell? _ _ (hHeld.2.2.2.2.2.2.1))).trans (hHeld.2.2.2.2.2.2.1)
             have HS7_ := (hb.cell (World.block_lt_of_cell? _ _ (hHeld.2.2.2.2.2.2.2.1))).trans (hHeld.2.2.2.2.2.2.2.1)
             have HS8_ := (hb.cell (World.block_lt_of_cell? _ _ (hHeld.2.2.2.2.2.2.2.2))).trans (hHeld.2.2.2.2.2.2.2.2)
             refine ⟨_, rfl, ?_⟩
             replace HO_11 := Aside0.mk (Kd.R_below (pR HO_11.out) hb)
             replace HO_15 := Aside0.mk (Kd.R_below (pR HO_15.out) hb)
             replace BK169 := Aside0.mk (blk_below (pb BK169.out) hb)
             replace BK214 := Aside0.mk (blk_below (pb BK214.out) hb)
             replace HB := Aside0.mk (below_step (pB HB.out) hb)
             (try clear hb)
             (try clear hb2)
             (try clear hk)
             (try clear hi)
             obtain ⟨Ao104, co104, eo104⟩ := Kd.R_slice HO_11.out
             (first | subst eo104 | (injection eo104 with f1_ f2_ f3_; have f4_ := f1_.symm; have f5_ := f3_.symm; clear f1_ f2_ f3_; subst f4_; subst f5_))
             have q105 : ((t180.length : Int) : Int) ≤ ((t203.length : Int) : Int) := of_decide_eq_true (by first | (with_reducible assumption) | assumption)
             obtain ⟨i0105, hi0105, _, hsz105, _⟩ := info_parts info39
             have hroom105 : t203.length ≤ cq_15 := (Kd.R_reads' HO_15.out).2.1
             have hC105 : Kd.C k39 _ (some ad221) t203.length t203 := (Kd.R_reads' HO_15.out).2.2
             have hcut105 := cut_to (P := Try.prog) 29 39 .i64 Try.underlying29 hi0105 (some ad221) t203.length cq_15 (t180.length : Int) (of_decide_eq_true (by first | (with_reducible assumption) | assumption)) q105 hroom105
             have hr105 := Kd.C_take (m := ((t180.length : Int) : Int).toNat) hC105 (by omega)
             have hy105 : y216.length = ((t180.length : Int) : Int).toNat := (by rw [Ny216.out, List.length_take]; omega)
             rw [← Ny216.out] at hr105
             rw [← hy105] at hcut105
             have HR219 := Aside0.mk hr105
             have HC219 := Aside0.mk (show y216.length ≤ cq_15 from by omega)
             clear hr105 hC105 hroom105 hi0105 hsz105
             have KY105 := Aside0.mk hy105
             clear hy105
             have KL105 := Aside0.mk (show ((t180.length : Int) : Int).toNat ≤ t203.length from by omega)
             replace q105 := eq_true q105
             refine hK.out _ _ ⟨blk_cell BK214.out 0, blk_cell BK214.out 1, blk_cell BK214.out 2, blk_cell BK214.out 3, blk_cell BK214.out 4, blk_cell BK214.out 5, HS6_, HS7_, HS8_⟩ (fun hHeld => ?_)
             clear hK K
             refine norm_ (a' := ?_) ?_ ?_
             rotate_left
             · show Act.put _ (some 131) _ = _; simp only [Act.put, List.setIfInBounds_toArray, List.set_cons_zero, List.set_cons_succ, i64_w, i32_w]; rfl
             refine pure_ (i := 1) (N := some 132) (v := ?_) (a' := ?_) (fl 2 29) rfl rfl (any_of HT_.out (by kernel_rfl)) (fun _ _ _ h => h) (Or.inl ⟨by rfl, ?_⟩) ?_ ?_
             rotate_left
             · intro w'
               go_simp
               with_reducible rfl
             rotate_left
             · simp only [Act.put, List.setIfInBounds_toArray, List.set_cons_zero, List.set_cons_succ, i64_w, i32_w]; rfl
             refine pure_ (i := 2) (N := some 133) (v := ?_) (a' := ?_) (fl 3 28) rfl rfl (any_of HT_.out (by kernel_rfl)) (fun _ _ _ h => h) (Or.inl ⟨by rfl, ?_⟩) ?_ ?_
             rotate_left
             · intro w'
               go_simp
               with_reducible rfl
             rotate_left
             · simp only [Act.put, List.setIfInBounds_toArray, List.set_cons_zero, List.set_cons_succ, i64_w, i32_w]; rfl
             refine pure_ (i := 3) (N := some 134) (v := ?_) (a' := ?_) (fl 4 27) rfl rfl (any_of HT_.out (by kernel_rfl)) (fun _ _ _ h => h) (Or.inl ⟨by rfl, ?_⟩) ?_ ?_
             rotate_left
             · intro w'
               go_simp
               with_reducible rfl
             rotate_left
             · simp only [Act.put, List.setIfInBounds_toArray, List.set_cons_zero, List.set_cons_succ, i64_w, i32_w]; rfl
             refine pure_ (i := 4) (N := some 135) (v := ?_) (a' := ?_) (fl 5 26) rfl rfl (any_of HT_.out (by kernel_rfl)) (fun _ _ _ h => h) (Or.inl ⟨by rfl, ?_⟩) ?_ ?_
             rotate_left
             · intro w'
               go_simp
               with_reducible rfl
             rotate_left
             · simp only [Act.put, List.setIfInBounds_toArray, List.set_cons_zero, List.set_cons_succ, i64_w, i32_w]; rfl
             refine pure_ (i := 5) (N := some 136) (v := ?_) (a' := ?_) (fl 6 25) rfl rfl (any_of HT_.out (by kernel_rfl)) (fun _ _ _ h => h) (Or.inl ⟨by rfl, ?_⟩) ?_ ?_
             rotate_left
             · intro w'
               go_simp
               with_reducible rfl
             rotate_left
             · simp only [Act.put, List.setIfInBounds_toArray, List.set_cons_zero, List.set_cons_succ, i64_w, i32_w]; rfl
             refine pure_ (i := 6) (N := some 137) (v := ?_) (a' := ?_) (fl 7 24) rfl rfl (any_of HT_.out (by kernel_rfl)) (fun _ _ _ h => h) (Or.inl ⟨by rfl, ?_⟩) ?_ ?_
             rotate_left
             · intro w'
               go_simp
               with_reducible rfl
             rotate_left
             · simp only [Act.put, List.setIfInBounds_toArray, List.set_cons_zero, List.set_cons_succ, i64_w, i32_w]; rfl
             refine one_ (i := 7) (N := some 138) (fl 8 23) rfl rfl (one_of HT_.out (by kernel_rfl)) (by decide) (fun K hK => ?_)
             refine goes_ Try.func13 (by kernel_rfl) rfl #[.slice (some ad221) y216.length cq_15, .slice Ao104 t180.length co104] (by rfl) rfl rfl (by (try simp only [List.map_toArray, List.map_cons, List.map_nil]); first | done | rfl | (simp only [List.length_drop, List.length_take]; done) | (simp only [List.length_drop, List.length_take]; rfl)) ?_
             with_reducible refine (gazetteerlaw3_Same.calls kj75 _ _ y216 _ _ t180 true _ ?side1 ?side2 ?side3 ?side4 A90.out).mono ?_
             (case side1 => repeat (first | exact (by repeat (first | (with_reducible exact HR219.out) | (with_reducible refine Kd.C_alloc ?_ _) | (with_reducible refine Kd.C_drewN ?_ _) | (with_reducible refine Kd.C_drew ?_) | exact HR219.out)) | (with_reducible refine Kd.C_alloc ?_ _) | (with_reducible refine Kd.C_drewN ?_ _) | (with_reducible refine Kd.C_drew ?_)))
             (case side2 => exact HC219.out)
             (case side3 => repeat (first | exact (Kd.R_reads' HO_11.out).2.2 | (with_reducible refine Kd.C_alloc ?_ _) | (with_reducible refine Kd.C_drewN ?_ _) | (with_reducible refine Kd.C_drew ?_)))
             (case side4 => exact (Kd.R_reads' HO_11.out).2.1)
             rintro e w' ⟨rfl, ⟨nd, rfl⟩⟩
             refine ⟨_, rfl, ?_⟩
             refine hK.out _ _ ⟨blk_cell BK214.out 0, blk_cell BK214.out 1, blk_cell BK214.out 2, blk_cell BK214.out 3, blk_cell BK214.out 4, blk_cell BK214.out 5, hHeld.2.2.2.2.2.2.1, hHeld.2.2.2.2.2.2.2.1, hHeld.2.2.2.2.2.2.2.2⟩ (fun hHeld => ?_)
             clear hK K
             refine norm_ (a' := ?_) ?_ ?_
             rotate_left
             · show Act.put _ (some 138) _ = _; simp only [Act.put, List.setIfInBounds_toArray, List.set_cons_zero, List.set_cons_succ, i64_w, i32_w]; rfl
             refine pure_ (i := 8) (N := some 139) (v := ?_) (a' := ?_) (fl 9 22) rfl rfl (any_of HT_.out (by kernel_rfl)) (fun _ _ _ h => h) (Or.inl ⟨by rfl, ?_⟩) ?_ ?_
             rotate_left
             · intro w'
               go_simp
               with_reducible rfl
             rotate_left
             · simp only [Act.put, List.setIfInBounds_toArray, List.set_cons_zero, List.set_cons_succ, i64_w, i32_w]; rfl
             refine pure_ (i := 9) (N := some 140) (v := ?_) (a' := ?_) (fl 10 21) rfl rfl (any_of HT_.out (by kernel_rfl)) (fun _ _ _ h => h) (Or.inl ⟨by rfl, ?_⟩) ?_ ?_
             rotate_left
             · intro w'
               go_simp
               with_reducible rfl
             rotate_left
             · simp only [Act.put, List.setIfInBounds_toArray, List.set_cons_zero, List.set_cons_succ, i64_w, i32_w]; rfl
             refine pure_ (i := 10) (N := some 141) (v := ?_) (a' := ?_) (fl 11 20) rfl rfl (any_of HT_.out (by kernel_rfl)) (fun _ _ _ h => h) (Or.inl ⟨by rfl, ?_⟩) ?_ ?_
             rotate_left
             · intro w'
               go_simp
               with_reducible rfl
             rotate_left
             · simp only [Act.put, List.setIfInBounds_toArray, List.set_cons_zero, List.set_cons_succ, i64_w, i32_w]; rfl
             refine pure_ (i := 11) (N := some 142) (v := ?_) (a' := ?_) (fl 12 19) rfl rfl (any_of HT_.out (by kernel_rfl)) (fun _ _ _ h => h) (Or.inl ⟨by rfl, ?_⟩) ?_ ?_
             rotate_left
             · intro w'
               go_simp
               with_reducible rfl
             rotate_left
             · simp only [Act.put, List.setIfInBounds_toArray, List.set_cons_zero, List.set_cons_succ, i64_w, i32_w]; rfl
             refine pure_ (i := 12) (N := some 143) (v := ?_) (a' := ?_) (fl 13 18) rfl rfl (any_of HT_.out (by kernel_rfl)) (fun _ _ _ h => h) (Or.inl ⟨by rfl, ?_⟩) ?_ ?_
             rotate_left
             · intro w'
               go_simp
               with_reducible rfl
             rotate_left
             · simp only [Act.put, List.setIfInBounds_toArray, List.set_cons_zero, List.set_cons_succ, i64_w, i32_w]; rfl
             refine pure_ (i := 13) (N := some 144) (v := ?_) (a' := ?_) (fl 14 17) rfl rfl (any_of HT_.out (by kernel_rfl)) (fun _ _ _ h => h) (Or.inl ⟨by rfl, ?_⟩) ?_ ?_
             rotate_left
             · intro w'
               go_simp
               with_reducible rfl
             rotate_left
             · simp only [Act.put, List.setIfInBounds_toArray, List.set_cons_zero, List.set_cons_succ, i64_w, i32_w]; rfl
             refine pure_ (i := 15) (N := some 146) (v := ?_) (a' := ?_) #[true, true, true, true, true, true, true, true, true, true, true, true, true, true, false, true, false, false, false, false, false, false, false, false, false, false, false, false, false, false, false] rfl rfl (any_of HT_.out (by kernel_rfl)) (fun _ _ _ h => h) (Or.inl ⟨by rfl, ?_⟩) ?_ ?_
             rotate_left
             · intro w'
               go_simp
               with_reducible rfl
             rotate_left
             · simp only [Act.put, List.setIfInBounds_toArray, List.set_cons_zero, List.set_cons_succ, i64_w, i32_w]; rfl
             refine take_ (i := 14) (N := some 145) (v := ?_) (a' := ?_) (fl 16 15) rfl rfl (take_ofW HT_.out HW_.out (by kernel_rfl)) (fun _ _ _ h => h) (Or.inl ⟨by rfl, ?_⟩) hHeld ?_ ?_
             rotate_left
             · rintro w' ⟨s0, s1, s2, s3, s4, s5, s6, s7, s8⟩; go_simp; with_reducible rfl
             rotate_left
             · simp only [Act.put, List.setIfInBounds_toArray, List.set_cons_zero, List.set_cons_succ, i64_w, i32_w]; rfl
             refine take_ (i := 16) (N := some 147) (v := ?_) (a' := ?_) (fl 17 14) rfl rfl (take_ofW HT_.out HW_.out (by kernel_rfl)) (fun _ _ _ h => h) (Or.inl ⟨by rfl, ?_⟩) hHeld ?_ ?_
             rotate_left
             · rintro w' ⟨s0, s1, s2, s3, s4, s5, s6, s7, s8⟩; go_simp; with_reducible rfl
             rotate_left
             · simp only [Act.put, List.setIfInBounds_toArray, List.set_cons_zero, List.set_cons_succ, i64_w, i32_w]; rfl
             refine pure_ (i := 17) (N := some 148) (v := ?_) (a' := ?_) (fl 18 13) rfl rfl (any_of HT_.out (by kernel_rfl)) (fun _ _ _ h => h) (Or.inl ⟨by rfl, ?_⟩) ?_ ?_
             rotate_left
             · intro w'
               go_simp
               with_reducible rfl
             rotate_left
             · simp only [Act.put, List.setIfInBounds_toArray, List.set_cons_zero, List.set_cons_succ, i64_w, i32_w]; rfl
             refine pure_ (i := 18) (N := some 149) (v := ?_) (a' := ?_) (fl 19 12) rfl rfl (any_of HT_.out (by kernel_rfl)) (fun _ _ _ h => h) (Or.inl ⟨by rfl, ?_⟩) ?_ ?_
             rotate_left
             · intro w'
               go_simp
               with_reducible rfl
             rotate_left
             · simp only [Act.put, List.setIfInBounds_toArray, List.set_cons_zero, List.set_cons_succ, i64_w, i32_w]; rfl
             refine pure_ (i := 19) (N := some 150) (v := ?_) (a' := ?_) (fl 20 11) rfl rfl (any_of HT_.out (by kernel_rfl)) (fun _ _ _ h => h) (Or.inl ⟨by rfl, ?_⟩) ?_ ?_
             rotate_left
             · intro w'
               go_simp
               with_reducible rfl
             rotate_left
             · simp only [Act.put, List.setIfInBounds_toArray, List.set_cons_zero, List.set_cons_succ, i64_w, i32_w]; rfl
             refine pure_ (i := 20) (N := some 151) (v := undef) (a' := ?_) (fl 21 10) rfl rfl (any_of HT_.out (by kernel_rfl)) (fun _ _ _ h => h) (Or.inr ⟨by rfl, rfl⟩) ?_ ?_
             rotate_left
             · simp only [Act.put, List.setIfInBounds_toArray, List.set_cons_zero, List.set_cons_succ, i64_w, i32_w]; rfl
             refine pure_ (i := 21) (N := some 152) (v := undef) (a' := ?_) (fl 22 9) rfl rfl (any_of HT_.out (by kernel_rfl)) (fun _ _ _ h => h) (Or.inr ⟨by rfl, rfl⟩) ?_ ?_
             rotate_left
             · simp only [Act.put, List.setIfInBounds_toArray, List.set_cons_zero, List.set_cons_succ, i64_w, i32_w]; rfl
             refine pure_ (i := 22) (N := some 153) (v := undef) (a' := ?_) (fl 23 8) rfl rfl (any_of HT_.out (by kernel_rfl)) (fun _ _ _ h => h) (Or.inr ⟨by rfl, rfl⟩) ?_ ?_
             rotate_left
             · simp only [Act.put, List.setIfInBounds_toArray, List.set_cons_zero, List.set_cons_succ, i64_w, i32_w]; rfl
             refine pure_ (i := 23) (N := some 154) (v := undef) (a' := ?_) (fl 24 7) rfl rfl (any_of HT_.out (by kernel_rfl)) (fun _ _ _ h => h) (Or.inr ⟨by rfl, rfl⟩) ?_ ?_
             rotate_left
             · simp only [Act.put, List.setIfInBounds_toArray, List.set_cons_zero, List.set_cons_succ, i64_w, i32_w]; rfl
             refine pure_ (i := 24) (N := some 155) (v := undef) (a' := ?_) (fl 25 6) rfl rfl (any_of HT_.out (by kernel_rfl)) (fun _ _ _ h => h) (Or.inr ⟨by rfl, rfl⟩) ?_ ?_
             rotate_left
             · simp only [Act.put, List.setIfInBounds_toArray, List.set_cons_zero, List.set_cons_succ, i64_w, i32_w]; rfl
             refine pure_ (i := 25) (N := some 156) (v := undef) (a' := ?_) (fl 26 5) rfl rfl (any_of HT_.out (by kernel_rfl)) (fun _ _ _ h => h) (Or.inr ⟨by rfl, rfl⟩) ?_ ?_
             rotate_left
             · simp only [Act.put, List.setIfInBounds_toArray, List.set_cons_zero, List.set_cons_succ, i64_w, i32_w]; rfl
             refine pure_ (i := 26) (N := some 157) (v := undef) (a' := ?_) (fl 27 4) rfl rfl (any_of HT_.out (by kernel_rfl)) (fun _ _ _ h => h) (Or.inr ⟨by rfl, rfl⟩) ?_ ?_
             rotate_left
             · simp only [Act.put, List.setIfInBounds_toArray, List.set_cons_zero, List.set_cons_succ, i64_w, i32_w]; rfl
             refine pure_ (i := 27) (N := some 158) (v := undef) (a' := ?_) (fl 28 3) rfl rfl (any_of HT_.out (by kernel_rfl)) (fun _ _ _ h => h) (Or.inr ⟨by rfl, rfl⟩) ?_ ?_
             rotate_left
             · simp only [Act.put, List.setIfInBounds_toArray, List.set_cons_zero, List.set_cons_succ, i64_w, i32_w]; rfl
             refine pure_ (i := 28) (N := some 159) (v := undef) (a' := ?_) (fl 29 2) rfl rfl (any_of HT_.out (by kernel_rfl)) (fun _ _ _ h => h) (Or.inr ⟨by rfl, rfl⟩) ?_ ?_
             rotate_left
             · simp only [Act.put, List.setIfInBounds_toArray, List.set_cons_zero, List.set_cons_succ, i64_w, i32_w]; rfl
             refine pure_ (i := 29) (N := some 160) (v := ?_) (a' := ?_) (fl 30 1) rfl rfl (any_of HT_.out (by kernel_rfl)) (fun _ _ _ h => h) (Or.inl ⟨by rfl, ?_⟩) ?_ ?_
             rotate_left
             · intro w'
               go_simp
               with_reducible rfl
             rotate_left
             · simp only [Act.put, List.setIfInBounds_toArray, List.set_cons_zero, List.set_cons_succ, i64_w, i32_w]; rfl
             refine pure_ (i := 30) (N := some 6) (v := ?_) (a' := ?_) (fl 31 0) rfl rfl (any_of HT_.out (by kernel_rfl)) (fun _ _ _ h => h) (Or.inl ⟨by rfl, ?_⟩) ?_ ?_
             rotate_left
             · intro w'
               go_simp
               with_reducible rfl
             rotate_left
             · simp only [Act.put, List.setIfInBounds_toArray, List.set_cons_zero, List.set_cons_succ, i64_w, i32_w]; rfl
             refine done_ (done_of HT_.out (by kernel_rfl)) ?_
             try go_wp2
             go_ret
             exact ⟨by first | rfl | (simp [errW_none, errW_some] <;> rfl) | (simp [*, errW_none, errW_some] <;> rfl), by repeat (first | (with_reducible first | exact HB.out | apply below_alloc | apply pw_below_drewN | apply below_drew1 | refine below_set ?_ GE169.out | refine below_set ?_ GE214.out) | exact HB.out)⟩
            rw [if_pos c93] at H
            have c93b0 : (((rd_T39 t203 (t180.length : Int)).f0) == t208 && (((rd_T39 t203 (t180.length : Int)).f1) == t209 && (((rd_T39 t203 (t180.length : Int)).f2) == t210))) = true := c93
            (try (have c93b1 : decide (((rd_T39 t203 (t180.length : Int)).f0) = t208 && (((rd_T39 t203 (t180.length : Int)).f1) == t209 && (((rd_T39 t203 (t180.length : Int)).f2) == t210))) = true := by simpa using c93))
            (try (have c93b2 : (((rd_T39 t203 (t180.length : Int)).f0) == t208 && (((rd_T39 t203 (t180.length : Int)).f1) == t209 && (((rd_T39 t203 (t180.length : Int)).f2) == t210))) = true := by simpa using c93))
            clear c93
            obtain ⟨ji94, hji94⟩ : ∃ j_ : Int, (wrap64 ((t180.length : Int) + 1)) = j_ := ⟨_, rfl⟩
            replace H : (if 0 ≤ (ji94) then (if (ji94) < (t203.length : Int) then (some (((rd_T39 t203 (ji94)).f0) == t211 && (((rd_T39 t203 (ji94)).f1) == t212 && (((rd_T39 t203 (ji94)).f2) == t213)))) else (none)) else (none)) = some r := by first | (rw [hji94] at H; exact H) | (simp only [hji94] at H ⊢; exact H)
            (try rw [hji94] at A86)
            (try rw [hji94] at A90)
            have hji94w : (IntKind.i64.wrap ((t180.length : Int) + 1)) = ji94 := (i64_w _).trans hji94
            by_cases c95 : 0 ≤ (ji94)
            rotate_left
            · rw [if_neg c95] at H
              exact absurd H (by simp)
            rw [if_pos c95] at H
            have c95b0 : decide (0 ≤ (ji94)) = true := decide_eq_true c95
            clear c95
            by_cases c96 : (ji94) < (t203.length : Int)
            rotate_left
            · rw [if_neg c96] at H
              exact absurd H (by simp)
            rw [if_pos c96] at H
            have c96b0 : decide ((ji94) < (t203.length : Int)) = true := decide_eq_true c96
            clear c96
            obtain rfl := Option.some.inj H
            try go_wp2
            replace HO_11 := Aside0.mk (Kd.R_drew HO_11.out)
            replace HO_15 := Aside0.mk (Kd.R_drew HO_15.out)
            replace BK169 := Aside0.mk (blk_drew BK169.out)
            replace BK214 := Aside0.mk (blk_drew BK214.out)
            replace HB := Aside0.mk (below_drew1 HB.out)
            have p221 : 0 ≤ ((t180.length : Int) : Int) := of_decide_eq_true (by first | (with_reducible assumption) | assumption)
            have q221 : (t180.length : Int) < (t203.length : Int) := of_decide_eq_true (by first | (with_reducible assumption) | assumption)
            obtain ⟨Aq_15, cq_15, eq_15⟩ := Kd.R_slice HO_15.out
            subst eq_15
            obtain ⟨ad221, e221, hx221_0, hx221_1, hx221_2⟩ := at_T39 (Kd.R_reads' HO_15.out).2.2 (t180.length : Int) p221 q221
            cases e221
            (try simp only [Go.IntWalk.toNatUp] at hx221_0)
            (try simp only [Go.IntWalk.toNatUp] at hx221_1)
            (try simp only [Go.IntWalk.toNatUp] at hx221_2)
            (try simp only [Int.toNat_natCast] at hx221_0 hx221_1 hx221_2)
            replace p221 := eq_true p221
            replace q221 := eq_true q221
            have p222 : 0 ≤ ((ji94) : Int) := of_decide_eq_true (by first | (with_reducible assumption) | assumption)
            have q222 : (ji94) < (t203.length : Int) := of_decide_eq_true (by first | (with_reducible assumption) | assumption)
            obtain ⟨ad222, e222, hx222_0, hx222_1, hx222_2⟩ := at_T39 (Kd.R_reads' HO_15.out).2.2 (ji94) p222 q222
            obtain rfl : ad221 = ad222 := (by injection e222)
            replace p222 := eq_true p222
            replace q222 := eq_true q222
            refine start_ (n := 31) (S := fun w' => w'.cell? ⟨gb214, 0, none⟩ = some (.int .i64 t208) ∧ w'.cell? ⟨gb214, 1, none⟩ = some (.int .i64 t209) ∧ w'.cell? ⟨gb214, 2, none⟩ = some (.int .i64 t210) ∧ w'.cell? ⟨gb214, 3, none⟩ = some (.int .i64 t211) ∧ w'.cell? ⟨gb214, 4, none⟩ = some (.int .i64 t212) ∧ w'.cell? ⟨gb214, 5, none⟩ = some (.int .i64 t213) ∧ w'.cell? (ad221.add (t180.length * 3)) = some (.int .i64 ((rd_T39 t203 (t180.length : Int)).f0)) ∧ w'.cell? ⟨(ad221.add (t180.length * 3)).block, (ad221.add (t180.length * 3)).off + 1, none⟩ = some (.int .i64 ((rd_T39 t203 (t180.length : Int)).f1)) ∧ w'.cell? ⟨(ad221.add (t180.length * 3)).block, (ad221.add (t180.length * 3)).off + 2, none⟩ = some (.int .i64 ((rd_T39 t203 (t180.length : Int)).f2)) ∧ w'.cell? (ad221.add (((ji94)).toNat * 3)) = some (.int .i64 ((rd_T39 t203 (ji94)).f0)) ∧ w'.cell? ⟨(ad221.add (((ji94)).toNat * 3)).block, (ad221.add (((ji94)).toNat * 3)).off + 1, none⟩ = some (.int .i64 ((rd_T39 t203 (ji94)).f1)) ∧ w'.cell? ⟨(ad221.add (((ji94)).toNat * 3)).block, (ad221.add (((ji94)).toNat * 3)).off + 2, none⟩ = some (.int .i64 ((rd_T39 t203 (ji94)).f2))) (ds := []) (fl 0 31) (by kernel_rfl) rfl rfl ⟨blk_cell BK214.out 0, blk_cell BK214.out 1, blk_cell BK214.out 2, blk_cell BK214.out 3, blk_cell BK214.out 4, blk_cell BK214.out 5, hx221_0, hx221_1, hx221_2, hx222_0, hx222_1, hx222_2⟩ (fun hHeld => ?_); refine with_tabW gazetteerlaw3_parts.tab25 gazetteerlaw3_parts.bits25 (fun HT_ HW_ => ?_)
            generalize wc.drew = w97 at HO_11 HO_15 BK169 BK214 HB hx221_0 hx221_1 hx221_2 hx222_0 hx222_1 hx222_2 hHeld ⊢
            refine one_ (i := 0) (N := some 131) (fl 1 30) rfl rfl (one_of HT_.out (by kernel_rfl)) (by decide) (fun K hK => ?_)
            refine goes_ Try.func9 (by kernel_rfl) rfl #[] (by rfl) rfl rfl (by (try simp only [List.map_toArray, List.map_cons, List.map_nil]); first | done | rfl | (simp only [List.length_drop, List.length_take]; done) | (simp only [List.length_drop, List.length_take]; rfl)) ?_
            with_reducible refine (gazetteerlaw3_awake.calls  true _ A86.out).mono ?_
            rintro e w98 ⟨rfl, hb⟩
            have HS6_ := (hb.cell (World.block_lt_of_cell? _ _ (hHeld.2.2.2.2.2.2.1))).trans (hHeld.2.2.2.2.2.2.1)
            have HS7_ := (hb.cell (World.block_lt_of_cell? _ _ (hHeld.2.2.2.2.2.2.2.1))).trans (hHeld.2.2.2.2.2.2.2.1)
            have HS8_ := (hb.cell (World.block_lt_of_cell? _ _ (hHeld.2.2.2.2.2.2.2.2.1))).trans (hHeld.2.2.2.2.2.2.2.2.1)
            have HS9_ := (hb.cell (World.block_lt_of_cell? _ _ (hHeld.2.2.2.2.2.2.2.2.2.1))).trans (hHeld.2.2.2.2.2.2.2.2.2.1)
            have HS10_ := (hb.cell (World.block_lt_of_cell? _ _ (hHeld.2.2.2.2.2.2.2.2.2.2.1))).trans (hHeld.2.2.2.2.2.2.2.2.2.2.1)
            have HS11_ := (hb.cell (World.block_lt_of_cell? _ _ (hHeld.2.2.2.2.2.2.2.2.2.2.2))).trans (hHeld.2.2.2.2.2.2.2.2.2.2.2)
            refine ⟨_, rfl, ?_⟩
            replace HO_11 := Aside0.mk (Kd.R_below (pR HO_11.out) hb)
            replace HO_15 := Aside0.mk (Kd.R_below (pR HO_15.out) hb)
            replace BK169 := Aside0.mk (blk_below (pb BK169.out) hb)
            replace BK214 := Aside0.mk (blk_below (pb BK214.out) hb)
            replace HB := Aside0.mk (below_step (pB HB.out) hb)
            (try clear hb)
            (try clear hb2)
            (try clear hk)
            (try clear hi)
            obtain ⟨Ao99, co99, eo99⟩ := Kd.R_slice HO_11.out
            (first | subst eo99 | (injection eo99 with f1_ f2_ f3_; have f4_ := f1_.symm; have f5_ := f3_.symm; clear f1_ f2_ f3_; subst f4_; subst f5_))
            have q100 : ((t180.length : Int) : Int) ≤ ((t203.length : Int) : Int) := of_decide_eq_true (by first | (with_reducible assumption) | assumption)
            obtain ⟨i0100, hi0100, _, hsz100, _⟩ := info_parts info39
            have hroom100 : t203.length ≤ cq_15 := (Kd.R_reads' HO_15.out).2.1
            have hC100 : Kd.C k39 _ (some ad221) t203.length t203 := (Kd.R_reads' HO_15.out).2.2
            have hcut100 := cut_to (P := Try.prog) 29 39 .i64 Try.underlying29 hi0100 (some ad221) t203.length cq_15 (t180.length : Int) (of_decide_eq_true (by first | (with_reducible assumption) | assumption)) q100 hroom100
            have hr100 := Kd.C_take (m := ((t180.length : Int) : Int).toNat) hC100 (by omega)
            have hy100 : y216.length = ((t180.length : Int) : Int).toNat := (by rw [Ny216.out, List.length_take]; omega)
            rw [← Ny216.out] at hr100
            rw [← hy100] at hcut100
            have HR219 := Aside0.mk hr100
            have HC219 := Aside0.mk (show y216.length ≤ cq_15 from by omega)
            clear hr100 hC100 hroom100 hi0100 hsz100
            have KY100 := Aside0.mk hy100
            clear hy100
            have KL100 := Aside0.mk (show ((t180.length : Int) : Int).toNat ≤ t203.length from by omega)
            replace q100 := eq_true q100
            refine hK.out _ _ ⟨blk_cell BK214.out 0, blk_cell BK214.out 1, blk_cell BK214.out 2, blk_cell BK214.out 3, blk_cell BK214.out 4, blk_cell BK214.out 5, HS6_, HS7_, HS8_, HS9_, HS10_, HS11_⟩ (fun hHeld => ?_)
            clear hK K
            refine norm_ (a' := ?_) ?_ ?_
            rotate_left
            · show Act.put _ (some 131) _ = _; simp only [Act.put, List.setIfInBounds_toArray, List.set_cons_zero, List.set_cons_succ, i64_w, i32_w]; rfl
            refine pure_ (i := 1) (N := some 132) (v := ?_) (a' := ?_) (fl 2 29) rfl rfl (any_of HT_.out (by kernel_rfl)) (fun _ _ _ h => h) (Or.inl ⟨by rfl, ?_⟩) ?_ ?_
            rotate_left
            · intro w'
              go_simp
              with_reducible rfl
            rotate_left
            · simp only [Act.put, List.setIfInBounds_toArray, List.set_cons_zero, List.set_cons_succ, i64_w, i32_w]; rfl
            refine pure_ (i := 2) (N := some 133) (v := ?_) (a' := ?_) (fl 3 28) rfl rfl (any_of HT_.out (by kernel_rfl)) (fun _ _ _ h => h) (Or.inl ⟨by rfl, ?_⟩) ?_ ?_
            rotate_left
            · intro w'
              go_simp
              with_reducible rfl
            rotate_left
            · simp only [Act.put, List.setIfInBounds_toArray, List.set_cons_zero, List.set_cons_succ, i64_w, i32_w]; rfl
            refine pure_ (i := 3) (N := some 134) (v := ?_) (a' := ?_) (fl 4 27) rfl rfl (any_of HT_.out (by kernel_rfl)) (fun _ _ _ h => h) (Or.inl ⟨by rfl, ?_⟩) ?_ ?_
            rotate_left
            · intro w'
              go_simp
              with_reducible rfl
            rotate_left
            · simp only [Act.put, List.setIfInBounds_toArray, List.set_cons_zero, List.set_cons_succ, i64_w, i32_w]; rfl
            refine pure_ (i := 4) (N := some 135) (v := ?_) (a' := ?_) (fl 5 26) rfl rfl (any_of HT_.out (by kernel_rfl)) (fun _ _ _ h => h) (Or.inl ⟨by rfl, ?_⟩) ?_ ?_
            rotate_left
            · intro w'
              go_simp
              with_reducible rfl
            rotate_left
            · simp only [Act.put, List.setIfInBounds_toArray, List.set_cons_zero, List.set_cons_succ, i64_w, i32_w]; rfl
            refine pure_ (i := 5) (N := some 136) (v := ?_) (a' := ?_) (fl 6 25) rfl rfl (any_of HT_.out (by kernel_rfl)) (fun _ _ _ h => h) (Or.inl ⟨by rfl, ?_⟩) ?_ ?_
            rotate_left
            · intro w'
              go_simp
              with_reducible rfl
            rotate_left
            · simp only [Act.put, List.setIfInBounds_toArray, List.set_cons_zero, List.set_cons_succ, i64_w, i32_w]; rfl
            refine pure_ (i := 6) (N := some 137) (v := ?_) (a' := ?_) (fl 7 24) rfl rfl (any_of HT_.out (by kernel_rfl)) (fun _ _ _ h => h) (Or.inl ⟨by rfl, ?_⟩) ?_ ?_
            rotate_left
            · intro w'
              go_simp
              with_reducible rfl
            rotate_left
            · simp only [Act.put, List.setIfInBounds_toArray, List.set_cons_zero, List.set_cons_succ, i64_w, i32_w]; rfl
            refine one_ (i := 7) (N := some 138) (fl 8 23) rfl rfl (one_of HT_.out (by kernel_rfl)) (by decide) (fun K hK => ?_)
            refine goes_ Try.func13 (by kernel_rfl) rfl #[.slice (some ad221) y216.length cq_15, .slice Ao99 t180.length co99] (by rfl) rfl rfl (by (try simp only [List.map_toArray, List.map_cons, List.map_nil]); first | done | rfl | (simp only [List.length_drop, List.length_take]; done) | (simp only [List.length_drop, List.length_take]; rfl)) ?_
            with_reducible refine (gazetteerlaw3_Same.calls kj75 _ _ y216 _ _ t180 true _ ?side1 ?side2 ?side3 ?side4 A90.out).mono ?_
            (case side1 => repeat (first | exact (by repeat (first | (with_reducible exact HR219.out) | (with_reducible refine Kd.C_alloc ?_ _) | (with_reducible refine Kd.C_drewN ?_ _) | (with_reducible refine Kd.C_drew ?_) | exact HR219.out)) | (with_reducible refine Kd.C_alloc ?_ _) | (with_reducible refine Kd.C_drewN ?_ _) | (with_reducible refine Kd.C_drew ?_)))
            (case side2 => exact HC219.out)
            (case side3 => repeat (first | exact (Kd.R_reads' HO_11.out).2.2 | (with_reducible refine Kd.C_alloc ?_ _) | (with_reducible refine Kd.C_drewN ?_ _) | (with_reducible refine Kd.C_drew ?_)))
            (case side4 => exact (Kd.R_reads' HO_11.out).2.1)
            rintro e w' ⟨rfl, ⟨nd, rfl⟩⟩
            refine ⟨_, rfl, ?_⟩
            refine hK.out _ _ ⟨blk_cell BK214.out 0, blk_cell BK214.out 1, blk_cell BK214.out 2, blk_cell BK214.out 3, blk_cell BK214.out 4, blk_cell BK214.out 5, hHeld.2.2.2.2.2.2.1, hHeld.2.2.2.2.2.2.2.1, hHeld.2.2.2.2.2.2.2.2.1, hHeld.2.2.2.2.2.2.2.2.2.1, hHeld.2.2.2.2.2.2.2.2.2.2.1, hHeld.2.2.2.2.2.2.2.2.2.2.2⟩ (fun hHeld => ?_)
            clear hK K
            refine norm_ (a' := ?_) ?_ ?_
            rotate_left
            · show Act.put _ (some 138) _ = _; simp only [Act.put, List.setIfInBounds_toArray, List.set_cons_zero, List.set_cons_succ, i64_w, i32_w]; rfl
            refine pure_ (i := 8) (N := some 139) (v := ?_) (a' := ?_) (fl 9 22) rfl rfl (any_of HT_.out (by kernel_rfl)) (fun _ _ _ h => h) (Or.inl ⟨by rfl, ?_⟩) ?_ ?_
            rotate_left
            · intro w'
              go_simp
              with_reducible rfl
            rotate_left
            · simp only [Act.put, List.setIfInBounds_toArray, List.set_cons_zero, List.set_cons_succ, i64_w, i32_w]; rfl
            refine pure_ (i := 9) (N := some 140) (v := ?_) (a' := ?_) (fl 10 21) rfl rfl (any_of HT_.out (by kernel_rfl)) (fun _ _ _ h => h) (Or.inl ⟨by rfl, ?_⟩) ?_ ?_
            rotate_left
            · intro w'
              go_simp
              with_reducible rfl
            rotate_left
            · simp only [Act.put, List.setIfInBounds_toArray, List.set_cons_zero, List.set_cons_succ, i64_w, i32_w]; rfl
            refine pure_ (i := 10) (N := some 141) (v := ?_) (a' := ?_) (fl 11 20) rfl rfl (any_of HT_.out (by kernel_rfl)) (fun _ _ _ h => h) (Or.inl ⟨by rfl, ?_⟩) ?_ ?_
            rotate_left
            · intro w'
              go_simp
              with_reducible rfl
            rotate_left
            · simp only [Act.put, List.setIfInBounds_toArray, List.set_cons_zero, List.set_cons_succ, i64_w, i32_w]; rfl
            refine pure_ (i := 11) (N := some 142) (v := ?_) (a' := ?_) (fl 12 19) rfl rfl (any_of HT_.out (by kernel_rfl)) (fun _ _ _ h => h) (Or.inl ⟨by rfl, ?_⟩) ?_ ?_
            rotate_left
            · intro w'
              go_simp
              with_reducible rfl
            rotate_left
            · simp only [Act.put, List.setIfInBounds_toArray, List.set_cons_zero, List.set_cons_succ, i64_w, i32_w]; rfl
            refine pure_ (i := 12) (N := some 143) (v := ?_) (a' := ?_) (fl 13 18) rfl rfl (any_of HT_.out (by kernel_rfl)) (fun _ _ _ h => h) (Or.inl ⟨by rfl, ?_⟩) ?_ ?_
            rotate_left
            · intro w'
              go_simp
              with_reducible rfl
            rotate_left
            · simp only [Act.put, List.setIfInBounds_toArray, List.set_cons_zero, List.set_cons_succ, i64_w, i32_w]; rfl
            refine pure_ (i := 13) (N := some 144) (v := ?_) (a' := ?_) (fl 14 17) rfl rfl (any_of HT_.out (by kernel_rfl)) (fun _ _ _ h => h) (Or.inl ⟨by rfl, ?_⟩) ?_ ?_
            rotate_left
            · intro w'
              go_simp
              with_reducible rfl
            rotate_left
            · simp only [Act.put, List.setIfInBounds_toArray, List.set_cons_zero, List.set_cons_succ, i64_w, i32_w]; rfl
            refine pure_ (i := 15) (N := some 146) (v := ?_) (a' := ?_) #[true, true, true, true, true, true, true, true, true, true, true, true, true, true, false, true, false, false, false, false, false, false, false, false, false, false, false, false, false, false, false] rfl rfl (any_of HT_.out (by kernel_rfl)) (fun _ _ _ h => h) (Or.inl ⟨by rfl, ?_⟩) ?_ ?_
            rotate_left
            · intro w'
              go_simp
              with_reducible rfl
            rotate_left
            · simp only [Act.put, List.setIfInBounds_toArray, List.set_cons_zero, List.set_cons_succ, i64_w, i32_w]; rfl
            refine take_ (i := 14) (N := some 145) (v := ?_) (a' := ?_) (fl 16 15) rfl rfl (take_ofW HT_.out HW_.out (by kernel_rfl)) (fun _ _ _ h => h) (Or.inl ⟨by rfl, ?_⟩) hHeld ?_ ?_
            rotate_left
            · rintro w' ⟨s0, s1, s2, s3, s4, s5, s6, s7, s8, s9, s10, s11⟩; go_simp; with_reducible rfl
            rotate_left
            · simp only [Act.put, List.setIfInBounds_toArray, List.set_cons_zero, List.set_cons_succ, i64_w, i32_w]; rfl
            refine take_ (i := 16) (N := some 147) (v := ?_) (a' := ?_) (fl 17 14) rfl rfl (take_ofW HT_.out HW_.out (by kernel_rfl)) (fun _ _ _ h => h) (Or.inl ⟨by rfl, ?_⟩) hHeld ?_ ?_
            rotate_left
            · rintro w' ⟨s0, s1, s2, s3, s4, s5, s6, s7, s8, s9, s10, s11⟩; go_simp; with_reducible rfl
            rotate_left
            · simp only [Act.put, List.setIfInBounds_toArray, List.set_cons_zero, List.set_cons_succ, i64_w, i32_w]; rfl
            refine pure_ (i := 17) (N := some 148) (v := ?_) (a' := ?_) (fl 18 13) rfl rfl (any_of HT_.out (by kernel_rfl)) (fun _ _ _ h => h) (Or.inl ⟨by rfl, ?_⟩) ?_ ?_
            rotate_left
            · intro w'
              go_simp
              with_reducible rfl
            rotate_left
            · simp only [Act.put, List.setIfInBounds_toArray, List.set_cons_zero, List.set_cons_succ, i64_w, i32_w]; rfl
            refine pure_ (i := 18) (N := some 149) (v := ?_) (a' := ?_) (fl 19 12) rfl rfl (any_of HT_.out (by kernel_rfl)) (fun _ _ _ h => h) (Or.inl ⟨by rfl, ?_⟩) ?_ ?_
            rotate_left
            · intro w'
              go_simp
              with_reducible rfl
            rotate_left
            · simp only [Act.put, List.setIfInBounds_toArray, List.set_cons_zero, List.set_cons_succ, i64_w, i32_w]; rfl
            refine pure_ (i := 19) (N := some 150) (v := ?_) (a' := ?_) (fl 20 11) rfl rfl (any_of HT_.out (by kernel_rfl)) (fun _ _ _ h => h) (Or.inl ⟨by rfl, ?_⟩) ?_ ?_
            rotate_left
            · intro w'
              go_simp
              with_reducible rfl
            rotate_left
            · simp only [Act.put, List.setIfInBounds_toArray, List.set_cons_zero, List.set_cons_succ, i64_w, i32_w]; rfl
            refine pure_ (i := 20) (N := some 151) (v := ?_) (a' := ?_) (fl 21 10) rfl rfl (any_of HT_.out (by kernel_rfl)) (fun _ _ _ h => h) (Or.inl ⟨by rfl, ?_⟩) ?_ ?_
            rotate_left
            · intro w'
              go_simp
              with_reducible rfl
            rotate_left
            · simp only [Act.put, List.setIfInBounds_toArray, List.set_cons_zero, List.set_cons_succ, i64_w, i32_w]; rfl
            refine pure_ (i := 21) (N := some 152) (v := ?_) (a' := ?_) (fl 22 9) rfl rfl (any_of HT_.out (by kernel_rfl)) (fun _ _ _ h => h) (Or.inl ⟨by rfl, ?_⟩) ?_ ?_
            rotate_left
            · intro w'
              go_simp
              with_reducible rfl
            rotate_left
            · simp only [Act.put, List.setIfInBounds_toArray, List.set_cons_zero, List.set_cons_succ, i64_w, i32_w]; rfl
            refine pure_ (i := 22) (N := some 153) (v := ?_) (a' := ?_) (fl 23 8) rfl rfl (any_of HT_.out (by kernel_rfl)) (fun _ _ _ h => h) (Or.inl ⟨by rfl, ?_⟩) ?_ ?_
            rotate_left
            · intro w'
              go_simp
              with_reducible rfl
            rotate_left
            · simp only [Act.put, List.setIfInBounds_toArray, List.set_cons_zero, List.set_cons_succ, i64_w, i32_w]; rfl
            refine pure_ (i := 23) (N := some 154) (v := ?_) (a' := ?_) (fl 24 7) rfl rfl (any_of HT_.out (by kernel_rfl)) (fun _ _ _ h => h) (Or.inl ⟨by rfl, ?_⟩) ?_ ?_
            rotate_left
            · intro w'
              go_simp
              with_reducible rfl
            rotate_left
            · simp only [Act.put, List.setIfInBounds_toArray, List.set_cons_zero, List.set_cons_succ, i64_w, i32_w]; rfl
            refine pure_ (i := 24) (N := some 155) (v := ?_) (a' := ?_) (fl 25 6) rfl rfl (any_of HT_.out (by kernel_rfl)) (fun _ _ _ h => h) (Or.inl ⟨by rfl, ?_⟩) ?_ ?_
            rotate_left
            · intro w'
              go_simp
              with_reducible rfl
            rotate_left
            · simp only [Act.put, List.setIfInBounds_toArray, List.set_cons_zero, List.set_cons_succ, i64_w, i32_w]; rfl
            refine pure_ (i := 26) (N := some 157) (v := ?_) (a' := ?_) #[true, true, true, true, true, true, true, true, true, true, true, true, true, true, true, true, true, true, true, true, true, true, true, true, true, false, true, false, false, false, false] rfl rfl (any_of HT_.out (by kernel_rfl)) (fun _ _ _ h => h) (Or.inl ⟨by rfl, ?_⟩) ?_ ?_
            rotate_left
            · intro w'
              go_simp
              with_reducible rfl
            rotate_left
            · simp only [Act.put, List.setIfInBounds_toArray, List.set_cons_zero, List.set_cons_succ, i64_w, i32_w]; rfl
            refine take_ (i := 25) (N := some 156) (v := ?_) (a' := ?_) (fl 27 4) rfl rfl (take_ofW HT_.out HW_.out (by kernel_rfl)) (fun _ _ _ h => h) (Or.inl ⟨by rfl, ?_⟩) hHeld ?_ ?_
            rotate_left
            · rintro w' ⟨s0, s1, s2, s3, s4, s5, s6, s7, s8, s9, s10, s11⟩; go_simp; with_reducible rfl
            rotate_left
            · simp only [Act.put, List.setIfInBounds_toArray, List.set_cons_zero, List.set_cons_succ, i64_w, i32_w]; rfl
            refine take_ (i := 27) (N := some 158) (v := ?_) (a' := ?_) (fl 28 3) rfl rfl (take_ofW HT_.out HW_.out (by kernel_rfl)) (fun _ _ _ h => h) (Or.inl ⟨by rfl, ?_⟩) hHeld ?_ ?_
            rotate_left
            · rintro w' ⟨s0, s1, s2, s3, s4, s5, s6, s7, s8, s9, s10, s11⟩; go_simp; with_reducible rfl
            rotate_left
            · simp only [Act.put, List.setIfInBounds_toArray, List.set_cons_zero, List.set_cons_succ, i64_w, i32_w]; rfl
            refine pure_ (i := 28) (N := some 159) (v := ?_) (a' := ?_) (fl 29 2) rfl rfl (any_of HT_.out (by kernel_rfl)) (fun _ _ _ h => h) (Or.inl ⟨by rfl, ?_⟩) ?_ ?_
            rotate_left
            · intro w'
              go_simp
              with_reducible rfl
            rotate_left
            · simp only [Act.put, List.setIfInBounds_toArray, List.set_cons_zero, List.set_cons_succ, i64_w, i32_w]; rfl
            refine pure_ (i := 29) (N := some 160) (v := ?_) (a' := ?_) (fl 30 1) rfl rfl (any_of HT_.out (by kernel_rfl)) (fun _ _ _ h => h) (Or.inl ⟨by rfl, ?_⟩) ?_ ?_
            rotate_left
            · intro w'
              go_simp
              with_reducible rfl
            rotate_left
            · simp only [Act.put, List.setIfInBounds_toArray, List.set_cons_zero, List.set_cons_succ, i64_w, i32_w]; rfl
            refine pure_ (i := 30) (N := some 6) (v := ?_) (a' := ?_) (fl 31 0) rfl rfl (any_of HT_.out (by kernel_rfl)) (fun _ _ _ h => h) (Or.inl ⟨by rfl, ?_⟩) ?_ ?_
            rotate_left
            · intro w'
              go_simp
              with_reducible rfl
            rotate_left
            · simp only [Act.put, List.setIfInBounds_toArray, List.set_cons_zero, List.set_cons_succ, i64_w, i32_w]; rfl
            refine done_ (done_of HT_.out (by kernel_rfl)) ?_
            try go_wp2
            go_ret
            exact ⟨by first | rfl | (simp [errW_none, errW_some] <;> rfl) | (simp only [← hji94]; first | rfl | (simp [errW_none, errW_some] <;> rfl)) | (simp [*, errW_none, errW_some] <;> rfl), by repeat (first | (with_reducible first | exact HB.out | apply below_alloc | apply pw_below_drewN | apply below_drew1 | refine below_set ?_ GE169.out | refine below_set ?_ GE214.out) | exact HB.out)⟩
end Go.Proofs.Ytfagobhhhljajaa.PWeighParts

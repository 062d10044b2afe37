-- printed by a program of this session (wip/tools), a turned form of the kit's print
import Derived.Test.YtbajekndbamcmaaPAtlasGoesx0
import Derived.Test.YtbajekndbamcmaaPAtlasGoesx1
import Derived.Test.YtbajekndbamcmaaPAtlasGoesx2
import Derived.Test.YtbajekndbamcmaaPAtlasGoesx4
import Derived.Test.YtbajekndbamcmaaPAtlasGoesx5
import Derived.Test.YtbajekndbamcmaaPAtlasGoesx6
namespace Go.Proofs.Ytbajekndbamcmaa.PAtlasGoes
open Go.RowKit Go.Proofs.YtbajekndbamcmaaW.PrintWords Go.Proofs.YtbajekndbamcmaaW.PrintLast Go.Proofs.YtbajekndbamcmaaW.PrintMore
attribute [local go_sem] max2_int min2_int max_two min_two max_three min_three max_four min_four max2_str min2_str str_geq str_leq str_gtr   -- for this text's walks alone
set_option linter.unusedVariables false
set_option linter.unusedSimpArgs false

attribute [local go_sem high] eqA30
/-! ### gazetteerlaw14_AtlasGoes: function 5 -/
mutual
def gazetteerlaw14_AtlasGoes.l0 : Nat → List (S51) → Int → Int → List (S30) → Option (Bool)
 | 0, _, _, _, _ => none
 | k + 1, x0, x4, x233000, x233001 => if x4 < (x0.length : Int) then (if 0 ≤ x4 then (if (Int.tmod ((rd_T51 x0 x4).f0) 3) = 0 then ((atlas_Split.f k x233000 x233001 (strOfNums (([(97 + (Int.tmod ((rd_T51 x0 x4).f1) 26)) % 256, (rd_T51 x0 x4).f2] : List Int)))).bind fun bt241 => (gazetteerlaw14_AtlasGoes.j1 k x0 x4 bt241.2.2.1 bt241.2.2.2 x233000 x233001 bt241.1 bt241.2.1)) else (if (Int.tmod ((rd_T51 x0 x4).f0) 3) = 1 then ((atlas_Merge.f k x233000 x233001 (Int.tmod (wrap64 ((rd_T51 x0 x4).f1)) 12)).bind fun bt249 => (gazetteerlaw14_AtlasGoes.j1 k x0 x4 bt249.2.2.1 bt249.2.2.2 x233000 x233001 bt249.1 bt249.2.1)) else ((atlas_Move.f k x233000 x233001 (Int.tmod (wrap64 ((rd_T51 x0 x4).f1)) 12) (wrap64 (1 + (wrap64 (Int.tmod ((rd_T51 x0 x4).f2) 5)))) 5).bind fun bt258 => (gazetteerlaw14_AtlasGoes.j1 k x0 x4 bt258.2.2.1 bt258.2.2.2 x233000 x233001 bt258.1 bt258.2.1)))) else (none)) else (some true)
def gazetteerlaw14_AtlasGoes.j1 : Nat → List (S51) → Int → List Int → Int → Int → List (S30) → Int → List (S30) → Option (Bool)
 | 0, _, _, _, _, _, _, _, _ => none
 | k + 1, x0, x4, x7, x8, x233000, x233001, x235000, x235001 => if x8 = 0 then ((atlas_May.f k x235000 x235001 5).bind fun t266 => (if t266 = true then (if x235000 = (wrap64 (x233000 + 1)) then (gazetteerlaw14_AtlasGoes.j2 k x0 x4 (decide ((x7.length : Int) < 1)) x233000 x233001 x235000 x235001) else (gazetteerlaw14_AtlasGoes.j2 k x0 x4 true x233000 x233001 x235000 x235001)) else (gazetteerlaw14_AtlasGoes.j2 k x0 x4 true x233000 x233001 x235000 x235001))) else (gazetteerlaw14_AtlasGoes.l0 k x0 (wrap64 (x4 + 1)) x233000 x233001)
def gazetteerlaw14_AtlasGoes.j2 : Nat → List (S51) → Int → Bool → Int → List (S30) → Int → List (S30) → Option (Bool)
 | 0, _, _, _, _, _, _, _ => none
 | k + 1, x0, x4, x101, x233000, x233001, x235000, x235001 => if x101 = true then (some false) else (gazetteerlaw14_AtlasGoes.l1 k x0 x4 0 x233000 x233001 x235000 x235001)
def gazetteerlaw14_AtlasGoes.l1 : Nat → List (S51) → Int → Int → Int → List (S30) → Int → List (S30) → Option (Bool)
 | 0, _, _, _, _, _, _, _ => none
 | k + 1, x0, x4, x9, x233000, x233001, x235000, x235001 => if x9 < (x235001.length : Int) then (gazetteerlaw14_AtlasGoes.l2 k x0 x4 x9 false 0 x233000 x233001 x235000 x235001) else (gazetteerlaw14_AtlasGoes.l0 k x0 (wrap64 (x4 + 1)) x235000 x235001)
def gazetteerlaw14_AtlasGoes.l2 : Nat → List (S51) → Int → Int → Bool → Int → Int → List (S30) → Int → List (S30) → Option (Bool)
 | 0, _, _, _, _, _, _, _, _, _ => none
 | k + 1, x0, x4, x9, x10, x11, x233000, x233001, x235000, x235001 => if x11 < (x233001.length : Int) then (if x10 = true then (gazetteerlaw14_AtlasGoes.l2 k x0 x4 x9 true (wrap64 (x11 + 1)) x233000 x233001 x235000 x235001) else (if 0 ≤ x11 then (if 0 ≤ x9 then (if x9 < (x235001.length : Int) then (gazetteerlaw14_AtlasGoes.l2 k x0 x4 x9 (((((rd_T30 x233001 x11).f0.f0).toList) == (((rd_T30 x235001 x9).f0.f0).toList) && ((((rd_T30 x233001 x11).f0.f1).toList) == (((rd_T30 x235001 x9).f0.f1).toList))) && (((rd_T30 x233001 x11).f1) == ((rd_T30 x235001 x9).f1) && (((rd_T30 x233001 x11).f2) == ((rd_T30 x235001 x9).f2)))) (wrap64 (x11 + 1)) x233000 x233001 x235000 x235001) else (none)) else (none)) else (none))) else (if x10 = true then (gazetteerlaw14_AtlasGoes.l1 k x0 x4 (wrap64 (x9 + 1)) x233000 x233001 x235000 x235001) else (if 0 ≤ x9 then (if x9 < (x235001.length : Int) then (if ((rd_T30 x235001 x9).f2) = x235000 then (gazetteerlaw14_AtlasGoes.l1 k x0 x4 (wrap64 (x9 + 1)) x233000 x233001 x235000 x235001) else (some false)) else (none)) else (none)))
end
def gazetteerlaw14_AtlasGoes.f (k : Nat) (l0 : List (S51)) : Option (Bool) := (gazetteerlaw14_awake.f k).bind fun t227 => (if t227 = true then (if (l0.length : Int) > 100 then (some true) else ((atlas_First.f 1).bind fun bt228 => (gazetteerlaw14_AtlasGoes.l0 k l0 0 bt228.1 bt228.2))) else (some false))
theorem gazetteerlaw14_AtlasGoes.mono_l : ∀ k, (∀ y0 y1 y2 y3, LeO (gazetteerlaw14_AtlasGoes.l0 k y0 y1 y2 y3) (gazetteerlaw14_AtlasGoes.l0 (k + 1) y0 y1 y2 y3)) ∧ (∀ y0 y1 y2 y3 y4 y5 y6 y7, LeO (gazetteerlaw14_AtlasGoes.j1 k y0 y1 y2 y3 y4 y5 y6 y7) (gazetteerlaw14_AtlasGoes.j1 (k + 1) y0 y1 y2 y3 y4 y5 y6 y7)) ∧ (∀ y0 y1 y2 y3 y4 y5 y6, LeO (gazetteerlaw14_AtlasGoes.j2 k y0 y1 y2 y3 y4 y5 y6) (gazetteerlaw14_AtlasGoes.j2 (k + 1) y0 y1 y2 y3 y4 y5 y6)) ∧ (∀ y0 y1 y2 y3 y4 y5 y6, LeO (gazetteerlaw14_AtlasGoes.l1 k y0 y1 y2 y3 y4 y5 y6) (gazetteerlaw14_AtlasGoes.l1 (k + 1) y0 y1 y2 y3 y4 y5 y6)) ∧ (∀ y0 y1 y2 y3 y4 y5 y6 y7 y8, LeO (gazetteerlaw14_AtlasGoes.l2 k y0 y1 y2 y3 y4 y5 y6 y7 y8) (gazetteerlaw14_AtlasGoes.l2 (k + 1) y0 y1 y2 y3 y4 y5 y6 y7 y8))
 | 0 => ⟨fun _ _ _ _ r h => by simp [gazetteerlaw14_AtlasGoes.l0] at h, fun _ _ _ _ _ _ _ _ r h => by simp [gazetteerlaw14_AtlasGoes.j1] at h, fun _ _ _ _ _ _ _ r h => by simp [gazetteerlaw14_AtlasGoes.j2] at h, fun _ _ _ _ _ _ _ r h => by simp [gazetteerlaw14_AtlasGoes.l1] at h, fun _ _ _ _ _ _ _ _ _ r h => by simp [gazetteerlaw14_AtlasGoes.l2] at h⟩
 | k + 1 => by
  obtain ⟨ih0, ih1, ih2, ih3, ih4⟩ := gazetteerlaw14_AtlasGoes.mono_l k
  refine ⟨?_, ?_, ?_, ?_, ?_⟩
  ·
   intro y0 y1 y2 y3
   unfold gazetteerlaw14_AtlasGoes.l0
   repeat' first
   | (with_reducible exact ih0 _ _ _ _)
   | (with_reducible exact ih1 _ _ _ _ _ _ _ _)
   | (with_reducible exact ih2 _ _ _ _ _ _ _)
   | (with_reducible exact ih3 _ _ _ _ _ _ _)
   | (with_reducible exact ih4 _ _ _ _ _ _ _ _ _)
   | (with_reducible exact atlas_May.mono _ _ _ _)
   | (with_reducible exact atlas_Merge.mono _ _ _ _)
   | (with_reducible exact atlas_Move.mono _ _ _ _ _ _)
   | (with_reducible exact atlas_Split.mono _ _ _ _)
   | (with_reducible exact gazetteerlaw14_awake.mono _)
   | (with_reducible exact LeO.refl _)
   | (with_reducible exact LeO.none _)
   | (with_reducible refine LeO.ite ?_ ?_)
   | (with_reducible refine LeO.bind ?_ (fun _ => ?_))
   | exact ih0 _ _ _ _
   | exact ih1 _ _ _ _ _ _ _ _
   | exact ih2 _ _ _ _ _ _ _
   | exact ih3 _ _ _ _ _ _ _
   | exact ih4 _ _ _ _ _ _ _ _ _
   | exact atlas_May.mono _ _ _ _
   | exact atlas_Merge.mono _ _ _ _
   | exact atlas_Move.mono _ _ _ _ _ _
   | exact atlas_Split.mono _ _ _ _
   | exact gazetteerlaw14_awake.mono _
   | exact LeO.none _
   | refine LeO.ite ?_ ?_
   | refine LeO.bind ?_ (fun _ => ?_)
  ·
   intro y0 y1 y2 y3 y4 y5 y6 y7
   unfold gazetteerlaw14_AtlasGoes.j1
   repeat' first
   | (with_reducible exact ih0 _ _ _ _)
   | (with_reducible exact ih1 _ _ _ _ _ _ _ _)
   | (with_reducible exact ih2 _ _ _ _ _ _ _)
   | (with_reducible exact ih3 _ _ _ _ _ _ _)
   | (with_reducible exact ih4 _ _ _ _ _ _ _ _ _)
   | (with_reducible exact atlas_May.mono _ _ _ _)
   | (with_reducible exact atlas_Merge.mono _ _ _ _)
   | (with_reducible exact atlas_Move.mono _ _ _ _ _ _)
   | (with_reducible exact atlas_Split.mono _ _ _ _)
   | (with_reducible exact gazetteerlaw14_awake.mono _)
   | (with_reducible exact LeO.refl _)
   | (with_reducible exact LeO.none _)
   | (with_reducible refine LeO.ite ?_ ?_)
   | (with_reducible refine LeO.bind ?_ (fun _ => ?_))
   | exact ih0 _ _ _ _
   | exact ih1 _ _ _ _ _ _ _ _
   | exact ih2 _ _ _ _ _ _ _
   | exact ih3 _ _ _ _ _ _ _
   | exact ih4 _ _ _ _ _ _ _ _ _
   | exact atlas_May.mono _ _ _ _
   | exact atlas_Merge.mono _ _ _ _
   | exact atlas_Move.mono _ _ _ _ _ _
   | exact atlas_Split.mono _ _ _ _
   | exact gazetteerlaw14_awake.mono _
   | exact LeO.none _
   | refine LeO.ite ?_ ?_
   | refine LeO.bind ?_ (fun _ => ?_)
  ·
   intro y0 y1 y2 y3 y4 y5 y6
   unfold gazetteerlaw14_AtlasGoes.j2
   repeat' first
   | (with_reducible exact ih0 _ _ _ _)
   | (with_reducible exact ih1 _ _ _ _ _ _ _ _)
   | (with_reducible exact ih2 _ _ _ _ _ _ _)
   | (with_reducible exact ih3 _ _ _ _ _ _ _)
   | (with_reducible exact ih4 _ _ _ _ _ _ _ _ _)
   | (with_reducible exact atlas_May.mono _ _ _ _)
   | (with_reducible exact atlas_Merge.mono _ _ _ _)
   | (with_reducible exact atlas_Move.mono _ _ _ _ _ _)
   | (with_reducible exact atlas_Split.mono _ _ _ _)
   | (with_reducible exact gazetteerlaw14_awake.mono _)
   | (with_reducible exact LeO.refl _)
   | (with_reducible exact LeO.none _)
   | (with_reducible refine LeO.ite ?_ ?_)
   | (with_reducible refine LeO.bind ?_ (fun _ => ?_))
   | exact ih0 _ _ _ _
   | exact ih1 _ _ _ _ _ _ _ _
   | exact ih2 _ _ _ _ _ _ _
   | exact ih3 _ _ _ _ _ _ _
   | exact ih4 _ _ _ _ _ _ _ _ _
   | exact atlas_May.mono _ _ _ _
   | exact atlas_Merge.mono _ _ _ _
   | exact atlas_Move.mono _ _ _ _ _ _
   | exact atlas_Split.mono _ _ _ _
   | exact gazetteerlaw14_awake.mono _
   | exact LeO.none _
   | refine LeO.ite ?_ ?_
   | refine LeO.bind ?_ (fun _ => ?_)
  ·
   intro y0 y1 y2 y3 y4 y5 y6
   unfold gazetteerlaw14_AtlasGoes.l1
   repeat' first
   | (with_reducible exact ih0 _ _ _ _)
   | (with_reducible exact ih1 _ _ _ _ _ _ _ _)
   | (with_reducible exact ih2 _ _ _ _ _ _ _)
   | (with_reducible exact ih3 _ _ _ _ _ _ _)
   | (with_reducible exact ih4 _ _ _ _ _ _ _ _ _)
   | (with_reducible exact atlas_May.mono _ _ _ _)
   | (with_reducible exact atlas_Merge.mono _ _ _ _)
   | (with_reducible exact atlas_Move.mono _ _ _ _ _ _)
   | (with_reducible exact atlas_Split.mono _ _ _ _)
   | (with_reducible exact gazetteerlaw14_awake.mono _)
   | (with_reducible exact LeO.refl _)
   | (with_reducible exact LeO.none _)
   | (with_reducible refine LeO.ite ?_ ?_)
   | (with_reducible refine LeO.bind ?_ (fun _ => ?_))
   | exact ih0 _ _ _ _
   | exact ih1 _ _ _ _ _ _ _ _
   | exact ih2 _ _ _ _ _ _ _
   | exact ih3 _ _ _ _ _ _ _
   | exact ih4 _ _ _ _ _ _ _ _ _
   | exact atlas_May.mono _ _ _ _
   | exact atlas_Merge.mono _ _ _ _
   | exact atlas_Move.mono _ _ _ _ _ _
   | exact atlas_Split.mono _ _ _ _
   | exact gazetteerlaw14_awake.mono _
   | exact LeO.none _
   | refine LeO.ite ?_ ?_
   | refine LeO.bind ?_ (fun _ => ?_)
  ·
   intro y0 y1 y2 y3 y4 y5 y6 y7 y8
   unfold gazetteerlaw14_AtlasGoes.l2
   repeat' first
   | (with_reducible exact ih0 _ _ _ _)
   | (with_reducible exact ih1 _ _ _ _ _ _ _ _)
   | (with_reducible exact ih2 _ _ _ _ _ _ _)
   | (with_reducible exact ih3 _ _ _ _ _ _ _)
   | (with_reducible exact ih4 _ _ _ _ _ _ _ _ _)
   | (with_reducible exact atlas_May.mono _ _ _ _)
   | (with_reducible exact atlas_Merge.mono _ _ _ _)
   | (with_reducible exact atlas_Move.mono _ _ _ _ _ _)
   | (with_reducible exact atlas_Split.mono _ _ _ _)
   | (with_reducible exact gazetteerlaw14_awake.mono _)
   | (with_reducible exact LeO.refl _)
   | (with_reducible exact LeO.none _)
   | (with_reducible refine LeO.ite ?_ ?_)
   | (with_reducible refine LeO.bind ?_ (fun _ => ?_))
   | exact ih0 _ _ _ _
   | exact ih1 _ _ _ _ _ _ _ _
   | exact ih2 _ _ _ _ _ _ _
   | exact ih3 _ _ _ _ _ _ _
   | exact ih4 _ _ _ _ _ _ _ _ _
   | exact atlas_May.mono _ _ _ _
   | exact atlas_Merge.mono _ _ _ _
   | exact atlas_Move.mono _ _ _ _ _ _
   | exact atlas_Split.mono _ _ _ _
   | exact gazetteerlaw14_awake.mono _
   | exact LeO.none _
   | refine LeO.ite ?_ ?_
   | refine LeO.bind ?_ (fun _ => ?_)
theorem gazetteerlaw14_AtlasGoes.mono : ∀ a0 k, LeO (gazetteerlaw14_AtlasGoes.f k a0) (gazetteerlaw14_AtlasGoes.f (k + 1) a0) := by
 intro a0 k
 obtain ⟨ih0, ih1, ih2, ih3, ih4⟩ := gazetteerlaw14_AtlasGoes.mono_l k
 unfold gazetteerlaw14_AtlasGoes.f
 repeat' first
   | (with_reducible exact ih0 _ _ _ _)
   | (with_reducible exact ih1 _ _ _ _ _ _ _ _)
   | (with_reducible exact ih2 _ _ _ _ _ _ _)
   | (with_reducible exact ih3 _ _ _ _ _ _ _)
   | (with_reducible exact ih4 _ _ _ _ _ _ _ _ _)
   | (with_reducible exact atlas_May.mono _ _ _ _)
   | (with_reducible exact atlas_Merge.mono _ _ _ _)
   | (with_reducible exact atlas_Move.mono _ _ _ _ _ _)
   | (with_reducible exact atlas_Split.mono _ _ _ _)
   | (with_reducible exact gazetteerlaw14_awake.mono _)
   | (with_reducible exact LeO.refl _)
   | (with_reducible exact LeO.none _)
   | (with_reducible refine LeO.ite ?_ ?_)
   | (with_reducible refine LeO.bind ?_ (fun _ => ?_))
   | exact ih0 _ _ _ _
   | exact ih1 _ _ _ _ _ _ _ _
   | exact ih2 _ _ _ _ _ _ _
   | exact ih3 _ _ _ _ _ _ _
   | exact ih4 _ _ _ _ _ _ _ _ _
   | exact atlas_May.mono _ _ _ _
   | exact atlas_Merge.mono _ _ _ _
   | exact atlas_Move.mono _ _ _ _ _ _
   | exact atlas_Split.mono _ _ _ _
   | exact gazetteerlaw14_awake.mono _
   | exact LeO.none _
   | refine LeO.ite ?_ ?_
   | refine LeO.bind ?_ (fun _ => ?_)
def gazetteerlaw14_AtlasGoes.T14 : Bool × List (List Nat × List Nat) := (true, [([], []), ([], []), ([1], [1]), ([], []), ([], []), ([3, 4], [3, 4]), ([5], [5]), ([6], [6]), ([7], [7]), ([8], [8]), ([9], [9]), ([0, 2, 10], [0, 2, 10]), ([11], [11]), ([12], [12]), ([12], [12]), ([12], [12]), ([13, 11, 0, 1, 2, 3, 4, 5, 6, 7, 8, 9, 10, 11, 12, 13], [13]), ([14, 16, 0, 1, 2, 3, 4, 5, 6, 7, 8, 9, 10, 11, 12, 13, 14, 16], [14]), ([15, 17, 0, 1, 2, 3, 4, 5, 6, 7, 8, 9, 10, 11, 12, 13, 14, 15, 16, 17], [15])])
def gazetteerlaw14_AtlasGoes.B14 : List Nat := [0, 0, 2, 0, 0, 24, 56, 120, 248, 504, 1016, 2047, 4095, 8191, 8191, 8191, 16383, 98303, 262143]
theorem gazetteerlaw14_AtlasGoes.tab14 : rtab .any (opsOf Try.f5 14) = gazetteerlaw14_AtlasGoes.T14 := by kernel_rfl
theorem gazetteerlaw14_AtlasGoes.bits14 : waitsOk gazetteerlaw14_AtlasGoes.T14.2 gazetteerlaw14_AtlasGoes.B14 = true := by kernel_rfl
def gazetteerlaw14_AtlasGoes.T16 : Bool × List (List Nat × List Nat) := (true, [([], []), ([], []), ([], []), ([1, 2], [1, 2]), ([3], [3]), ([4], [4]), ([5], [5]), ([6], [6]), ([], []), ([], []), ([8, 9], [8, 9]), ([10], [10]), ([11], [11]), ([7, 12], [7, 12]), ([13], [13]), ([0, 14], [0, 14]), ([15], [15]), ([16], [16]), ([16], [16]), ([16], [16]), ([17, 15, 0, 1, 2, 3, 4, 5, 6, 7, 8, 9, 10, 11, 12, 13, 14, 15, 16, 17], [17]), ([18, 20, 0, 1, 2, 3, 4, 5, 6, 7, 8, 9, 10, 11, 12, 13, 14, 15, 16, 17, 18, 20], [18]), ([19, 21, 0, 1, 2, 3, 4, 5, 6, 7, 8, 9, 10, 11, 12, 13, 14, 15, 16, 17, 18, 19, 20, 21], [19])])
def gazetteerlaw14_AtlasGoes.B16 : List Nat := [0, 0, 0, 6, 14, 30, 62, 126, 0, 0, 768, 1792, 3840, 8190, 16382, 32767, 65535, 131071, 131071, 131071, 262143, 1572863, 4194303]
theorem gazetteerlaw14_AtlasGoes.tab16 : rtab .any (opsOf Try.f5 16) = gazetteerlaw14_AtlasGoes.T16 := by kernel_rfl
theorem gazetteerlaw14_AtlasGoes.bits16 : waitsOk gazetteerlaw14_AtlasGoes.T16.2 gazetteerlaw14_AtlasGoes.B16 = true := by kernel_rfl
def gazetteerlaw14_AtlasGoes.T29 : Bool × List (List Nat × List Nat) := (true, [([], []), ([0], [0]), ([1], [1]), ([2, 1], [1, 2]), ([1], [1]), ([3, 4, 1], [1, 3, 4]), ([5, 1], [1, 5]), ([1], [1]), ([7, 1], [1, 7]), ([1], [1]), ([8, 9, 1], [1, 8, 9]), ([10, 1], [1, 10]), ([6, 11, 1], [1, 6, 11]), ([1, 12], [1, 12]), ([13, 1, 0, 1, 2, 3, 4, 5, 6, 7, 8, 9, 10, 11, 12, 13], [0, 13])])
def gazetteerlaw14_AtlasGoes.B29 : List Nat := [0, 1, 3, 7, 3, 31, 63, 3, 131, 3, 899, 1923, 4095, 8191, 16383]
theorem gazetteerlaw14_AtlasGoes.tab29 : rtab .any (opsOf Try.f5 29) = gazetteerlaw14_AtlasGoes.T29 := by kernel_rfl
theorem gazetteerlaw14_AtlasGoes.bits29 : waitsOk gazetteerlaw14_AtlasGoes.T29.2 gazetteerlaw14_AtlasGoes.B29 = true := by kernel_rfl
def gazetteerlaw14_AtlasGoes.T30 : Bool × List (List Nat × List Nat) := (true, [([], []), ([0], [0]), ([1], [1]), ([2], [2]), ([3, 2], [2, 3]), ([2], [2]), ([4, 5, 2], [2, 4, 5]), ([6, 2], [2, 6]), ([7, 2], [2, 7]), ([2], [2]), ([9, 2], [2, 9]), ([8, 10, 2], [2, 8, 10]), ([2, 11], [2, 11])])
def gazetteerlaw14_AtlasGoes.B30 : List Nat := [0, 1, 3, 7, 15, 7, 63, 127, 255, 7, 519, 2047, 4095]
theorem gazetteerlaw14_AtlasGoes.tab30 : rtab .any (opsOf Try.f5 30) = gazetteerlaw14_AtlasGoes.T30 := by kernel_rfl
theorem gazetteerlaw14_AtlasGoes.bits30 : waitsOk gazetteerlaw14_AtlasGoes.T30.2 gazetteerlaw14_AtlasGoes.B30 = true := by kernel_rfl
set_option maxHeartbeats 8000000 in
set_option maxRecDepth 100000 in
theorem gazetteerlaw14_AtlasGoes.calls (k : Nat) (A0 : Option Addr) (c0 : Nat) (l0 : List (S51)) (r : Bool) (w : World) (hr0 : Kd.C k51 w A0 l0.length l0) (hc0 : l0.length ≤ c0) (HLT0 : r = true) (h : gazetteerlaw14_AtlasGoes.f k l0 = some r) :
  Calls Try.prog 5 #[.slice A0 l0.length c0] w fun e w' => e = .returned (.bool r) ∧ Below w.heap.size w w' := by
 have hu35 := Try.underlying35
 have hu30 := Try.underlying30
 have HLT := Aside0.mk HLT0
 clear HLT0
 have HR0 := Aside0.mk hr0
 have HC0 := Aside0.mk hc0
 clear hr0 hc0
 have HB := Aside0.mk (Below.refl w.heap.size w)
 have H : ((gazetteerlaw14_awake.f k).bind fun t227 => (if t227 = true then (if (l0.length : Int) > 100 then (some true) else ((atlas_First.f 1).bind fun bt228 => (gazetteerlaw14_AtlasGoes.l0 k l0 0 bt228.1 bt228.2))) else (some false))) = some r := h
 clear h
 replace H := Option.bind_eq_some_iff.mp H
 obtain ⟨t227, A20, H⟩ := H
 replace H : (if t227 = true then (if (l0.length : Int) > 100 then (some true) else ((atlas_First.f 1).bind fun bt228 => (gazetteerlaw14_AtlasGoes.l0 k l0 0 bt228.1 bt228.2))) else (some false)) = some r := H
 have A2 := Aside0.mk A20
 clear A20
 by_cases c3 : t227 = true
 ·
  subst c3
  have H1 : (if (l0.length : Int) > 100 then (some true) else ((atlas_First.f 1).bind fun bt228 => (gazetteerlaw14_AtlasGoes.l0 k l0 0 bt228.1 bt228.2))) = some r := by rw [if_pos rfl] at H; exact H
  clear H
  have H := H1
  clear H1
  by_cases c4 : (l0.length : Int) > 100
  ·
   rw [if_pos c4] at H
   have c4b0 : decide (100 < (l0.length : Int)) = true := decide_eq_true c4
   have c4b1 : decide (100 < l0.length) = true := decide_eq_true (by omega)
   clear c4
   obtain rfl := Option.some.inj H
   go_enter Try.func5, Try.ntmps5
   go_wp2_with (first | ((with_reducible refine gate_callee (f := 11) rfl ?_); refine goesL_ (some 12) rfl rfl Try.func11 (by kernel_rfl) rfl #[] rfl (by (try simp only [List.map_toArray, List.map_cons, List.map_nil]); first | done | rfl | (simp only [List.length_drop, List.length_take]; done) | (simp only [List.length_drop, List.length_take]; rfl)) ?_; (with_reducible refine (gazetteerlaw14_awake.calls k  true _ A2.out).mono ?_); rintro e w5 ⟨rfl, hb⟩; refine ⟨_, rfl, ?_⟩; have n0_ := Aside0.mk (below_step (by repeat (first | (with_reducible first | exact HB.out | apply below_alloc | apply pw_below_drewN | apply below_drew1) | exact HB.out)) hb); clear HB; have HB := n0_; clear n0_; (try clear hb); (try clear hb2); (try clear hk); (try clear hi)))
   go_ret
   exact ⟨by first | rfl | (simp [errW_none, errW_some] <;> rfl) | (simp [*, errW_none, errW_some] <;> rfl), by repeat (first | (with_reducible first | exact HB.out | apply below_alloc | apply pw_below_drewN | apply below_drew1) | exact HB.out)⟩
  ·
   rw [if_neg c4] at H
   have c4b0 : decide (100 < (l0.length : Int)) = false := decide_eq_false c4
   have c4b1 : decide (100 < l0.length) = false := decide_eq_false (by omega)
   clear c4
   replace H := Option.bind_eq_some_iff.mp H
   obtain ⟨⟨t228, t229⟩, A60, H⟩ := H
   replace H : (gazetteerlaw14_AtlasGoes.l0 k l0 0 t228 t229) = some r := H
   have A6 := Aside0.mk A60
   clear A60
   have H' := Aside0.mk H
   clear H
   go_enter Try.func5, Try.ntmps5
   go_wp2_with (first | ((with_reducible refine gate_callee (f := 11) rfl ?_); refine goesL_ (some 12) rfl rfl Try.func11 (by kernel_rfl) rfl #[] rfl (by (try simp only [List.map_toArray, List.map_cons, List.map_nil]); first | done | rfl | (simp only [List.length_drop, List.length_take]; done) | (simp only [List.length_drop, List.length_take]; rfl)) ?_; (with_reducible refine (gazetteerlaw14_awake.calls k  true _ A2.out).mono ?_); rintro e w7 ⟨rfl, hb⟩; refine ⟨_, rfl, ?_⟩; have n0_ := Aside0.mk (below_step (by repeat (first | (with_reducible first | exact HB.out | apply below_alloc | apply pw_below_drewN | apply below_drew1) | exact HB.out)) hb); clear HB; have HB := n0_; clear n0_; (try clear hb); (try clear hb2); (try clear hk); (try clear hi)) | ((with_reducible refine gate_callee (f := 24) rfl ?_); refine goesL_ (some 17) rfl rfl Try.func24 (by kernel_rfl) rfl #[.int .i64 1] rfl (by (try simp only [List.map_toArray, List.map_cons, List.map_nil]); first | done | rfl | (simp only [List.length_drop, List.length_take]; done) | (simp only [List.length_drop, List.length_take]; rfl)) ?_; (with_reducible refine (atlas_First.calls 1 t228 t229 _ A6.out).mono ?_); rintro e w8 ⟨v230, rfl, ho0, hb⟩; refine ⟨_, rfl, ?_⟩; have n0_ := Aside0.mk (Kd.R_lower ho0 (below_size (by repeat (first | (with_reducible first | exact HB.out | apply below_alloc | apply pw_below_drewN | apply below_drew1) | exact HB.out)))); have n1_ := Aside0.mk (below_step (by repeat (first | (with_reducible first | exact HB.out | apply below_alloc | apply pw_below_drewN | apply below_drew1) | exact HB.out)) hb); clear HB; have HO231 := n0_; have HB := n1_; clear n0_ n1_; (try clear hb); (try clear hb2); (try clear hk); (try clear hi); (try clear ho0)) | ((with_reducible refine gate_dst (N := 3) rfl ?_); (try (refine gate_guard (by rfl) ?_; dsimp only)); refine box_event ?hg (N := 3) ?hd (cs := #[.int .i64 0, .slice none 0 0]) (t := 35) ?hr ?_; (case hd => rfl); (case hg => rfl); (case hr => first | (go_simp; done) | (go_simp; rfl)); intro gb232 hg w9 hbox hb; have n0_ := Aside0.mk (Kd.R_below (by (with_reducible repeat (first | apply Kd.R_alloc | apply Kd.R_drewN | apply Kd.R_drew)); exact HO231.out) hb); have n1_ := Aside0.mk (below_step (by repeat (first | (with_reducible first | exact HB.out | apply below_alloc | apply pw_below_drewN | apply below_drew1) | exact HB.out)) hb); have n2_ := Aside0.mk (hbox); have n3_ := Aside0.mk ((by rw [hg]; exact (below_size (by repeat (first | (with_reducible first | exact HB.out | apply below_alloc | apply pw_below_drewN | apply below_drew1) | exact HB.out))) : w.heap.size ≤ gb232)); have n4_ := Aside0.mk ((by rw [hg]; exact (below_size (by repeat (first | (with_reducible first | exact HB.out | apply below_alloc | apply pw_below_drewN | apply below_drew1) | exact HB.out))) : w.heap.size ≤ gb232)); clear HO231; clear HB; have HO231 := n0_; have HB := n1_; have BK232 := n2_; have GW232 := n3_; have GE232 := n4_; clear n0_ n1_ n2_ n3_ n4_; clear hb hbox hg; have hcz10_0 : w9.cell? ⟨gb232, 0, none⟩ = some (.int .i64 0) := (blk_cell BK232.out 0).trans rfl; have hcz10_1 : w9.cell? ⟨gb232, 1, none⟩ = some (.slice none 0 0) := (blk_cell BK232.out 1).trans rfl; have hfz10_0 := blk_frozen BK232.out 0; have hfz10_1 := blk_frozen BK232.out 1; obtain ⟨Ao11, co11, eo11⟩ := Kd.R_slice HO231.out; subst eo11))
   go_loopg [4] k (fun kq v4 w' => ∃ (x4_1 : Int) (x233000_1 : Int) (x233001_1 : List (S30)) (u233001 : Value), v4 = .int .i64 x4_1 ∧ Aside0 (gazetteerlaw14_AtlasGoes.l0 kq l0 x4_1 x233000_1 x233001_1 = some r) ∧ Aside0 (kq ≤ k) ∧ Aside0 (Kd.R k30 30 w' w.heap.size (fun _ => True) u233001 x233001_1) ∧ Aside0 (w'.heap[gb232]? = some (.cells #[.int .i64 x233000_1, u233001] 35 (0, 0))) ∧ Aside0 (Below w.heap.size w w'))
   case atStart => exact ⟨(0), (t228), (t229), (.slice Ao11 t229.length co11), (by first | rfl | (simp; done) | (simp [*]; done)), H', ⟨Nat.le_refl _⟩, ⟨by (with_reducible repeat (first | apply Kd.R_alloc | apply Kd.R_drewN | apply Kd.R_drew)); exact Kd.R_mono (Kd.R_far (p := ⟨gb232, 1, none⟩) (Kd.R_far (p := ⟨gb232, 0, none⟩) (Kd.R_types HO231.out BK232.out (by decide)) (fun _ hk => hk.2) (.int .i64 t228)) (fun _ hk => hk.2) (.slice Ao11 t229.length co11)) (fun _ hk => trivial)⟩, ⟨by (with_reducible repeat (first | refine blk_drewN ?_ _ | refine blk_drew ?_ | refine blk_alloc ?_ _)); refine blk_put (cs := #[.int .i64 t228, .slice none 0 0]) ?_ 1 _ rfl; (with_reducible repeat (first | refine blk_drewN ?_ _ | refine blk_drew ?_ | refine blk_alloc ?_ _)); refine blk_put (cs := #[.int .i64 0, .slice none 0 0]) ?_ 0 _ rfl; (with_reducible repeat (first | refine blk_drewN ?_ _ | refine blk_drew ?_ | refine blk_alloc ?_ _)); exact BK232.out⟩, ⟨by repeat (first | (with_reducible first | exact HB.out | apply below_alloc | apply pw_below_drewN | apply below_drew1 | refine below_set ?_ GE232.out) | exact HB.out)⟩⟩
   case round =>
    clear H'
    try clear c1
    try clear c2
    try clear p2
    try clear c3
    try clear c4
    try clear c4b0
    try clear c4b1
    try clear c5
    try clear c11
    try clear hcz10_0
    try clear hcz10_1
    try clear hfz10_0
    try clear hfz10_1
    obtain ⟨x4_1, x233000_1, x233001_1, u233001, rfl, HA, HK1, HO_233001, BK232, HB⟩ := hrel
    cases gk with
    | zero => exact absurd HA.out (by simp [gazetteerlaw14_AtlasGoes.l0])
    | succ k1 =>
     have H := HA.out
     clear HA
     simp only [gazetteerlaw14_AtlasGoes.l0] at H
     by_cases c12 : x4_1 < (l0.length : Int)
     ·
      rw [if_pos c12] at H
      have c12b0 : decide (x4_1 < (l0.length : Int)) = true := decide_eq_true c12
      clear c12
      by_cases c13 : 0 ≤ x4_1
      ·
       rw [if_pos c13] at H
       have c13b0 : decide (0 ≤ x4_1) = true := decide_eq_true c13
       clear c13
       have HC14 := Aside0.mk H
       clear H
       have p233 : 0 ≤ (x4_1 : Int) := of_decide_eq_true (by first | (with_reducible assumption) | assumption)
       have q233 : x4_1 < (l0.length : Int) := of_decide_eq_true (by first | (with_reducible assumption) | assumption)
       obtain ⟨ad233, e233, hx233_0, hx233_1, hx233_2⟩ := at_T51 HR0.out x4_1 p233 q233
       cases e233
       replace hx233_0 := (HB.out.cell (World.block_lt_of_cell? w _ hx233_0)).trans hx233_0
       replace hx233_1 := (HB.out.cell (World.block_lt_of_cell? w _ hx233_1)).trans hx233_1
       replace hx233_2 := (HB.out.cell (World.block_lt_of_cell? w _ hx233_2)).trans hx233_2
       replace p233 := eq_true p233
       replace q233 := eq_true q233
       go_upto_block 2 with (first | ((with_reducible refine gate_dst (N := 6) rfl ?_); (try (refine gate_guard (by rfl) ?_; dsimp only)); refine box_event ?hg (N := 6) ?hd (cs := #[.int .i64 0, .slice none 0 0]) (t := 35) ?hr ?_; (case hd => rfl); (case hg => rfl); (case hr => first | (go_simp; done) | (go_simp; rfl)); intro gb234 hg w15 hbox hb; have n0_ := Aside0.mk (Kd.R_below (by (with_reducible repeat (first | apply Kd.R_alloc | apply Kd.R_drewN | apply Kd.R_drew)); exact HO_233001.out) hb); have n1_ := Aside0.mk (blk_below (g := gb232) (o := .cells #[.int .i64 x233000_1, u233001] 35 (0, 0)) (by (with_reducible repeat (first | refine blk_drewN ?_ _ | refine blk_drew ?_ | refine blk_alloc ?_ _)); exact BK232.out) hb); have n2_ := Aside0.mk (below_step (by repeat (first | (with_reducible first | exact HB.out | apply below_alloc | apply pw_below_drewN | apply below_drew1 | refine below_set ?_ GE232.out) | exact HB.out)) hb); have n3_ := Aside0.mk (hbox); have n4_ := Aside0.mk ((by rw [hg]; exact (below_size (by repeat (first | (with_reducible first | exact HB.out | apply below_alloc | apply pw_below_drewN | apply below_drew1 | refine below_set ?_ GE232.out) | exact HB.out))) : w.heap.size ≤ gb234)); have n5_ := Aside0.mk ((by rw [hg]; exact (below_size (by repeat (first | (with_reducible first | exact HB.out | apply below_alloc | apply pw_below_drewN | apply below_drew1 | refine below_set ?_ GE232.out) | exact HB.out))) : w.heap.size ≤ gb234)); have n6_ := Aside0.mk ((by rw [hg]; exact Nat.ne_of_lt (blk_lt (g := gb232) (o := .cells #[.int .i64 x233000_1, u233001] 35 (0, 0)) (by (with_reducible repeat (first | refine blk_drewN ?_ _ | refine blk_drew ?_ | refine blk_alloc ?_ _)); exact BK232.out)) : gb232 ≠ gb234)); have n7_ := Aside0.mk ((by rw [hg]; exact Nat.ne_of_gt (blk_lt (g := gb232) (o := .cells #[.int .i64 x233000_1, u233001] 35 (0, 0)) (by (with_reducible repeat (first | refine blk_drewN ?_ _ | refine blk_drew ?_ | refine blk_alloc ?_ _)); exact BK232.out)) : gb234 ≠ gb232)); clear HO_233001; clear BK232; clear HB; have HO_233001 := n0_; have BK232 := n1_; have HB := n2_; have BK234 := n3_; have GW234 := n4_; have GE234 := n5_; have NB232_234 := n6_; have NB234_232 := n7_; clear n0_ n1_ n2_ n3_ n4_ n5_ n6_ n7_; clear hb hbox hg; have p235 : 0 ≤ (x4_1 : Int) := of_decide_eq_true (by first | (with_reducible assumption) | assumption); have q235 : x4_1 < (l0.length : Int) := of_decide_eq_true (by first | (with_reducible assumption) | assumption); obtain ⟨ad235, e235, hx235_0, hx235_1, hx235_2⟩ := at_T51 HR0.out x4_1 p235 q235; obtain rfl : ad233 = ad235 := (by injection e235); replace hx235_0 := (HB.out.cell (World.block_lt_of_cell? w _ hx235_0)).trans hx235_0; replace hx235_1 := (HB.out.cell (World.block_lt_of_cell? w _ hx235_1)).trans hx235_1; replace hx235_2 := (HB.out.cell (World.block_lt_of_cell? w _ hx235_2)).trans hx235_2; replace p235 := eq_true p235; replace q235 := eq_true q235))
       (try simp only [Act.put, List.setIfInBounds_toArray, List.set_cons_zero, List.set_cons_succ])
       go_cut [7, 8] (fun v7 v8 wc => ∃ (kq : Nat) (x7_13 : List Int) (x8_13 : Int) (x235000_13 : Int) (x235001_13 : List (S30)) (u235001 : Value), v8 = .int .i64 x8_13 ∧ Aside0 (gazetteerlaw14_AtlasGoes.j1 kq l0 x4_1 x7_13 x8_13 x233000_1 x233001_1 x235000_13 x235001_13 = some r) ∧ Aside0 (kq ≤ k1) ∧ Aside0 (Kd.R (Kd.int .i64) 3 wc w.heap.size (fun _ => True) v7 x7_13) ∧ Aside0 (Kd.R k30 30 wc w.heap.size (fun k_ => some k_ ≠ (u235001 : Value).ownBlock) u233001 x233001_1) ∧ Aside0 (Kd.R k30 30 wc w.heap.size (fun k_ => some k_ ≠ (u233001 : Value).ownBlock) u235001 x235001_13) ∧ Aside0 (wc.heap[gb232]? = some (.cells #[.int .i64 x233000_1, u233001] 35 (0, 0))) ∧ Aside0 (wc.heap[gb234]? = some (.cells #[.int .i64 x235000_13, u235001] 35 (0, 0))) ∧ Aside0 (Below w.heap.size w wc))
       case first =>
        have H := HC14.out
        clear HC14
        by_cases c16 : (Int.tmod ((rd_T51 l0 x4_1).f0) 3) = 0
        ·
         rw [if_pos c16] at H
         have c16b0 : ((Int.tmod ((rd_T51 l0 x4_1).f0) 3) == 0) = true := beq_iff_eq.mpr c16
         have c16b1 : ((Int.tmod ((rd_T51 l0 x4_1).f0) 3) != 0) = false := bne_eq_false_iff_eq.mpr c16
         clear c16
         (first | rw [c16b0] | (simp only [i64_w, i32_w]; rw [c16b0]) | skip)
         obtain ⟨y238, hy238⟩ : ∃ y_ : List Int, y_ = (([(97 + (Int.tmod ((rd_T51 l0 x4_1).f1) 26)) % 256, (rd_T51 l0 x4_1).f2] : List Int)) := ⟨_, rfl⟩
         replace H : ((atlas_Split.f k1 x233000_1 x233001_1 (strOfNums y238)).bind fun bt241 => (gazetteerlaw14_AtlasGoes.j1 k1 l0 x4_1 bt241.2.2.1 bt241.2.2.2 x233000_1 x233001_1 bt241.1 bt241.2.1)) = some r := by first | (rw [hy238]; with_reducible exact H) | (have H2_ := (Option.bind_some _ _).symm.trans H; rw [hy238]; with_reducible exact H2_) | (have H2_ := (Option.bind_some _ _).symm.trans H; with_reducible exact H2_) | with_reducible exact H | (rw [hy238]; exact H) | exact H
         have Ny238 := Aside0.mk hy238
         clear hy238
         replace H := Option.bind_eq_some_iff.mp H
         obtain ⟨⟨t241, t242, t245, t248⟩, A170, H⟩ := H
         replace H : (gazetteerlaw14_AtlasGoes.j1 k1 l0 x4_1 t245 t248 x233000_1 x233001_1 t241 t242) = some r := H
         have A17 := Aside0.mk A170
         clear A170
         have H' := Aside0.mk H
         clear H
         try go_wp2
         have n0_ := Aside0.mk (Kd.R_drew HO_233001.out)
         have n1_ := Aside0.mk (blk_drew BK232.out)
         have n2_ := Aside0.mk (blk_drew BK234.out)
         have n3_ := Aside0.mk (below_drew1 HB.out)
         clear HO_233001
         clear BK232
         clear BK234
         clear HB
         have HO_233001 := n0_
         have BK232 := n1_
         have BK234 := n2_
         have HB := n3_
         clear n0_ n1_ n2_ n3_
         have p236 : 0 ≤ (x4_1 : Int) := of_decide_eq_true (by first | (with_reducible assumption) | assumption)
         have q236 : x4_1 < (l0.length : Int) := of_decide_eq_true (by first | (with_reducible assumption) | assumption)
         obtain ⟨ad236, e236, hx236_0, hx236_1, hx236_2⟩ := at_T51 HR0.out x4_1 p236 q236
         have hw236_2 := hx236_2
         have hw236_1 := hx236_1
         have hw236_0 := hx236_0
         obtain rfl : ad233 = ad236 := (by injection e236)
         replace hx236_0 := (HB.out.cell (World.block_lt_of_cell? w _ hx236_0)).trans hx236_0
         replace hx236_1 := (HB.out.cell (World.block_lt_of_cell? w _ hx236_1)).trans hx236_1
         replace hx236_2 := (HB.out.cell (World.block_lt_of_cell? w _ hx236_2)).trans hx236_2
         replace p236 := eq_true p236
         replace q236 := eq_true q236
         have p237 : 0 ≤ (x4_1 : Int) := of_decide_eq_true (by first | (with_reducible assumption) | assumption)
         have q237 : x4_1 < (l0.length : Int) := of_decide_eq_true (by first | (with_reducible assumption) | assumption)
         obtain ⟨ad237, e237, hx237_0, hx237_1, hx237_2⟩ := at_T51 HR0.out x4_1 p237 q237
         have hw237_2 := hx237_2
         have hw237_1 := hx237_1
         have hw237_0 := hx237_0
         obtain rfl : ad233 = ad237 := (by injection e237)
         replace hx237_0 := (HB.out.cell (World.block_lt_of_cell? w _ hx237_0)).trans hx237_0
         replace hx237_1 := (HB.out.cell (World.block_lt_of_cell? w _ hx237_1)).trans hx237_1
         replace hx237_2 := (HB.out.cell (World.block_lt_of_cell? w _ hx237_2)).trans hx237_2
         replace p237 := eq_true p237
         replace q237 := eq_true q237
         refine start_ (n := 23) (S := fun w' => w'.cell? ⟨gb232, 0, none⟩ = some (.int .i64 x233000_1) ∧ w'.cell? ⟨gb232, 1, none⟩ = some (u233001) ∧ w'.cell? (ad233.add ((x4_1).toNat * 3)) = some (.int .u8 ((rd_T51 l0 x4_1).f0)) ∧ w'.cell? ⟨(ad233.add ((x4_1).toNat * 3)).block, (ad233.add ((x4_1).toNat * 3)).off + 1, none⟩ = some (.int .u8 ((rd_T51 l0 x4_1).f1)) ∧ w'.cell? ⟨(ad233.add ((x4_1).toNat * 3)).block, (ad233.add ((x4_1).toNat * 3)).off + 2, none⟩ = some (.int .u8 ((rd_T51 l0 x4_1).f2)) ∧ w'.cell? (ad233.add ((x4_1).toNat * 3)) = some (.int .u8 ((rd_T51 l0 x4_1).f0)) ∧ w'.cell? ⟨(ad233.add ((x4_1).toNat * 3)).block, (ad233.add ((x4_1).toNat * 3)).off + 1, none⟩ = some (.int .u8 ((rd_T51 l0 x4_1).f1)) ∧ w'.cell? ⟨(ad233.add ((x4_1).toNat * 3)).block, (ad233.add ((x4_1).toNat * 3)).off + 2, none⟩ = some (.int .u8 ((rd_T51 l0 x4_1).f2))) (ds := []) #[false, false, false, false, false, false, false, false, false, false, false, false, false, false, false, false, false, false, false, false, false, false, false] (by kernel_rfl) rfl rfl ⟨(blk_cell BK232.out 0).trans rfl, (blk_cell BK232.out 1).trans rfl, ((HB.out.cell (World.block_lt_of_cell? w _ hw236_0)).trans hw236_0), ((HB.out.cell (World.block_lt_of_cell? w _ hw236_1)).trans hw236_1), ((HB.out.cell (World.block_lt_of_cell? w _ hw236_2)).trans hw236_2), ((HB.out.cell (World.block_lt_of_cell? w _ hw237_0)).trans hw237_0), ((HB.out.cell (World.block_lt_of_cell? w _ hw237_1)).trans hw237_1), ((HB.out.cell (World.block_lt_of_cell? w _ hw237_2)).trans hw237_2)⟩ (fun hHeld => ?_); refine with_tabW gazetteerlaw14_AtlasGoes.tab16 gazetteerlaw14_AtlasGoes.bits16 (fun HT_ HW_ => ?_)
         generalize w15.drew = w18 at HO_233001 BK232 BK234 HB hx236_0 hx236_1 hx236_2 hx237_0 hx237_1 hx237_2 hHeld ⊢
         refine pure_ (i := 1) (N := some 56) (v := ?_) (a' := ?_) #[false, true, false, false, false, false, false, false, false, false, false, false, false, false, false, false, false, false, false, false, false, false, false] rfl rfl (any_of HT_.out (by kernel_rfl)) (fun _ _ _ h => h) (Or.inl ⟨by rfl, ?_⟩) ?_ ?_
         rotate_left
         ·
          intro w'
          go_simp
          with_reducible rfl
         rotate_left
         ·
          simp only [Act.put, List.setIfInBounds_toArray, List.set_cons_zero, List.set_cons_succ, i64_w, i32_w]
          rfl
         refine pure_ (i := 2) (N := some 57) (v := ?_) (a' := ?_) #[false, true, true, false, false, false, false, false, false, false, false, false, false, false, false, false, false, false, false, false, false, false, false] rfl rfl (any_of HT_.out (by kernel_rfl)) (fun _ _ _ h => h) (Or.inl ⟨by rfl, ?_⟩) ?_ ?_
         rotate_left
         ·
          intro w'
          go_simp
          with_reducible rfl
         rotate_left
         ·
          simp only [Act.put, List.setIfInBounds_toArray, List.set_cons_zero, List.set_cons_succ, i64_w, i32_w]
          rfl
         refine pure_ (i := 3) (N := some 58) (v := ?_) (a' := ?_) #[false, true, true, true, false, false, false, false, false, false, false, false, false, false, false, false, false, false, false, false, false, false, false] rfl rfl (any_of HT_.out (by kernel_rfl)) (fun _ _ _ h => h) (Or.inl ⟨by rfl, ?_⟩) ?_ ?_
         rotate_left
         ·
          intro w'
          go_simp
          with_reducible rfl
         rotate_left
         ·
          simp only [Act.put, List.setIfInBounds_toArray, List.set_cons_zero, List.set_cons_succ, i64_w, i32_w]
          rfl
         refine pure_ (i := 4) (N := some 59) (v := ?_) (a' := ?_) #[false, true, true, true, true, false, false, false, false, false, false, false, false, false, false, false, false, false, false, false, false, false, false] rfl rfl (any_of HT_.out (by kernel_rfl)) (fun _ _ _ h => h) (Or.inl ⟨by rfl, ?_⟩) ?_ ?_
         rotate_left
         ·
          intro w'
          go_simp
          with_reducible rfl
         rotate_left
         ·
          simp only [Act.put, List.setIfInBounds_toArray, List.set_cons_zero, List.set_cons_succ, i64_w, i32_w]
          rfl
         refine pure_ (i := 8) (N := some 63) (v := ?_) (a' := ?_) #[false, true, true, true, true, false, false, false, true, false, false, false, false, false, false, false, false, false, false, false, false, false, false] rfl rfl (any_of HT_.out (by kernel_rfl)) (fun _ _ _ h => h) (Or.inl ⟨by rfl, ?_⟩) ?_ ?_
         rotate_left
         ·
          intro w'
          go_simp
          with_reducible rfl
         rotate_left
         ·
          simp only [Act.put, List.setIfInBounds_toArray, List.set_cons_zero, List.set_cons_succ, i64_w, i32_w]
          rfl
         refine pure_ (i := 9) (N := some 64) (v := ?_) (a' := ?_) #[false, true, true, true, true, false, false, false, true, true, false, false, false, false, false, false, false, false, false, false, false, false, false] rfl rfl (any_of HT_.out (by kernel_rfl)) (fun _ _ _ h => h) (Or.inl ⟨by rfl, ?_⟩) ?_ ?_
         rotate_left
         ·
          intro w'
          go_simp
          with_reducible rfl
         rotate_left
         ·
          simp only [Act.put, List.setIfInBounds_toArray, List.set_cons_zero, List.set_cons_succ, i64_w, i32_w]
          rfl
         refine pure_ (i := 10) (N := some 65) (v := ?_) (a' := ?_) #[false, true, true, true, true, false, false, false, true, true, true, false, false, false, false, false, false, false, false, false, false, false, false] rfl rfl (any_of HT_.out (by kernel_rfl)) (fun _ _ _ h => h) (Or.inl ⟨by rfl, ?_⟩) ?_ ?_
         rotate_left
         ·
          intro w'
          go_simp
          with_reducible rfl
         rotate_left
         ·
          simp only [Act.put, List.setIfInBounds_toArray, List.set_cons_zero, List.set_cons_succ, i64_w, i32_w]
          rfl
         refine pure_ (i := 11) (N := some 66) (v := ?_) (a' := ?_) #[false, true, true, true, true, false, false, false, true, true, true, true, false, false, false, false, false, false, false, false, false, false, false] rfl rfl (any_of HT_.out (by kernel_rfl)) (fun _ _ _ h => h) (Or.inl ⟨by rfl, ?_⟩) ?_ ?_
         rotate_left
         ·
          intro w'
          go_simp
          with_reducible rfl
         rotate_left
         ·
          simp only [Act.put, List.setIfInBounds_toArray, List.set_cons_zero, List.set_cons_succ, i64_w, i32_w]
          rfl
         refine take_ (i := 0) (N := some 55) (v := ?_) (a' := ?_) #[true, true, true, true, true, false, false, false, true, true, true, true, false, false, false, false, false, false, false, false, false, false, false] rfl rfl (take_ofW HT_.out HW_.out (by kernel_rfl)) (fun _ _ _ h => h) (Or.inl ⟨by rfl, ?_⟩) hHeld ?_ ?_
         rotate_left
         ·
          rintro w' ⟨s0, s1, s2, s3, s4, s5, s6, s7⟩
          go_simp
          with_reducible rfl
         rotate_left
         ·
          simp only [Act.put, List.setIfInBounds_toArray, List.set_cons_zero, List.set_cons_succ, i64_w, i32_w]
          rfl
         refine take_ (i := 5) (N := some 60) (v := ?_) (a' := ?_) #[true, true, true, true, true, true, false, false, true, true, true, true, false, false, false, false, false, false, false, false, false, false, false] rfl rfl (take_ofW HT_.out HW_.out (by kernel_rfl)) (fun _ _ _ h => h) (Or.inl ⟨by rfl, ?_⟩) hHeld ?_ ?_
         rotate_left
         ·
          rintro w' ⟨s0, s1, s2, s3, s4, s5, s6, s7⟩
          go_simp
          with_reducible rfl
         rotate_left
         ·
          simp only [Act.put, List.setIfInBounds_toArray, List.set_cons_zero, List.set_cons_succ, i64_w, i32_w]
          rfl
         refine pure_ (i := 6) (N := some 61) (v := ?_) (a' := ?_) #[true, true, true, true, true, true, true, false, true, true, true, true, false, false, false, false, false, false, false, false, false, false, false] rfl rfl (any_of HT_.out (by kernel_rfl)) (fun _ _ _ h => h) (Or.inl ⟨by rfl, ?_⟩) ?_ ?_
         rotate_left
         ·
          intro w'
          go_simp
          with_reducible rfl
         rotate_left
         ·
          simp only [Act.put, List.setIfInBounds_toArray, List.set_cons_zero, List.set_cons_succ, i64_w, i32_w]
          rfl
         refine pure_ (i := 7) (N := some 62) (v := ?_) (a' := ?_) #[true, true, true, true, true, true, true, true, true, true, true, true, false, false, false, false, false, false, false, false, false, false, false] rfl rfl (any_of HT_.out (by kernel_rfl)) (fun _ _ _ h => h) (Or.inl ⟨by rfl, ?_⟩) ?_ ?_
         rotate_left
         ·
          intro w'
          go_simp
          with_reducible rfl
         rotate_left
         ·
          simp only [Act.put, List.setIfInBounds_toArray, List.set_cons_zero, List.set_cons_succ, i64_w, i32_w]
          rfl
         refine take_ (i := 12) (N := some 67) (v := ?_) (a' := ?_) #[true, true, true, true, true, true, true, true, true, true, true, true, true, false, false, false, false, false, false, false, false, false, false] rfl rfl (take_ofW HT_.out HW_.out (by kernel_rfl)) (fun _ _ _ h => h) (Or.inl ⟨by rfl, ?_⟩) hHeld ?_ ?_
         rotate_left
         ·
          rintro w' ⟨s0, s1, s2, s3, s4, s5, s6, s7⟩
          go_simp
          with_reducible rfl
         rotate_left
         ·
          simp only [Act.put, List.setIfInBounds_toArray, List.set_cons_zero, List.set_cons_succ, i64_w, i32_w]
          rfl
         refine one_ (i := 13) (N := some 68) #[true, true, true, true, true, true, true, true, true, true, true, true, true, true, false, false, false, false, false, false, false, false, false] rfl rfl (one_of HT_.out (by kernel_rfl)) (by decide) (fun K hK => ?_)
         refine Kd.R_lit_step (Kd.int .u8) _ 5 ?hg (N := 68) ?hd (xs := ([(97 + (Int.tmod ((rd_T51 l0 x4_1).f1) 26)) % 256, (rd_T51 l0 x4_1).f2] : List Int)) (inner := [.int .u8 ((97 + (Int.tmod ((rd_T51 l0 x4_1).f1) 26)) % 256), .int .u8 ((rd_T51 l0 x4_1).f2)]) (ok := fun _ => True) (okp := fun _ => True) ?hr ?hp (fun _ hk => hk) trivial (Below.refl _ _) (Nat.le_refl _) (by simp) ?_; (case hd => rfl); (case hg => rfl); (case hr => first | (go_simp; done) | (go_simp; rfl)); (case hp => exact (Reps.one (show Kd.M (Kd.int .u8) _ _ _ ((97 + (Int.tmod ((rd_T51 l0 x4_1).f1) 26)) % 256) [.int .u8 ((97 + (Int.tmod ((rd_T51 l0 x4_1).f1) 26)) % 256)] from rfl) (Reps.one (show Kd.M (Kd.int .u8) _ _ _ ((rd_T51 l0 x4_1).f2) [.int .u8 ((rd_T51 l0 x4_1).f2)] from rfl) (Reps.none _ _))))
         intro v239 w19 ho20 hb hg_ hnew_
         clear hg_ hnew_
         (first | rw [← Ny238.out] at ho20 | (simp only [Int.reduceToNat] at ho20; rw [← Ny238.out] at ho20))
         have n0_ := Aside0.mk (Kd.R_below (by (with_reducible repeat (first | apply Kd.R_alloc | apply Kd.R_drewN | apply Kd.R_drew)); exact HO_233001.out) hb)
         have n1_ := Aside0.mk (Kd.R_lower ho20 (below_size (by repeat (first | (with_reducible first | exact HB.out | apply below_alloc | apply pw_below_drewN | apply below_drew1 | refine below_set ?_ GE232.out | refine below_set ?_ GE234.out) | exact HB.out))))
         have n2_ := Aside0.mk (blk_below (g := gb232) (o := .cells #[.int .i64 x233000_1, u233001] 35 (0, 0)) (by (with_reducible repeat (first | refine blk_drewN ?_ _ | refine blk_drew ?_ | refine blk_alloc ?_ _)); exact BK232.out) hb)
         have n3_ := Aside0.mk (blk_below (g := gb234) (o := .cells #[.int .i64 0, .slice none 0 0] 35 (0, 0)) (by (with_reducible repeat (first | refine blk_drewN ?_ _ | refine blk_drew ?_ | refine blk_alloc ?_ _)); exact BK234.out) hb)
         have n4_ := Aside0.mk (below_step (by repeat (first | (with_reducible first | exact HB.out | apply below_alloc | apply pw_below_drewN | apply below_drew1 | refine below_set ?_ GE232.out | refine below_set ?_ GE234.out) | exact HB.out)) hb)
         clear HO_233001
         clear BK232
         clear BK234
         clear HB
         have HO_233001 := n0_
         have HO240 := n1_
         have BK232 := n2_
         have BK234 := n3_
         have HB := n4_
         clear n0_ n1_ n2_ n3_ n4_
         clear hb ho20
         obtain ⟨Ao22, co22, eo22⟩ := Kd.R_slice HO_233001.out
         (first | subst eo22 | (injection eo22 with f1_ f2_ f3_; have f4_ := f1_.symm; have f5_ := f3_.symm; clear f1_ f2_ f3_; subst f4_; subst f5_))
         refine hK.out _ _ ⟨(blk_cell BK232.out 0).trans rfl, (blk_cell BK232.out 1).trans rfl, ((HB.out.cell (World.block_lt_of_cell? w _ hw236_0)).trans hw236_0), ((HB.out.cell (World.block_lt_of_cell? w _ hw236_1)).trans hw236_1), ((HB.out.cell (World.block_lt_of_cell? w _ hw236_2)).trans hw236_2), ((HB.out.cell (World.block_lt_of_cell? w _ hw237_0)).trans hw237_0), ((HB.out.cell (World.block_lt_of_cell? w _ hw237_1)).trans hw237_1), ((HB.out.cell (World.block_lt_of_cell? w _ hw237_2)).trans hw237_2)⟩ (fun hHeld => ?_)
         clear hK K
         refine norm_ (a' := ?_) ?_ ?_
         rotate_left
         ·
          show Act.put _ (some 68) _ = _
          simp only [Act.put, List.setIfInBounds_toArray, List.set_cons_zero, List.set_cons_succ, i64_w, i32_w]
          rfl
         refine one_ (i := 14) (N := some 69) #[true, true, true, true, true, true, true, true, true, true, true, true, true, true, true, false, false, false, false, false, false, false, false] rfl rfl (one_of HT_.out (by kernel_rfl)) (by decide) (fun K hK => ?_)
         have hcv21 := own_string (P := Try.prog) Try.underlying56 Try.underlying5 Try.underlying9 (Kd.own_of_R HO240.out)
         refine value_ (w1 := ?_) (v := ?_) (by rfl) rfl ?_ ?_
         rotate_left 2
         ·
          go_simp
          constructor
          ·
           rfl
          ·
           rfl
         clear hcv21
         refine hK.out _ _ ⟨(blk_cell BK232.out 0).trans rfl, (blk_cell BK232.out 1).trans rfl, ((HB.out.cell (World.block_lt_of_cell? w _ hw236_0)).trans hw236_0), ((HB.out.cell (World.block_lt_of_cell? w _ hw236_1)).trans hw236_1), ((HB.out.cell (World.block_lt_of_cell? w _ hw236_2)).trans hw236_2), ((HB.out.cell (World.block_lt_of_cell? w _ hw237_0)).trans hw237_0), ((HB.out.cell (World.block_lt_of_cell? w _ hw237_1)).trans hw237_1), ((HB.out.cell (World.block_lt_of_cell? w _ hw237_2)).trans hw237_2)⟩ (fun hHeld => ?_)
         clear hK K
         refine norm_ (a' := ?_) ?_ ?_
         rotate_left
         ·
          show Act.put _ (some 69) _ = _
          simp only [Act.put, List.setIfInBounds_toArray, List.set_cons_zero, List.set_cons_succ, i64_w, i32_w]
          rfl
         refine one_ (i := 15) (N := some 70) #[true, true, true, true, true, true, true, true, true, true, true, true, true, true, true, true, false, false, false, false, false, false, false] rfl rfl (one_of HT_.out (by kernel_rfl)) (by decide) (fun K hK => ?_)
         refine goes_ Try.func25 (by kernel_rfl) rfl #[.agg #[.int .i64 x233000_1, .slice Ao22 x233001_1.length co22], .string (strOfNums y238)] (by rfl) rfl rfl (by (try simp only [List.map_toArray, List.map_cons, List.map_nil]); first | done | rfl | (simp only [List.length_drop, List.length_take]; done) | (simp only [List.length_drop, List.length_take]; rfl)) ?_
         with_reducible refine (atlas_Split.calls k1 x233000_1 _ _ x233001_1 (strOfNums y238) t241 t242 t245 t248 _ ?side1 ?side2 A17.out).mono ?_
         (case side1 => repeat (first | exact (Kd.R_reads' HO_233001.out).2.2 | (with_reducible refine Kd.C_alloc ?_ _) | (with_reducible refine Kd.C_drewN ?_ _) | (with_reducible refine Kd.C_drew ?_)))
         (case side2 => exact (Kd.R_reads' HO_233001.out).2.1)
         rintro e w23 ⟨v243, v246, rfl, ho0, ho1, hb⟩
         refine ⟨_, rfl, ?_⟩
         have n0_ := Aside0.mk (Kd.R_elder' (by (with_reducible repeat (first | apply Kd.R_alloc | apply Kd.R_drewN | apply Kd.R_drew)); exact HO_233001.out) (Kd.R_base ho0) hb)
         have n1_ := Aside0.mk (Kd.R_below (by (with_reducible repeat (first | apply Kd.R_alloc | apply Kd.R_drewN | apply Kd.R_drew)); exact HO240.out) hb)
         have n2_ := Aside0.mk (Kd.R_lower (Kd.R_new' ho0 (Kd.R_lt (by (with_reducible repeat (first | apply Kd.R_alloc | apply Kd.R_drewN | apply Kd.R_drew)); exact HO_233001.out))) (below_size (by repeat (first | (with_reducible first | exact HB.out | apply below_alloc | apply pw_below_drewN | apply below_drew1 | refine below_set ?_ GE232.out | refine below_set ?_ GE234.out) | exact HB.out))))
         have n3_ := Aside0.mk (Kd.R_lower ho1 (below_size (by repeat (first | (with_reducible first | exact HB.out | apply below_alloc | apply pw_below_drewN | apply below_drew1 | refine below_set ?_ GE232.out | refine below_set ?_ GE234.out) | exact HB.out))))
         have n4_ := Aside0.mk (blk_below (g := gb232) (o := .cells #[.int .i64 x233000_1, .slice Ao22 x233001_1.length co22] 35 (0, 0)) (by (with_reducible repeat (first | refine blk_drewN ?_ _ | refine blk_drew ?_ | refine blk_alloc ?_ _)); exact BK232.out) hb)
         have n5_ := Aside0.mk (blk_below (g := gb234) (o := .cells #[.int .i64 0, .slice none 0 0] 35 (0, 0)) (by (with_reducible repeat (first | refine blk_drewN ?_ _ | refine blk_drew ?_ | refine blk_alloc ?_ _)); exact BK234.out) hb)
         have n6_ := Aside0.mk (below_step (by repeat (first | (with_reducible first | exact HB.out | apply below_alloc | apply pw_below_drewN | apply below_drew1 | refine below_set ?_ GE232.out | refine below_set ?_ GE234.out) | exact HB.out)) hb)
         clear HO_233001
         clear HO240
         clear BK232
         clear BK234
         clear HB
         have HO_233001 := n0_
         have HO240 := n1_
         have HO244 := n2_
         have HO247 := n3_
         have BK232 := n4_
         have BK234 := n5_
         have HB := n6_
         clear n0_ n1_ n2_ n3_ n4_ n5_ n6_
         (try clear hb)
         (try clear hb2)
         (try clear hk)
         (try clear hi)
         (try clear ho0)
         (try clear ho1)
         obtain ⟨Ao25, co25, eo25⟩ := Kd.R_slice HO244.out
         (first | subst eo25 | (injection eo25 with f1_ f2_ f3_; have f4_ := f1_.symm; have f5_ := f3_.symm; clear f1_ f2_ f3_; subst f4_; subst f5_))
         refine hK.out _ _ ⟨(blk_cell BK232.out 0).trans rfl, (blk_cell BK232.out 1).trans rfl, ((HB.out.cell (World.block_lt_of_cell? w _ hw236_0)).trans hw236_0), ((HB.out.cell (World.block_lt_of_cell? w _ hw236_1)).trans hw236_1), ((HB.out.cell (World.block_lt_of_cell? w _ hw236_2)).trans hw236_2), ((HB.out.cell (World.block_lt_of_cell? w _ hw237_0)).trans hw237_0), ((HB.out.cell (World.block_lt_of_cell? w _ hw237_1)).trans hw237_1), ((HB.out.cell (World.block_lt_of_cell? w _ hw237_2)).trans hw237_2)⟩ (fun hHeld => ?_)
         clear hK K
         refine norm_ (a' := ?_) ?_ ?_
         rotate_left
         ·
          show Act.put _ (some 70) _ = _
          simp only [Act.put, List.setIfInBounds_toArray, List.set_cons_zero, List.set_cons_succ, i64_w, i32_w]
          rfl
         refine pure_ (i := 16) (N := some 54) (v := ?_) (a' := ?_) #[true, true, true, true, true, true, true, true, true, true, true, true, true, true, true, true, true, false, false, false, false, false, false] rfl rfl (any_of HT_.out (by kernel_rfl)) (fun _ _ _ h => h) (Or.inl ⟨by rfl, ?_⟩) ?_ ?_
         rotate_left
         ·
          intro w'
          go_simp
          with_reducible rfl
         rotate_left
         ·
          simp only [Act.put, List.setIfInBounds_toArray, List.set_cons_zero, List.set_cons_succ, i64_w, i32_w]
          rfl
         refine pure_ (i := 17) (N := some 71) (v := ?_) (a' := ?_) #[true, true, true, true, true, true, true, true, true, true, true, true, true, true, true, true, true, true, false, false, false, false, false] rfl rfl (any_of HT_.out (by kernel_rfl)) (fun _ _ _ h => h) (Or.inl ⟨by rfl, ?_⟩) ?_ ?_
         rotate_left
         ·
          intro w'
          go_simp
          with_reducible rfl
         rotate_left
         ·
          simp only [Act.put, List.setIfInBounds_toArray, List.set_cons_zero, List.set_cons_succ, i64_w, i32_w]
          rfl
         refine pure_ (i := 18) (N := some 72) (v := ?_) (a' := ?_) #[true, true, true, true, true, true, true, true, true, true, true, true, true, true, true, true, true, true, true, false, false, false, false] rfl rfl (any_of HT_.out (by kernel_rfl)) (fun _ _ _ h => h) (Or.inl ⟨by rfl, ?_⟩) ?_ ?_
         rotate_left
         ·
          intro w'
          go_simp
          with_reducible rfl
         rotate_left
         ·
          simp only [Act.put, List.setIfInBounds_toArray, List.set_cons_zero, List.set_cons_succ, i64_w, i32_w]
          rfl
         refine pure_ (i := 19) (N := some 73) (v := ?_) (a' := ?_) #[true, true, true, true, true, true, true, true, true, true, true, true, true, true, true, true, true, true, true, true, false, false, false] rfl rfl (any_of HT_.out (by kernel_rfl)) (fun _ _ _ h => h) (Or.inl ⟨by rfl, ?_⟩) ?_ ?_
         rotate_left
         ·
          intro w'
          go_simp
          with_reducible rfl
         rotate_left
         ·
          simp only [Act.put, List.setIfInBounds_toArray, List.set_cons_zero, List.set_cons_succ, i64_w, i32_w]
          rfl
         refine one_ (i := 20) (N := none) #[true, true, true, true, true, true, true, true, true, true, true, true, true, true, true, true, true, true, true, true, true, false, false] rfl rfl (one_of HT_.out (by kernel_rfl)) (by decide) (fun K hK => ?_)
         have hs24 : w23.cell? ⟨gb234, 0, none⟩ = some (.int .i64 0) := (blk_cell BK234.out 0).trans rfl
         have hfs24 := blk_frozen BK234.out 0
         have hns24_0 := NB232_234.out
         have hms24_0 := NB234_232.out
         have hs26 : w23.cell? ⟨gb234, 1, none⟩ = some (.slice none 0 0) := (blk_cell BK234.out 1).trans rfl
         have hfs26 := blk_frozen BK234.out 1
         have hns26_0 := NB232_234.out
         have hms26_0 := NB234_232.out
         refine skip_ (w1 := ?_) (by rfl) rfl ?_ ?_
         rotate_left
         ·
          go_simp
          rfl
         refine hK.out _ _ ⟨((cell_far (p := ⟨gb234, _, none⟩) NB232_234.out _).trans (((cell_far (p := ⟨gb234, _, none⟩) NB232_234.out _).trans (hHeld.1)))), ((cell_far (p := ⟨gb234, _, none⟩) NB232_234.out _).trans (((cell_far (p := ⟨gb234, _, none⟩) NB232_234.out _).trans (hHeld.2.1)))), ((cell_far (p := ⟨gb234, _, none⟩) (by first | exact Nat.ne_of_lt (Nat.lt_of_lt_of_le (by have := World.block_lt_of_cell? _ _ hw236_0; first | rwa [add_block] at this | exact this) GW234.out) | (rw [add_block]; exact Nat.ne_of_lt (Nat.lt_of_lt_of_le (by have := World.block_lt_of_cell? _ _ hw236_0; first | rwa [add_block] at this | exact this) GW234.out)) | (show (Addr.add _ _).block ≠ _; rw [add_block]; exact Nat.ne_of_lt (Nat.lt_of_lt_of_le (by have := World.block_lt_of_cell? _ _ hw236_0; first | rwa [add_block] at this | exact this) GW234.out)) | (dsimp only; exact Nat.ne_of_lt (Nat.lt_of_lt_of_le (by have := World.block_lt_of_cell? _ _ hw236_0; first | rwa [add_block] at this | exact this) GW234.out))) _).trans (((cell_far (p := ⟨gb234, _, none⟩) (by first | exact Nat.ne_of_lt (Nat.lt_of_lt_of_le (by have := World.block_lt_of_cell? _ _ hw236_0; first | rwa [add_block] at this | exact this) GW234.out) | (rw [add_block]; exact Nat.ne_of_lt (Nat.lt_of_lt_of_le (by have := World.block_lt_of_cell? _ _ hw236_0; first | rwa [add_block] at this | exact this) GW234.out)) | (show (Addr.add _ _).block ≠ _; rw [add_block]; exact Nat.ne_of_lt (Nat.lt_of_lt_of_le (by have := World.block_lt_of_cell? _ _ hw236_0; first | rwa [add_block] at this | exact this) GW234.out)) | (dsimp only; exact Nat.ne_of_lt (Nat.lt_of_lt_of_le (by have := World.block_lt_of_cell? _ _ hw236_0; first | rwa [add_block] at this | exact this) GW234.out))) _).trans (hHeld.2.2.1)))), ((cell_far (p := ⟨gb234, _, none⟩) (by first | exact Nat.ne_of_lt (Nat.lt_of_lt_of_le (by have := World.block_lt_of_cell? _ _ hw236_1; first | rwa [add_block] at this | exact this) GW234.out) | (rw [add_block]; exact Nat.ne_of_lt (Nat.lt_of_lt_of_le (by have := World.block_lt_of_cell? _ _ hw236_1; first | rwa [add_block] at this | exact this) GW234.out)) | (show (Addr.add _ _).block ≠ _; rw [add_block]; exact Nat.ne_of_lt (Nat.lt_of_lt_of_le (by have := World.block_lt_of_cell? _ _ hw236_1; first | rwa [add_block] at this | exact this) GW234.out)) | (dsimp only; exact Nat.ne_of_lt (Nat.lt_of_lt_of_le (by have := World.block_lt_of_cell? _ _ hw236_1; first | rwa [add_block] at this | exact this) GW234.out))) _).trans (((cell_far (p := ⟨gb234, _, none⟩) (by first | exact Nat.ne_of_lt (Nat.lt_of_lt_of_le (by have := World.block_lt_of_cell? _ _ hw236_1; first | rwa [add_block] at this | exact this) GW234.out) | (rw [add_block]; exact Nat.ne_of_lt (Nat.lt_of_lt_of_le (by have := World.block_lt_of_cell? _ _ hw236_1; first | rwa [add_block] at this | exact this) GW234.out)) | (show (Addr.add _ _).block ≠ _; rw [add_block]; exact Nat.ne_of_lt (Nat.lt_of_lt_of_le (by have := World.block_lt_of_cell? _ _ hw236_1; first | rwa [add_block] at this | exact this) GW234.out)) | (dsimp only; exact Nat.ne_of_lt (Nat.lt_of_lt_of_le (by have := World.block_lt_of_cell? _ _ hw236_1; first | rwa [add_block] at this | exact this) GW234.out))) _).trans (hHeld.2.2.2.1)))), ((cell_far (p := ⟨gb234, _, none⟩) (by first | exact Nat.ne_of_lt (Nat.lt_of_lt_of_le (by have := World.block_lt_of_cell? _ _ hw236_2; first | rwa [add_block] at this | exact this) GW234.out) | (rw [add_block]; exact Nat.ne_of_lt (Nat.lt_of_lt_of_le (by have := World.block_lt_of_cell? _ _ hw236_2; first | rwa [add_block] at this | exact this) GW234.out)) | (show (Addr.add _ _).block ≠ _; rw [add_block]; exact Nat.ne_of_lt (Nat.lt_of_lt_of_le (by have := World.block_lt_of_cell? _ _ hw236_2; first | rwa [add_block] at this | exact this) GW234.out)) | (dsimp only; exact Nat.ne_of_lt (Nat.lt_of_lt_of_le (by have := World.block_lt_of_cell? _ _ hw236_2; first | rwa [add_block] at this | exact this) GW234.out))) _).trans (((cell_far (p := ⟨gb234, _, none⟩) (by first | exact Nat.ne_of_lt (Nat.lt_of_lt_of_le (by have := World.block_lt_of_cell? _ _ hw236_2; first | rwa [add_block] at this | exact this) GW234.out) | (rw [add_block]; exact Nat.ne_of_lt (Nat.lt_of_lt_of_le (by have := World.block_lt_of_cell? _ _ hw236_2; first | rwa [add_block] at this | exact this) GW234.out)) | (show (Addr.add _ _).block ≠ _; rw [add_block]; exact Nat.ne_of_lt (Nat.lt_of_lt_of_le (by have := World.block_lt_of_cell? _ _ hw236_2; first | rwa [add_block] at this | exact this) GW234.out)) | (dsimp only; exact Nat.ne_of_lt (Nat.lt_of_lt_of_le (by have := World.block_lt_of_cell? _ _ hw236_2; first | rwa [add_block] at this | exact this) GW234.out))) _).trans (hHeld.2.2.2.2.1)))), ((cell_far (p := ⟨gb234, _, none⟩) (by first | exact Nat.ne_of_lt (Nat.lt_of_lt_of_le (by have := World.block_lt_of_cell? _ _ hw237_0; first | rwa [add_block] at this | exact this) GW234.out) | (rw [add_block]; exact Nat.ne_of_lt (Nat.lt_of_lt_of_le (by have := World.block_lt_of_cell? _ _ hw237_0; first | rwa [add_block] at this | exact this) GW234.out)) | (show (Addr.add _ _).block ≠ _; rw [add_block]; exact Nat.ne_of_lt (Nat.lt_of_lt_of_le (by have := World.block_lt_of_cell? _ _ hw237_0; first | rwa [add_block] at this | exact this) GW234.out)) | (dsimp only; exact Nat.ne_of_lt (Nat.lt_of_lt_of_le (by have := World.block_lt_of_cell? _ _ hw237_0; first | rwa [add_block] at this | exact this) GW234.out))) _).trans (((cell_far (p := ⟨gb234, _, none⟩) (by first | exact Nat.ne_of_lt (Nat.lt_of_lt_of_le (by have := World.block_lt_of_cell? _ _ hw237_0; first | rwa [add_block] at this | exact this) GW234.out) | (rw [add_block]; exact Nat.ne_of_lt (Nat.lt_of_lt_of_le (by have := World.block_lt_of_cell? _ _ hw237_0; first | rwa [add_block] at this | exact this) GW234.out)) | (show (Addr.add _ _).block ≠ _; rw [add_block]; exact Nat.ne_of_lt (Nat.lt_of_lt_of_le (by have := World.block_lt_of_cell? _ _ hw237_0; first | rwa [add_block] at this | exact this) GW234.out)) | (dsimp only; exact Nat.ne_of_lt (Nat.lt_of_lt_of_le (by have := World.block_lt_of_cell? _ _ hw237_0; first | rwa [add_block] at this | exact this) GW234.out))) _).trans (hHeld.2.2.2.2.2.1)))), ((cell_far (p := ⟨gb234, _, none⟩) (by first | exact Nat.ne_of_lt (Nat.lt_of_lt_of_le (by have := World.block_lt_of_cell? _ _ hw237_1; first | rwa [add_block] at this | exact this) GW234.out) | (rw [add_block]; exact Nat.ne_of_lt (Nat.lt_of_lt_of_le (by have := World.block_lt_of_cell? _ _ hw237_1; first | rwa [add_block] at this | exact this) GW234.out)) | (show (Addr.add _ _).block ≠ _; rw [add_block]; exact Nat.ne_of_lt (Nat.lt_of_lt_of_le (by have := World.block_lt_of_cell? _ _ hw237_1; first | rwa [add_block] at this | exact this) GW234.out)) | (dsimp only; exact Nat.ne_of_lt (Nat.lt_of_lt_of_le (by have := World.block_lt_of_cell? _ _ hw237_1; first | rwa [add_block] at this | exact this) GW234.out))) _).trans (((cell_far (p := ⟨gb234, _, none⟩) (by first | exact Nat.ne_of_lt (Nat.lt_of_lt_of_le (by have := World.block_lt_of_cell? _ _ hw237_1; first | rwa [add_block] at this | exact this) GW234.out) | (rw [add_block]; exact Nat.ne_of_lt (Nat.lt_of_lt_of_le (by have := World.block_lt_of_cell? _ _ hw237_1; first | rwa [add_block] at this | exact this) GW234.out)) | (show (Addr.add _ _).block ≠ _; rw [add_block]; exact Nat.ne_of_lt (Nat.lt_of_lt_of_le (by have := World.block_lt_of_cell? _ _ hw237_1; first | rwa [add_block] at this | exact this) GW234.out)) | (dsimp only; exact Nat.ne_of_lt (Nat.lt_of_lt_of_le (by have := World.block_lt_of_cell? _ _ hw237_1; first | rwa [add_block] at this | exact this) GW234.out))) _).trans (hHeld.2.2.2.2.2.2.1)))), ((cell_far (p := ⟨gb234, _, none⟩) (by first | exact Nat.ne_of_lt (Nat.lt_of_lt_of_le (by have := World.block_lt_of_cell? _ _ hw237_2; first | rwa [add_block] at this | exact this) GW234.out) | (rw [add_block]; exact Nat.ne_of_lt (Nat.lt_of_lt_of_le (by have := World.block_lt_of_cell? _ _ hw237_2; first | rwa [add_block] at this | exact this) GW234.out)) | (show (Addr.add _ _).block ≠ _; rw [add_block]; exact Nat.ne_of_lt (Nat.lt_of_lt_of_le (by have := World.block_lt_of_cell? _ _ hw237_2; first | rwa [add_block] at this | exact this) GW234.out)) | (dsimp only; exact Nat.ne_of_lt (Nat.lt_of_lt_of_le (by have := World.block_lt_of_cell? _ _ hw237_2; first | rwa [add_block] at this | exact this) GW234.out))) _).trans (((cell_far (p := ⟨gb234, _, none⟩) (by first | exact Nat.ne_of_lt (Nat.lt_of_lt_of_le (by have := World.block_lt_of_cell? _ _ hw237_2; first | rwa [add_block] at this | exact this) GW234.out) | (rw [add_block]; exact Nat.ne_of_lt (Nat.lt_of_lt_of_le (by have := World.block_lt_of_cell? _ _ hw237_2; first | rwa [add_block] at this | exact this) GW234.out)) | (show (Addr.add _ _).block ≠ _; rw [add_block]; exact Nat.ne_of_lt (Nat.lt_of_lt_of_le (by have := World.block_lt_of_cell? _ _ hw237_2; first | rwa [add_block] at this | exact this) GW234.out)) | (dsimp only; exact Nat.ne_of_lt (Nat.lt_of_lt_of_le (by have := World.block_lt_of_cell? _ _ hw237_2; first | rwa [add_block] at this | exact this) GW234.out))) _).trans (hHeld.2.2.2.2.2.2.2))))⟩ (fun hHeld => ?_)
         clear hK K
         refine pure_ (i := 21) (N := some 7) (v := ?_) (a' := ?_) #[true, true, true, true, true, true, true, true, true, true, true, true, true, true, true, true, true, true, true, true, true, true, false] rfl rfl (any_of HT_.out (by kernel_rfl)) (fun _ _ _ h => h) (Or.inl ⟨by rfl, ?_⟩) ?_ ?_
         rotate_left
         ·
          intro w'
          go_simp
          with_reducible rfl
         rotate_left
         ·
          simp only [Act.put, List.setIfInBounds_toArray, List.set_cons_zero, List.set_cons_succ, i64_w, i32_w]
          rfl
         refine pure_ (i := 22) (N := some 8) (v := ?_) (a' := ?_) #[true, true, true, true, true, true, true, true, true, true, true, true, true, true, true, true, true, true, true, true, true, true, true] rfl rfl (any_of HT_.out (by kernel_rfl)) (fun _ _ _ h => h) (Or.inl ⟨by rfl, ?_⟩) ?_ ?_
         rotate_left
         ·
          intro w'
          go_simp
          with_reducible rfl
         rotate_left
         ·
          simp only [Act.put, List.setIfInBounds_toArray, List.set_cons_zero, List.set_cons_succ, i64_w, i32_w]
          rfl
         refine done_ (done_of HT_.out (by kernel_rfl)) ?_
         try go_wp2
         go_meet
         case rel => exact ⟨_, (t245), (t248), (t241), (t242), (.slice Ao25 t242.length co25), (by first | rfl | (simp; done) | (simp [*]; done)), H', ⟨by have := HK1.out; first | omega | exact Nat.le_refl _⟩, ⟨by (with_reducible repeat (first | apply Kd.R_alloc | apply Kd.R_drewN | apply Kd.R_drew)); exact Kd.R_mono (Kd.R_far (p := ⟨gb234, 1, none⟩) (Kd.R_far (p := ⟨gb234, 0, none⟩) (Kd.R_types HO247.out BK234.out (by decide)) (fun _ hk => hk.2) (.int .i64 t241)) (fun _ hk => hk.2) (.slice Ao25 t242.length co25)) (fun _ hk => trivial)⟩, ⟨by (with_reducible repeat (first | apply Kd.R_alloc | apply Kd.R_drewN | apply Kd.R_drew)); exact Kd.R_mono (Kd.R_far (p := ⟨gb234, 1, none⟩) (Kd.R_far (p := ⟨gb234, 0, none⟩) (Kd.R_types HO_233001.out BK234.out (by decide)) (fun _ hk => hk.2) (.int .i64 t241)) (fun _ hk => hk.2) (.slice Ao25 t242.length co25)) (fun _ hk => hk.1.2)⟩, ⟨by (with_reducible repeat (first | apply Kd.R_alloc | apply Kd.R_drewN | apply Kd.R_drew)); exact Kd.R_mono (Kd.R_far (p := ⟨gb234, 1, none⟩) (Kd.R_far (p := ⟨gb234, 0, none⟩) (Kd.R_types HO244.out BK234.out (by decide)) (fun _ hk => hk.2) (.int .i64 t241)) (fun _ hk => hk.2) (.slice Ao25 t242.length co25)) (fun _ hk => hk.1.2)⟩, ⟨by (with_reducible repeat (first | refine blk_drewN ?_ _ | refine blk_drew ?_ | refine blk_alloc ?_ _)); refine blk_far ?_ NB232_234.out _; (with_reducible repeat (first | refine blk_drewN ?_ _ | refine blk_drew ?_ | refine blk_alloc ?_ _)); refine blk_far ?_ NB232_234.out _; (with_reducible repeat (first | refine blk_drewN ?_ _ | refine blk_drew ?_ | refine blk_alloc ?_ _)); exact BK232.out⟩, ⟨by (with_reducible repeat (first | refine blk_drewN ?_ _ | refine blk_drew ?_ | refine blk_alloc ?_ _)); refine blk_put (cs := #[.int .i64 t241, .slice none 0 0]) ?_ 1 _ rfl; (with_reducible repeat (first | refine blk_drewN ?_ _ | refine blk_drew ?_ | refine blk_alloc ?_ _)); refine blk_put (cs := #[.int .i64 0, .slice none 0 0]) ?_ 0 _ rfl; (with_reducible repeat (first | refine blk_drewN ?_ _ | refine blk_drew ?_ | refine blk_alloc ?_ _)); exact BK234.out⟩, ⟨by repeat (first | (with_reducible first | exact HB.out | apply below_alloc | apply pw_below_drewN | apply below_drew1 | refine below_set ?_ GE232.out | refine below_set ?_ GE234.out) | exact HB.out)⟩⟩
        ·
         rw [if_neg c16] at H
         have c16b0 : ((Int.tmod ((rd_T51 l0 x4_1).f0) 3) == 0) = false := beq_eq_false_iff_ne.mpr c16
         have c16b1 : ((Int.tmod ((rd_T51 l0 x4_1).f0) 3) != 0) = true := bne_iff_ne.mpr c16
         (first | rw [c16b0] | (simp only [i64_w, i32_w]; rw [c16b0]) | skip)
         by_cases c27 : (Int.tmod ((rd_T51 l0 x4_1).f0) 3) = 1
         ·
          rw [if_pos c27] at H
          have c27b0 : ((Int.tmod ((rd_T51 l0 x4_1).f0) 3) == 1) = true := beq_iff_eq.mpr c27
          have c27b1 : ((Int.tmod ((rd_T51 l0 x4_1).f0) 3) != 1) = false := bne_eq_false_iff_eq.mpr c27
          clear c27
          replace H := Option.bind_eq_some_iff.mp H
          obtain ⟨⟨t249, t250, t253, t256⟩, A280, H⟩ := H
          replace H : (gazetteerlaw14_AtlasGoes.j1 k1 l0 x4_1 t253 t256 x233000_1 x233001_1 t249 t250) = some r := H
          have A28 := Aside0.mk A280
          clear A280
          have H' := Aside0.mk H
          clear H
          have hnb29 := NB232_234.out
          have hnc29 := NB234_232.out
          have hcz30_0 : w15.cell? ⟨gb232, 0, none⟩ = some (.int .i64 x233000_1) := (blk_cell BK232.out 0).trans rfl
          have hcz30_1 : w15.cell? ⟨gb232, 1, none⟩ = some (u233001) := (blk_cell BK232.out 1).trans rfl
          have hfz30_0 := blk_frozen BK232.out 0
          have hfz30_1 := blk_frozen BK232.out 1
          obtain ⟨Ao31, co31, eo31⟩ := Kd.R_slice HO_233001.out
          subst eo31
          go_wp2_with (first | ((with_reducible refine gate_callee (f := 26) rfl ?_); refine goesL_ (some 80) rfl rfl Try.func26 (by kernel_rfl) rfl #[.agg #[.int .i64 x233000_1, .slice Ao31 x233001_1.length co31], .int .i64 (Int.tmod (wrap64 ((rd_T51 l0 x4_1).f1)) 12)] rfl (by (try simp only [List.map_toArray, List.map_cons, List.map_nil]); first | done | rfl | (simp only [List.length_drop, List.length_take]; done) | (simp only [List.length_drop, List.length_take]; rfl)) ?_; (with_reducible refine (atlas_Merge.calls k1 x233000_1 _ _ x233001_1 (Int.tmod (wrap64 ((rd_T51 l0 x4_1).f1)) 12) t249 t250 t253 t256 _ ?side1 ?side2 A28.out).mono ?_); (case side1 => repeat (first | exact (Kd.R_reads' HO_233001.out).2.2 | (with_reducible refine Kd.C_alloc ?_ _) | (with_reducible refine Kd.C_drewN ?_ _) | (with_reducible refine Kd.C_drew ?_))); (case side2 => exact (Kd.R_reads' HO_233001.out).2.1); rintro e w32 ⟨v251, v254, rfl, ho0, ho1, hb⟩; refine ⟨_, rfl, ?_⟩; have n0_ := Aside0.mk (Kd.R_elder' (by (with_reducible repeat (first | apply Kd.R_alloc | apply Kd.R_drewN | apply Kd.R_drew)); exact HO_233001.out) (Kd.R_base ho0) hb); have n1_ := Aside0.mk (Kd.R_lower (Kd.R_new' ho0 (Kd.R_lt (by (with_reducible repeat (first | apply Kd.R_alloc | apply Kd.R_drewN | apply Kd.R_drew)); exact HO_233001.out))) (below_size (by repeat (first | (with_reducible first | exact HB.out | apply below_alloc | apply pw_below_drewN | apply below_drew1 | refine below_set ?_ GE232.out | refine below_set ?_ GE234.out) | exact HB.out)))); have n2_ := Aside0.mk (Kd.R_lower ho1 (below_size (by repeat (first | (with_reducible first | exact HB.out | apply below_alloc | apply pw_below_drewN | apply below_drew1 | refine below_set ?_ GE232.out | refine below_set ?_ GE234.out) | exact HB.out)))); have n3_ := Aside0.mk (blk_below (g := gb232) (o := .cells #[.int .i64 x233000_1, .slice Ao31 x233001_1.length co31] 35 (0, 0)) (by (with_reducible repeat (first | refine blk_drewN ?_ _ | refine blk_drew ?_ | refine blk_alloc ?_ _)); exact BK232.out) hb); have n4_ := Aside0.mk (blk_below (g := gb234) (o := .cells #[.int .i64 0, .slice none 0 0] 35 (0, 0)) (by (with_reducible repeat (first | refine blk_drewN ?_ _ | refine blk_drew ?_ | refine blk_alloc ?_ _)); exact BK234.out) hb); have n5_ := Aside0.mk (below_step (by repeat (first | (with_reducible first | exact HB.out | apply below_alloc | apply pw_below_drewN | apply below_drew1 | refine below_set ?_ GE232.out | refine below_set ?_ GE234.out) | exact HB.out)) hb); clear HO_233001; clear BK232; clear BK234; clear HB; have HO_233001 := n0_; have HO252 := n1_; have HO255 := n2_; have BK232 := n3_; have BK234 := n4_; have HB := n5_; clear n0_ n1_ n2_ n3_ n4_ n5_; (try clear hb); (try clear hb2); (try clear hk); (try clear hi); (try clear ho0); (try clear ho1); have hcz33_0 : w32.cell? ⟨gb234, 0, none⟩ = some (.int .i64 0) := (blk_cell BK234.out 0).trans rfl; have hcz33_1 : w32.cell? ⟨gb234, 1, none⟩ = some (.slice none 0 0) := (blk_cell BK234.out 1).trans rfl; have hfz33_0 := blk_frozen BK234.out 0; have hfz33_1 := blk_frozen BK234.out 1; obtain ⟨Ao34, co34, eo34⟩ := Kd.R_slice HO252.out; subst eo34))
          go_meet
          case rel => exact ⟨_, (t253), (t256), (t249), (t250), (.slice Ao34 t250.length co34), (by first | rfl | (simp; done) | (simp [*]; done)), H', ⟨by have := HK1.out; first | omega | exact Nat.le_refl _⟩, ⟨by (with_reducible repeat (first | apply Kd.R_alloc | apply Kd.R_drewN | apply Kd.R_drew)); exact Kd.R_mono (Kd.R_far (p := ⟨gb234, 1, none⟩) (Kd.R_far (p := ⟨gb234, 0, none⟩) (Kd.R_types HO255.out BK234.out (by decide)) (fun _ hk => hk.2) (.int .i64 t249)) (fun _ hk => hk.2) (.slice Ao34 t250.length co34)) (fun _ hk => trivial)⟩, ⟨by (with_reducible repeat (first | apply Kd.R_alloc | apply Kd.R_drewN | apply Kd.R_drew)); exact Kd.R_mono (Kd.R_far (p := ⟨gb234, 1, none⟩) (Kd.R_far (p := ⟨gb234, 0, none⟩) (Kd.R_types HO_233001.out BK234.out (by decide)) (fun _ hk => hk.2) (.int .i64 t249)) (fun _ hk => hk.2) (.slice Ao34 t250.length co34)) (fun _ hk => hk.1.2)⟩, ⟨by (with_reducible repeat (first | apply Kd.R_alloc | apply Kd.R_drewN | apply Kd.R_drew)); exact Kd.R_mono (Kd.R_far (p := ⟨gb234, 1, none⟩) (Kd.R_far (p := ⟨gb234, 0, none⟩) (Kd.R_types HO252.out BK234.out (by decide)) (fun _ hk => hk.2) (.int .i64 t249)) (fun _ hk => hk.2) (.slice Ao34 t250.length co34)) (fun _ hk => hk.1.2)⟩, ⟨by (with_reducible repeat (first | refine blk_drewN ?_ _ | refine blk_drew ?_ | refine blk_alloc ?_ _)); refine blk_far ?_ NB232_234.out _; (with_reducible repeat (first | refine blk_drewN ?_ _ | refine blk_drew ?_ | refine blk_alloc ?_ _)); refine blk_far ?_ NB232_234.out _; (with_reducible repeat (first | refine blk_drewN ?_ _ | refine blk_drew ?_ | refine blk_alloc ?_ _)); exact BK232.out⟩, ⟨by (with_reducible repeat (first | refine blk_drewN ?_ _ | refine blk_drew ?_ | refine blk_alloc ?_ _)); refine blk_put (cs := #[.int .i64 t249, .slice none 0 0]) ?_ 1 _ rfl; (with_reducible repeat (first | refine blk_drewN ?_ _ | refine blk_drew ?_ | refine blk_alloc ?_ _)); refine blk_put (cs := #[.int .i64 0, .slice none 0 0]) ?_ 0 _ rfl; (with_reducible repeat (first | refine blk_drewN ?_ _ | refine blk_drew ?_ | refine blk_alloc ?_ _)); exact BK234.out⟩, ⟨by repeat (first | (with_reducible first | exact HB.out | apply below_alloc | apply pw_below_drewN | apply below_drew1 | refine below_set ?_ GE232.out | refine below_set ?_ GE234.out) | exact HB.out)⟩⟩
         ·
          rw [if_neg c27] at H
          have c27b0 : ((Int.tmod ((rd_T51 l0 x4_1).f0) 3) == 1) = false := beq_eq_false_iff_ne.mpr c27
          have c27b1 : ((Int.tmod ((rd_T51 l0 x4_1).f0) 3) != 1) = true := bne_iff_ne.mpr c27
          replace H := Option.bind_eq_some_iff.mp H
          obtain ⟨⟨t258, t259, t262, t265⟩, A350, H⟩ := H
          replace H : (gazetteerlaw14_AtlasGoes.j1 k1 l0 x4_1 t262 t265 x233000_1 x233001_1 t258 t259) = some r := H
          have A35 := Aside0.mk A350
          clear A350
          have H' := Aside0.mk H
          clear H
          try go_wp2
          have n0_ := Aside0.mk (Kd.R_drew HO_233001.out)
          have n1_ := Aside0.mk (blk_drew BK232.out)
          have n2_ := Aside0.mk (blk_drew BK234.out)
          have n3_ := Aside0.mk (below_drew1 HB.out)
          clear HO_233001
          clear BK232
          clear BK234
          clear HB
          have HO_233001 := n0_
          have BK232 := n1_
          have BK234 := n2_
          have HB := n3_
          clear n0_ n1_ n2_ n3_
          have p257 : 0 ≤ (x4_1 : Int) := of_decide_eq_true (by first | (with_reducible assumption) | assumption)
          have q257 : x4_1 < (l0.length : Int) := of_decide_eq_true (by first | (with_reducible assumption) | assumption)
          obtain ⟨ad257, e257, hx257_0, hx257_1, hx257_2⟩ := at_T51 HR0.out x4_1 p257 q257
          have hw257_2 := hx257_2
          have hw257_1 := hx257_1
          have hw257_0 := hx257_0
          obtain rfl : ad233 = ad257 := (by injection e257)
          replace hx257_0 := (HB.out.cell (World.block_lt_of_cell? w _ hx257_0)).trans hx257_0
          replace hx257_1 := (HB.out.cell (World.block_lt_of_cell? w _ hx257_1)).trans hx257_1
          replace hx257_2 := (HB.out.cell (World.block_lt_of_cell? w _ hx257_2)).trans hx257_2
          replace p257 := eq_true p257
          replace q257 := eq_true q257
          obtain ⟨Ao37, co37, eo37⟩ := Kd.R_slice HO_233001.out
          (first | subst eo37 | (injection eo37 with f1_ f2_ f3_; have f4_ := f1_.symm; have f5_ := f3_.symm; clear f1_ f2_ f3_; subst f4_; subst f5_))
          refine start_ (n := 19) (S := fun w' => w'.cell? ⟨gb232, 0, none⟩ = some (.int .i64 x233000_1) ∧ w'.cell? ⟨gb232, 1, none⟩ = some (.slice Ao37 x233001_1.length co37) ∧ w'.cell? (ad233.add ((x4_1).toNat * 3)) = some (.int .u8 ((rd_T51 l0 x4_1).f0)) ∧ w'.cell? ⟨(ad233.add ((x4_1).toNat * 3)).block, (ad233.add ((x4_1).toNat * 3)).off + 1, none⟩ = some (.int .u8 ((rd_T51 l0 x4_1).f1)) ∧ w'.cell? ⟨(ad233.add ((x4_1).toNat * 3)).block, (ad233.add ((x4_1).toNat * 3)).off + 2, none⟩ = some (.int .u8 ((rd_T51 l0 x4_1).f2))) (ds := []) #[false, false, false, false, false, false, false, false, false, false, false, false, false, false, false, false, false, false, false] (by kernel_rfl) rfl rfl ⟨(blk_cell BK232.out 0).trans rfl, (blk_cell BK232.out 1).trans rfl, ((HB.out.cell (World.block_lt_of_cell? w _ hw257_0)).trans hw257_0), ((HB.out.cell (World.block_lt_of_cell? w _ hw257_1)).trans hw257_1), ((HB.out.cell (World.block_lt_of_cell? w _ hw257_2)).trans hw257_2)⟩ (fun hHeld => ?_); refine with_tabW gazetteerlaw14_AtlasGoes.tab14 gazetteerlaw14_AtlasGoes.bits14 (fun HT_ HW_ => ?_)
          generalize w15.drew = w36 at HO_233001 BK232 BK234 HB hx257_0 hx257_1 hx257_2 hHeld ⊢
          refine pure_ (i := 1) (N := some 38) (v := ?_) (a' := ?_) #[false, true, false, false, false, false, false, false, false, false, false, false, false, false, false, false, false, false, false] rfl rfl (any_of HT_.out (by kernel_rfl)) (fun _ _ _ h => h) (Or.inl ⟨by rfl, ?_⟩) ?_ ?_
          rotate_left
          ·
           intro w'
           go_simp
           with_reducible rfl
          rotate_left
          ·
           simp only [Act.put, List.setIfInBounds_toArray, List.set_cons_zero, List.set_cons_succ, i64_w, i32_w]
           rfl
          refine pure_ (i := 2) (N := some 39) (v := ?_) (a' := ?_) #[false, true, true, false, false, false, false, false, false, false, false, false, false, false, false, false, false, false, false] rfl rfl (any_of HT_.out (by kernel_rfl)) (fun _ _ _ h => h) (Or.inl ⟨by rfl, ?_⟩) ?_ ?_
          rotate_left
          ·
           intro w'
           go_simp
           with_reducible rfl
          rotate_left
          ·
           simp only [Act.put, List.setIfInBounds_toArray, List.set_cons_zero, List.set_cons_succ, i64_w, i32_w]
           rfl
          refine pure_ (i := 3) (N := some 40) (v := ?_) (a' := ?_) #[false, true, true, true, false, false, false, false, false, false, false, false, false, false, false, false, false, false, false] rfl rfl (any_of HT_.out (by kernel_rfl)) (fun _ _ _ h => h) (Or.inl ⟨by rfl, ?_⟩) ?_ ?_
          rotate_left
          ·
           intro w'
           go_simp
           with_reducible rfl
          rotate_left
          ·
           simp only [Act.put, List.setIfInBounds_toArray, List.set_cons_zero, List.set_cons_succ, i64_w, i32_w]
           rfl
          refine pure_ (i := 4) (N := some 41) (v := ?_) (a' := ?_) #[false, true, true, true, true, false, false, false, false, false, false, false, false, false, false, false, false, false, false] rfl rfl (any_of HT_.out (by kernel_rfl)) (fun _ _ _ h => h) (Or.inl ⟨by rfl, ?_⟩) ?_ ?_
          rotate_left
          ·
           intro w'
           go_simp
           with_reducible rfl
          rotate_left
          ·
           simp only [Act.put, List.setIfInBounds_toArray, List.set_cons_zero, List.set_cons_succ, i64_w, i32_w]
           rfl
          refine pure_ (i := 5) (N := some 42) (v := ?_) (a' := ?_) #[false, true, true, true, true, true, false, false, false, false, false, false, false, false, false, false, false, false, false] rfl rfl (any_of HT_.out (by kernel_rfl)) (fun _ _ _ h => h) (Or.inl ⟨by rfl, ?_⟩) ?_ ?_
          rotate_left
          ·
           intro w'
           go_simp
           with_reducible rfl
          rotate_left
          ·
           simp only [Act.put, List.setIfInBounds_toArray, List.set_cons_zero, List.set_cons_succ, i64_w, i32_w]
           rfl
          refine pure_ (i := 6) (N := some 43) (v := ?_) (a' := ?_) #[false, true, true, true, true, true, true, false, false, false, false, false, false, false, false, false, false, false, false] rfl rfl (any_of HT_.out (by kernel_rfl)) (fun _ _ _ h => h) (Or.inl ⟨by rfl, ?_⟩) ?_ ?_
          rotate_left
          ·
           intro w'
           go_simp
           with_reducible rfl
          rotate_left
          ·
           simp only [Act.put, List.setIfInBounds_toArray, List.set_cons_zero, List.set_cons_succ, i64_w, i32_w]
           rfl
          refine take_ (i := 0) (N := some 37) (v := ?_) (a' := ?_) #[true, true, true, true, true, true, true, false, false, false, false, false, false, false, false, false, false, false, false] rfl rfl (take_ofW HT_.out HW_.out (by kernel_rfl)) (fun _ _ _ h => h) (Or.inl ⟨by rfl, ?_⟩) hHeld ?_ ?_
          rotate_left
          ·
           rintro w' ⟨s0, s1, s2, s3, s4⟩
           go_simp
           with_reducible rfl
          rotate_left
          ·
           simp only [Act.put, List.setIfInBounds_toArray, List.set_cons_zero, List.set_cons_succ, i64_w, i32_w]
           rfl
          refine take_ (i := 7) (N := some 44) (v := ?_) (a' := ?_) #[true, true, true, true, true, true, true, true, false, false, false, false, false, false, false, false, false, false, false] rfl rfl (take_ofW HT_.out HW_.out (by kernel_rfl)) (fun _ _ _ h => h) (Or.inl ⟨by rfl, ?_⟩) hHeld ?_ ?_
          rotate_left
          ·
           rintro w' ⟨s0, s1, s2, s3, s4⟩
           go_simp
           with_reducible rfl
          rotate_left
          ·
           simp only [Act.put, List.setIfInBounds_toArray, List.set_cons_zero, List.set_cons_succ, i64_w, i32_w]
           rfl
          refine pure_ (i := 8) (N := some 45) (v := ?_) (a' := ?_) #[true, true, true, true, true, true, true, true, true, false, false, false, false, false, false, false, false, false, false] rfl rfl (any_of HT_.out (by kernel_rfl)) (fun _ _ _ h => h) (Or.inl ⟨by rfl, ?_⟩) ?_ ?_
          rotate_left
          ·
           intro w'
           go_simp
           with_reducible rfl
          rotate_left
          ·
           simp only [Act.put, List.setIfInBounds_toArray, List.set_cons_zero, List.set_cons_succ, i64_w, i32_w]
           rfl
          refine pure_ (i := 9) (N := some 46) (v := ?_) (a' := ?_) #[true, true, true, true, true, true, true, true, true, true, false, false, false, false, false, false, false, false, false] rfl rfl (any_of HT_.out (by kernel_rfl)) (fun _ _ _ h => h) (Or.inl ⟨by rfl, ?_⟩) ?_ ?_
          rotate_left
          ·
           intro w'
           go_simp
           with_reducible rfl
          rotate_left
          ·
           simp only [Act.put, List.setIfInBounds_toArray, List.set_cons_zero, List.set_cons_succ, i64_w, i32_w]
           rfl
          refine pure_ (i := 10) (N := some 47) (v := ?_) (a' := ?_) #[true, true, true, true, true, true, true, true, true, true, true, false, false, false, false, false, false, false, false] rfl rfl (any_of HT_.out (by kernel_rfl)) (fun _ _ _ h => h) (Or.inl ⟨by rfl, ?_⟩) ?_ ?_
          rotate_left
          ·
           intro w'
           go_simp
           with_reducible rfl
          rotate_left
          ·
           simp only [Act.put, List.setIfInBounds_toArray, List.set_cons_zero, List.set_cons_succ, i64_w, i32_w]
           rfl
          refine one_ (i := 11) (N := some 48) #[true, true, true, true, true, true, true, true, true, true, true, true, false, false, false, false, false, false, false] rfl rfl (one_of HT_.out (by kernel_rfl)) (by decide) (fun K hK => ?_)
          refine goes_ Try.func27 (by kernel_rfl) rfl #[.agg #[.int .i64 x233000_1, .slice Ao37 x233001_1.length co37], .int .i64 (Int.tmod (wrap64 ((rd_T51 l0 x4_1).f1)) 12), .int .i64 (wrap64 (1 + (wrap64 (Int.tmod ((rd_T51 l0 x4_1).f2) 5)))), .int .i64 5] (by rfl) rfl rfl (by (try simp only [List.map_toArray, List.map_cons, List.map_nil]); first | done | rfl | (simp only [List.length_drop, List.length_take]; done) | (simp only [List.length_drop, List.length_take]; rfl)) ?_
          with_reducible refine (atlas_Move.calls k1 x233000_1 _ _ x233001_1 (Int.tmod (wrap64 ((rd_T51 l0 x4_1).f1)) 12) (wrap64 (1 + (wrap64 (Int.tmod ((rd_T51 l0 x4_1).f2) 5)))) 5 t258 t259 t262 t265 _ ?side1 ?side2 A35.out).mono ?_
          (case side1 => repeat (first | exact (Kd.R_reads' HO_233001.out).2.2 | (with_reducible refine Kd.C_alloc ?_ _) | (with_reducible refine Kd.C_drewN ?_ _) | (with_reducible refine Kd.C_drew ?_)))
          (case side2 => exact (Kd.R_reads' HO_233001.out).2.1)
          rintro e w38 ⟨v260, v263, rfl, ho0, ho1, hb⟩
          refine ⟨_, rfl, ?_⟩
          have n0_ := Aside0.mk (Kd.R_elder' (by (with_reducible repeat (first | apply Kd.R_alloc | apply Kd.R_drewN | apply Kd.R_drew)); exact HO_233001.out) (Kd.R_base ho0) hb)
          have n1_ := Aside0.mk (Kd.R_lower (Kd.R_new' ho0 (Kd.R_lt (by (with_reducible repeat (first | apply Kd.R_alloc | apply Kd.R_drewN | apply Kd.R_drew)); exact HO_233001.out))) (below_size (by repeat (first | (with_reducible first | exact HB.out | apply below_alloc | apply pw_below_drewN | apply below_drew1 | refine below_set ?_ GE232.out | refine below_set ?_ GE234.out) | exact HB.out))))
          have n2_ := Aside0.mk (Kd.R_lower ho1 (below_size (by repeat (first | (with_reducible first | exact HB.out | apply below_alloc | apply pw_below_drewN | apply below_drew1 | refine below_set ?_ GE232.out | refine below_set ?_ GE234.out) | exact HB.out))))
          have n3_ := Aside0.mk (blk_below (g := gb232) (o := .cells #[.int .i64 x233000_1, .slice Ao37 x233001_1.length co37] 35 (0, 0)) (by (with_reducible repeat (first | refine blk_drewN ?_ _ | refine blk_drew ?_ | refine blk_alloc ?_ _)); exact BK232.out) hb)
          have n4_ := Aside0.mk (blk_below (g := gb234) (o := .cells #[.int .i64 0, .slice none 0 0] 35 (0, 0)) (by (with_reducible repeat (first | refine blk_drewN ?_ _ | refine blk_drew ?_ | refine blk_alloc ?_ _)); exact BK234.out) hb)
          have n5_ := Aside0.mk (below_step (by repeat (first | (with_reducible first | exact HB.out | apply below_alloc | apply pw_below_drewN | apply below_drew1 | refine below_set ?_ GE232.out | refine below_set ?_ GE234.out) | exact HB.out)) hb)
          clear HO_233001
          clear BK232
          clear BK234
          clear HB
          have HO_233001 := n0_
          have HO261 := n1_
          have HO264 := n2_
          have BK232 := n3_
          have BK234 := n4_
          have HB := n5_
          clear n0_ n1_ n2_ n3_ n4_ n5_
          (try clear hb)
          (try clear hb2)
          (try clear hk)
          (try clear hi)
          (try clear ho0)
          (try clear ho1)
          obtain ⟨Ao40, co40, eo40⟩ := Kd.R_slice HO261.out
          (first | subst eo40 | (injection eo40 with f1_ f2_ f3_; have f4_ := f1_.symm; have f5_ := f3_.symm; clear f1_ f2_ f3_; subst f4_; subst f5_))
          refine hK.out _ _ ⟨(blk_cell BK232.out 0).trans rfl, (blk_cell BK232.out 1).trans rfl, ((HB.out.cell (World.block_lt_of_cell? w _ hw257_0)).trans hw257_0), ((HB.out.cell (World.block_lt_of_cell? w _ hw257_1)).trans hw257_1), ((HB.out.cell (World.block_lt_of_cell? w _ hw257_2)).trans hw257_2)⟩ (fun hHeld => ?_)
          clear hK K
          refine norm_ (a' := ?_) ?_ ?_
          rotate_left
          ·
           show Act.put _ (some 48) _ = _
           simp only [Act.put, List.setIfInBounds_toArray, List.set_cons_zero, List.set_cons_succ, i64_w, i32_w]
           rfl
          refine pure_ (i := 12) (N := some 36) (v := ?_) (a' := ?_) #[true, true, true, true, true, true, true, true, true, true, true, true, true, false, false, false, false, false, false] rfl rfl (any_of HT_.out (by kernel_rfl)) (fun _ _ _ h => h) (Or.inl ⟨by rfl, ?_⟩) ?_ ?_
          rotate_left
          ·
           intro w'
           go_simp
           with_reducible rfl
          rotate_left
          ·
           simp only [Act.put, List.setIfInBounds_toArray, List.set_cons_zero, List.set_cons_succ, i64_w, i32_w]
           rfl
          refine pure_ (i := 13) (N := some 49) (v := ?_) (a' := ?_) #[true, true, true, true, true, true, true, true, true, true, true, true, true, true, false, false, false, false, false] rfl rfl (any_of HT_.out (by kernel_rfl)) (fun _ _ _ h => h) (Or.inl ⟨by rfl, ?_⟩) ?_ ?_
          rotate_left
          ·
           intro w'
           go_simp
           with_reducible rfl
          rotate_left
          ·
           simp only [Act.put, List.setIfInBounds_toArray, List.set_cons_zero, List.set_cons_succ, i64_w, i32_w]
           rfl
          refine pure_ (i := 14) (N := some 50) (v := ?_) (a' := ?_) #[true, true, true, true, true, true, true, true, true, true, true, true, true, true, true, false, false, false, false] rfl rfl (any_of HT_.out (by kernel_rfl)) (fun _ _ _ h => h) (Or.inl ⟨by rfl, ?_⟩) ?_ ?_
          rotate_left
          ·
           intro w'
           go_simp
           with_reducible rfl
          rotate_left
          ·
           simp only [Act.put, List.setIfInBounds_toArray, List.set_cons_zero, List.set_cons_succ, i64_w, i32_w]
           rfl
          refine pure_ (i := 15) (N := some 51) (v := ?_) (a' := ?_) #[true, true, true, true, true, true, true, true, true, true, true, true, true, true, true, true, false, false, false] rfl rfl (any_of HT_.out (by kernel_rfl)) (fun _ _ _ h => h) (Or.inl ⟨by rfl, ?_⟩) ?_ ?_
          rotate_left
          ·
           intro w'
           go_simp
           with_reducible rfl
          rotate_left
          ·
           simp only [Act.put, List.setIfInBounds_toArray, List.set_cons_zero, List.set_cons_succ, i64_w, i32_w]
           rfl
          refine one_ (i := 16) (N := none) #[true, true, true, true, true, true, true, true, true, true, true, true, true, true, true, true, true, false, false] rfl rfl (one_of HT_.out (by kernel_rfl)) (by decide) (fun K hK => ?_)
          have hs39 : w38.cell? ⟨gb234, 0, none⟩ = some (.int .i64 0) := (blk_cell BK234.out 0).trans rfl
          have hfs39 := blk_frozen BK234.out 0
          have hns39_0 := NB232_234.out
          have hms39_0 := NB234_232.out
          have hs41 : w38.cell? ⟨gb234, 1, none⟩ = some (.slice none 0 0) := (blk_cell BK234.out 1).trans rfl
          have hfs41 := blk_frozen BK234.out 1
          have hns41_0 := NB232_234.out
          have hms41_0 := NB234_232.out
          refine skip_ (w1 := ?_) (by rfl) rfl ?_ ?_
          rotate_left
          ·
           go_simp
           rfl
          refine hK.out _ _ ⟨((cell_far (p := ⟨gb234, _, none⟩) NB232_234.out _).trans (((cell_far (p := ⟨gb234, _, none⟩) NB232_234.out _).trans (hHeld.1)))), ((cell_far (p := ⟨gb234, _, none⟩) NB232_234.out _).trans (((cell_far (p := ⟨gb234, _, none⟩) NB232_234.out _).trans (hHeld.2.1)))), ((cell_far (p := ⟨gb234, _, none⟩) (by first | exact Nat.ne_of_lt (Nat.lt_of_lt_of_le (by have := World.block_lt_of_cell? _ _ hw257_0; first | rwa [add_block] at this | exact this) GW234.out) | (rw [add_block]; exact Nat.ne_of_lt (Nat.lt_of_lt_of_le (by have := World.block_lt_of_cell? _ _ hw257_0; first | rwa [add_block] at this | exact this) GW234.out)) | (show (Addr.add _ _).block ≠ _; rw [add_block]; exact Nat.ne_of_lt (Nat.lt_of_lt_of_le (by have := World.block_lt_of_cell? _ _ hw257_0; first | rwa [add_block] at this | exact this) GW234.out)) | (dsimp only; exact Nat.ne_of_lt (Nat.lt_of_lt_of_le (by have := World.block_lt_of_cell? _ _ hw257_0; first | rwa [add_block] at this | exact this) GW234.out))) _).trans (((cell_far (p := ⟨gb234, _, none⟩) (by first | exact Nat.ne_of_lt (Nat.lt_of_lt_of_le (by have := World.block_lt_of_cell? _ _ hw257_0; first | rwa [add_block] at this | exact this) GW234.out) | (rw [add_block]; exact Nat.ne_of_lt (Nat.lt_of_lt_of_le (by have := World.block_lt_of_cell? _ _ hw257_0; first | rwa [add_block] at this | exact this) GW234.out)) | (show (Addr.add _ _).block ≠ _; rw [add_block]; exact Nat.ne_of_lt (Nat.lt_of_lt_of_le (by have := World.block_lt_of_cell? _ _ hw257_0; first | rwa [add_block] at this | exact this) GW234.out)) | (dsimp only; exact Nat.ne_of_lt (Nat.lt_of_lt_of_le (by have := World.block_lt_of_cell? _ _ hw257_0; first | rwa [add_block] at this | exact this) GW234.out))) _).trans (hHeld.2.2.1)))), ((cell_far (p := ⟨gb234, _, none⟩) (by first | exact Nat.ne_of_lt (Nat.lt_of_lt_of_le (by have := World.block_lt_of_cell? _ _ hw257_1; first | rwa [add_block] at this | exact this) GW234.out) | (rw [add_block]; exact Nat.ne_of_lt (Nat.lt_of_lt_of_le (by have := World.block_lt_of_cell? _ _ hw257_1; first | rwa [add_block] at this | exact this) GW234.out)) | (show (Addr.add _ _).block ≠ _; rw [add_block]; exact Nat.ne_of_lt (Nat.lt_of_lt_of_le (by have := World.block_lt_of_cell? _ _ hw257_1; first | rwa [add_block] at this | exact this) GW234.out)) | (dsimp only; exact Nat.ne_of_lt (Nat.lt_of_lt_of_le (by have := World.block_lt_of_cell? _ _ hw257_1; first | rwa [add_block] at this | exact this) GW234.out))) _).trans (((cell_far (p := ⟨gb234, _, none⟩) (by first | exact Nat.ne_of_lt (Nat.lt_of_lt_of_le (by have := World.block_lt_of_cell? _ _ hw257_1; first | rwa [add_block] at this | exact this) GW234.out) | (rw [add_block]; exact Nat.ne_of_lt (Nat.lt_of_lt_of_le (by have := World.block_lt_of_cell? _ _ hw257_1; first | rwa [add_block] at this | exact this) GW234.out)) | (show (Addr.add _ _).block ≠ _; rw [add_block]; exact Nat.ne_of_lt (Nat.lt_of_lt_of_le (by have := World.block_lt_of_cell? _ _ hw257_1; first | rwa [add_block] at this | exact this) GW234.out)) | (dsimp only; exact Nat.ne_of_lt (Nat.lt_of_lt_of_le (by have := World.block_lt_of_cell? _ _ hw257_1; first | rwa [add_block] at this | exact this) GW234.out))) _).trans (hHeld.2.2.2.1)))), ((cell_far (p := ⟨gb234, _, none⟩) (by first | exact Nat.ne_of_lt (Nat.lt_of_lt_of_le (by have := World.block_lt_of_cell? _ _ hw257_2; first | rwa [add_block] at this | exact this) GW234.out) | (rw [add_block]; exact Nat.ne_of_lt (Nat.lt_of_lt_of_le (by have := World.block_lt_of_cell? _ _ hw257_2; first | rwa [add_block] at this | exact this) GW234.out)) | (show (Addr.add _ _).block ≠ _; rw [add_block]; exact Nat.ne_of_lt (Nat.lt_of_lt_of_le (by have := World.block_lt_of_cell? _ _ hw257_2; first | rwa [add_block] at this | exact this) GW234.out)) | (dsimp only; exact Nat.ne_of_lt (Nat.lt_of_lt_of_le (by have := World.block_lt_of_cell? _ _ hw257_2; first | rwa [add_block] at this | exact this) GW234.out))) _).trans (((cell_far (p := ⟨gb234, _, none⟩) (by first | exact Nat.ne_of_lt (Nat.lt_of_lt_of_le (by have := World.block_lt_of_cell? _ _ hw257_2; first | rwa [add_block] at this | exact this) GW234.out) | (rw [add_block]; exact Nat.ne_of_lt (Nat.lt_of_lt_of_le (by have := World.block_lt_of_cell? _ _ hw257_2; first | rwa [add_block] at this | exact this) GW234.out)) | (show (Addr.add _ _).block ≠ _; rw [add_block]; exact Nat.ne_of_lt (Nat.lt_of_lt_of_le (by have := World.block_lt_of_cell? _ _ hw257_2; first | rwa [add_block] at this | exact this) GW234.out)) | (dsimp only; exact Nat.ne_of_lt (Nat.lt_of_lt_of_le (by have := World.block_lt_of_cell? _ _ hw257_2; first | rwa [add_block] at this | exact this) GW234.out))) _).trans (hHeld.2.2.2.2))))⟩ (fun hHeld => ?_)
          clear hK K
          refine pure_ (i := 17) (N := some 7) (v := ?_) (a' := ?_) #[true, true, true, true, true, true, true, true, true, true, true, true, true, true, true, true, true, true, false] rfl rfl (any_of HT_.out (by kernel_rfl)) (fun _ _ _ h => h) (Or.inl ⟨by rfl, ?_⟩) ?_ ?_
          rotate_left
          ·
           intro w'
           go_simp
           with_reducible rfl
          rotate_left
          ·
           simp only [Act.put, List.setIfInBounds_toArray, List.set_cons_zero, List.set_cons_succ, i64_w, i32_w]
           rfl
          refine pure_ (i := 18) (N := some 8) (v := ?_) (a' := ?_) #[true, true, true, true, true, true, true, true, true, true, true, true, true, true, true, true, true, true, true] rfl rfl (any_of HT_.out (by kernel_rfl)) (fun _ _ _ h => h) (Or.inl ⟨by rfl, ?_⟩) ?_ ?_
          rotate_left
          ·
           intro w'
           go_simp
           with_reducible rfl
          rotate_left
          ·
           simp only [Act.put, List.setIfInBounds_toArray, List.set_cons_zero, List.set_cons_succ, i64_w, i32_w]
           rfl
          refine done_ (done_of HT_.out (by kernel_rfl)) ?_
          try go_wp2
          go_meet
          case rel => exact ⟨_, (t262), (t265), (t258), (t259), (.slice Ao40 t259.length co40), (by first | rfl | (simp; done) | (simp [*]; done)), H', ⟨by have := HK1.out; first | omega | exact Nat.le_refl _⟩, ⟨by (with_reducible repeat (first | apply Kd.R_alloc | apply Kd.R_drewN | apply Kd.R_drew)); exact Kd.R_mono (Kd.R_far (p := ⟨gb234, 1, none⟩) (Kd.R_far (p := ⟨gb234, 0, none⟩) (Kd.R_types HO264.out BK234.out (by decide)) (fun _ hk => hk.2) (.int .i64 t258)) (fun _ hk => hk.2) (.slice Ao40 t259.length co40)) (fun _ hk => trivial)⟩, ⟨by (with_reducible repeat (first | apply Kd.R_alloc | apply Kd.R_drewN | apply Kd.R_drew)); exact Kd.R_mono (Kd.R_far (p := ⟨gb234, 1, none⟩) (Kd.R_far (p := ⟨gb234, 0, none⟩) (Kd.R_types HO_233001.out BK234.out (by decide)) (fun _ hk => hk.2) (.int .i64 t258)) (fun _ hk => hk.2) (.slice Ao40 t259.length co40)) (fun _ hk => hk.1.2)⟩, ⟨by (with_reducible repeat (first | apply Kd.R_alloc | apply Kd.R_drewN | apply Kd.R_drew)); exact Kd.R_mono (Kd.R_far (p := ⟨gb234, 1, none⟩) (Kd.R_far (p := ⟨gb234, 0, none⟩) (Kd.R_types HO261.out BK234.out (by decide)) (fun _ hk => hk.2) (.int .i64 t258)) (fun _ hk => hk.2) (.slice Ao40 t259.length co40)) (fun _ hk => hk.1.2)⟩, ⟨by (with_reducible repeat (first | refine blk_drewN ?_ _ | refine blk_drew ?_ | refine blk_alloc ?_ _)); refine blk_far ?_ NB232_234.out _; (with_reducible repeat (first | refine blk_drewN ?_ _ | refine blk_drew ?_ | refine blk_alloc ?_ _)); refine blk_far ?_ NB232_234.out _; (with_reducible repeat (first | refine blk_drewN ?_ _ | refine blk_drew ?_ | refine blk_alloc ?_ _)); exact BK232.out⟩, ⟨by (with_reducible repeat (first | refine blk_drewN ?_ _ | refine blk_drew ?_ | refine blk_alloc ?_ _)); refine blk_put (cs := #[.int .i64 t258, .slice none 0 0]) ?_ 1 _ rfl; (with_reducible repeat (first | refine blk_drewN ?_ _ | refine blk_drew ?_ | refine blk_alloc ?_ _)); refine blk_put (cs := #[.int .i64 0, .slice none 0 0]) ?_ 0 _ rfl; (with_reducible repeat (first | refine blk_drewN ?_ _ | refine blk_drew ?_ | refine blk_alloc ?_ _)); exact BK234.out⟩, ⟨by repeat (first | (with_reducible first | exact HB.out | apply below_alloc | apply pw_below_drewN | apply below_drew1 | refine below_set ?_ GE232.out | refine below_set ?_ GE234.out) | exact HB.out)⟩⟩
       case rest =>
        clear HC14
        try clear c1
        try clear c2
        try clear p2
        try clear q2
        try clear hx2
        try clear hcv2
        try clear p6
        try clear c13
        try clear c13b0
        try clear c16
        try clear c16b0
        try clear c16b1
        try clear hcv21
        try clear p23
        try clear q23
        try clear hx23
        try clear c25
        try clear p25
        try clear q25
        try clear hx25
        try clear c26
        try clear c27
        try clear c27b0
        try clear c27b1
        try clear c29
        try clear hcz30_0
        try clear hcz30_1
        try clear hcz33_0
        try clear hcz33_1
        try clear hfz30_0
        try clear hfz30_1
        try clear hfz33_0
        try clear hfz33_1
        try clear hx233_0
        try clear hx233_1
        try clear hx233_2
        try clear hx235_0
        try clear hx235_1
        try clear hx235_2
        try clear hx236_0
        try clear hx236_1
        try clear hx236_2
        try clear hx237_0
        try clear hx237_1
        try clear hx237_2
        try clear hx257_0
        try clear hx257_1
        try clear hx257_2
        try clear p233
        try clear p235
        try clear p236
        try clear p237
        try clear p257
        try clear q233
        try clear q235
        try clear q236
        try clear q237
        try clear q257
        obtain ⟨kq, x7_13, x8_13, x235000_13, x235001_13, u235001, rfl, HA, HJ13, HO_7, HO_233001, HO_235001, BK232, BK234, HB⟩ := hcut
        cases kq with
        | zero => exact absurd HA.out (by simp [gazetteerlaw14_AtlasGoes.j1])
        | succ kj13 =>
         have H := HA.out
         clear HA
         simp only [gazetteerlaw14_AtlasGoes.j1] at H
         by_cases c42 : x8_13 = 0
         ·
          rw [if_pos c42] at H
          have c42b0 : (x8_13 == 0) = true := beq_iff_eq.mpr c42
          have c42b1 : (x8_13 != 0) = false := bne_eq_false_iff_eq.mpr c42
          clear c42
          have HC43 := Aside0.mk H
          clear H
          go_upto_region 20 with (fail)
          go_cut [101] (fun v101 wc => ∃ (kq : Nat) (x101_42 : Bool), v101 = .bool x101_42 ∧ Aside0 (gazetteerlaw14_AtlasGoes.j2 kq l0 x4_1 x101_42 x233000_1 x233001_1 x235000_13 x235001_13 = some r) ∧ Aside0 (kq ≤ kj13) ∧ Aside0 (Kd.R k30 30 wc w.heap.size (fun k_ => some k_ ≠ (u235001 : Value).ownBlock) u233001 x233001_1) ∧ Aside0 (Kd.R k30 30 wc w.heap.size (fun k_ => some k_ ≠ (u233001 : Value).ownBlock) u235001 x235001_13) ∧ Aside0 (wc.heap[gb232]? = some (.cells #[.int .i64 x233000_1, u233001] 35 (0, 0))) ∧ Aside0 (wc.heap[gb234]? = some (.cells #[.int .i64 x235000_13, u235001] 35 (0, 0))) ∧ Aside0 (Below w.heap.size w wc))
          case first =>
           have H := HC43.out
           clear HC43
           replace H := Option.bind_eq_some_iff.mp H
           obtain ⟨t266, A440, H⟩ := H
           replace H : (if t266 = true then (if x235000_13 = (wrap64 (x233000_1 + 1)) then (gazetteerlaw14_AtlasGoes.j2 kj13 l0 x4_1 (decide ((x7_13.length : Int) < 1)) x233000_1 x233001_1 x235000_13 x235001_13) else (gazetteerlaw14_AtlasGoes.j2 kj13 l0 x4_1 true x233000_1 x233001_1 x235000_13 x235001_13)) else (gazetteerlaw14_AtlasGoes.j2 kj13 l0 x4_1 true x233000_1 x233001_1 x235000_13 x235001_13)) = some r := H
           have A44 := Aside0.mk A440
           clear A440
           by_cases c45 : t266 = true
           ·
            subst c45
            have H1 : (if x235000_13 = (wrap64 (x233000_1 + 1)) then (gazetteerlaw14_AtlasGoes.j2 kj13 l0 x4_1 (decide ((x7_13.length : Int) < 1)) x233000_1 x233001_1 x235000_13 x235001_13) else (gazetteerlaw14_AtlasGoes.j2 kj13 l0 x4_1 true x233000_1 x233001_1 x235000_13 x235001_13)) = some r := by rw [if_pos rfl] at H; exact H
            clear H
            have H := H1
            clear H1
            by_cases c46 : x235000_13 = (wrap64 (x233000_1 + 1))
            ·
             rw [if_pos c46] at H
             have c46b0 : (x235000_13 == (wrap64 (x233000_1 + 1))) = true := beq_iff_eq.mpr c46
             have c46b1 : (x235000_13 != (wrap64 (x233000_1 + 1))) = false := bne_eq_false_iff_eq.mpr c46
             clear c46
             (first | rw [c46b0] | (simp only [i64_w, i32_w]; rw [c46b0]) | skip)
             have H' := Aside0.mk H
             clear H
             have hnb47 := NB234_232.out
             have hnc47 := NB232_234.out
             have hcz48_0 : wc.cell? ⟨gb234, 0, none⟩ = some (.int .i64 x235000_13) := (blk_cell BK234.out 0).trans rfl
             have hcz48_1 : wc.cell? ⟨gb234, 1, none⟩ = some (u235001) := (blk_cell BK234.out 1).trans rfl
             have hfz48_0 := blk_frozen BK234.out 0
             have hfz48_1 := blk_frozen BK234.out 1
             obtain ⟨Ao49, co49, eo49⟩ := Kd.R_slice HO_235001.out
             subst eo49
             go_wp2_with (first | ((with_reducible refine gate_callee (f := 28) rfl ?_); refine goesL_ (some 87) rfl rfl Try.func28 (by kernel_rfl) rfl #[.agg #[.int .i64 x235000_13, .slice Ao49 x235001_13.length co49], .int .i64 5] rfl (by (try simp only [List.map_toArray, List.map_cons, List.map_nil]); first | done | rfl | (simp only [List.length_drop, List.length_take]; done) | (simp only [List.length_drop, List.length_take]; rfl)) ?_; (with_reducible refine (atlas_May.calls kj13 x235000_13 _ _ x235001_13 5 true _ ?side1 ?side2 A44.out).mono ?_); (case side1 => repeat (first | exact (Kd.R_reads' HO_235001.out).2.2 | (with_reducible refine Kd.C_alloc ?_ _) | (with_reducible refine Kd.C_drewN ?_ _) | (with_reducible refine Kd.C_drew ?_))); (case side2 => exact (Kd.R_reads' HO_235001.out).2.1); rintro e w50 ⟨rfl, hb⟩; refine ⟨_, rfl, ?_⟩; have n0_ := Aside0.mk (Kd.R_below (by (with_reducible repeat (first | apply Kd.R_alloc | apply Kd.R_drewN | apply Kd.R_drew)); exact HO_7.out) hb); have n1_ := Aside0.mk (Kd.R_below (by (with_reducible repeat (first | apply Kd.R_alloc | apply Kd.R_drewN | apply Kd.R_drew)); exact HO_233001.out) hb); have n2_ := Aside0.mk (Kd.R_below (by (with_reducible repeat (first | apply Kd.R_alloc | apply Kd.R_drewN | apply Kd.R_drew)); exact HO_235001.out) hb); have n3_ := Aside0.mk (blk_below (g := gb232) (o := .cells #[.int .i64 x233000_1, u233001] 35 (0, 0)) (by (with_reducible repeat (first | refine blk_drewN ?_ _ | refine blk_drew ?_ | refine blk_alloc ?_ _)); exact BK232.out) hb); have n4_ := Aside0.mk (blk_below (g := gb234) (o := .cells #[.int .i64 x235000_13, .slice Ao49 x235001_13.length co49] 35 (0, 0)) (by (with_reducible repeat (first | refine blk_drewN ?_ _ | refine blk_drew ?_ | refine blk_alloc ?_ _)); exact BK234.out) hb); have n5_ := Aside0.mk (below_step (by repeat (first | (with_reducible first | exact HB.out | apply below_alloc | apply pw_below_drewN | apply below_drew1 | refine below_set ?_ GE232.out | refine below_set ?_ GE234.out) | exact HB.out)) hb); clear HO_7; clear HO_233001; clear HO_235001; clear BK232; clear BK234; clear HB; have HO_7 := n0_; have HO_233001 := n1_; have HO_235001 := n2_; have BK232 := n3_; have BK234 := n4_; have HB := n5_; clear n0_ n1_ n2_ n3_ n4_ n5_; (try clear hb); (try clear hb2); (try clear hk); (try clear hi); have hcz51_0 : w50.cell? ⟨gb234, 0, none⟩ = some (.int .i64 x235000_13) := (blk_cell BK234.out 0).trans rfl; have hcz51_1 : w50.cell? ⟨gb234, 1, none⟩ = some (.slice Ao49 x235001_13.length co49) := (blk_cell BK234.out 1).trans rfl; have hfz51_0 := blk_frozen BK234.out 0; have hfz51_1 := blk_frozen BK234.out 1; have hcz52_0 : w50.cell? ⟨gb232, 0, none⟩ = some (.int .i64 x233000_1) := (blk_cell BK232.out 0).trans rfl; have hcz52_1 : w50.cell? ⟨gb232, 1, none⟩ = some (u233001) := (blk_cell BK232.out 1).trans rfl; have hfz52_0 := blk_frozen BK232.out 0; have hfz52_1 := blk_frozen BK232.out 1; obtain ⟨Ao53, co53, eo53⟩ := Kd.R_slice HO_7.out; subst eo53))
             go_meet
             case rel => exact ⟨_, (decide ((x7_13.length : Int) < 1)), (by first | rfl | (simp; done) | (simp [*]; done)), H', ⟨by have := HK1.out; have := HJ13.out; first | omega | exact Nat.le_refl _⟩, ⟨by (with_reducible repeat (first | apply Kd.R_alloc | apply Kd.R_drewN | apply Kd.R_drew)); exact HO_233001.out⟩, ⟨by (with_reducible repeat (first | apply Kd.R_alloc | apply Kd.R_drewN | apply Kd.R_drew)); exact HO_235001.out⟩, ⟨by (with_reducible repeat (first | refine blk_drewN ?_ _ | refine blk_drew ?_ | refine blk_alloc ?_ _)); exact BK232.out⟩, ⟨by (with_reducible repeat (first | refine blk_drewN ?_ _ | refine blk_drew ?_ | refine blk_alloc ?_ _)); exact BK234.out⟩, ⟨by repeat (first | (with_reducible first | exact HB.out | apply below_alloc | apply pw_below_drewN | apply below_drew1 | refine below_set ?_ GE232.out | refine below_set ?_ GE234.out) | exact HB.out)⟩⟩
            ·
             rw [if_neg c46] at H
             have c46b0 : (x235000_13 == (wrap64 (x233000_1 + 1))) = false := beq_eq_false_iff_ne.mpr c46
             have c46b1 : (x235000_13 != (wrap64 (x233000_1 + 1))) = true := bne_iff_ne.mpr c46
             (first | rw [c46b0] | (simp only [i64_w, i32_w]; rw [c46b0]) | skip)
             have H' := Aside0.mk H
             clear H
             have hnb54 := NB234_232.out
             have hnc54 := NB232_234.out
             have hcz55_0 : wc.cell? ⟨gb234, 0, none⟩ = some (.int .i64 x235000_13) := (blk_cell BK234.out 0).trans rfl
             have hcz55_1 : wc.cell? ⟨gb234, 1, none⟩ = some (u235001) := (blk_cell BK234.out 1).trans rfl
             have hfz55_0 := blk_frozen BK234.out 0
             have hfz55_1 := blk_frozen BK234.out 1
             obtain ⟨Ao56, co56, eo56⟩ := Kd.R_slice HO_235001.out
             subst eo56
             go_wp2_with (first | ((with_reducible refine gate_callee (f := 28) rfl ?_); refine goesL_ (some 87) rfl rfl Try.func28 (by kernel_rfl) rfl #[.agg #[.int .i64 x235000_13, .slice Ao56 x235001_13.length co56], .int .i64 5] rfl (by (try simp only [List.map_toArray, List.map_cons, List.map_nil]); first | done | rfl | (simp only [List.length_drop, List.length_take]; done) | (simp only [List.length_drop, List.length_take]; rfl)) ?_; (with_reducible refine (atlas_May.calls kj13 x235000_13 _ _ x235001_13 5 true _ ?side1 ?side2 A44.out).mono ?_); (case side1 => repeat (first | exact (Kd.R_reads' HO_235001.out).2.2 | (with_reducible refine Kd.C_alloc ?_ _) | (with_reducible refine Kd.C_drewN ?_ _) | (with_reducible refine Kd.C_drew ?_))); (case side2 => exact (Kd.R_reads' HO_235001.out).2.1); rintro e w57 ⟨rfl, hb⟩; refine ⟨_, rfl, ?_⟩; have n0_ := Aside0.mk (Kd.R_below (by (with_reducible repeat (first | apply Kd.R_alloc | apply Kd.R_drewN | apply Kd.R_drew)); exact HO_7.out) hb); have n1_ := Aside0.mk (Kd.R_below (by (with_reducible repeat (first | apply Kd.R_alloc | apply Kd.R_drewN | apply Kd.R_drew)); exact HO_233001.out) hb); have n2_ := Aside0.mk (Kd.R_below (by (with_reducible repeat (first | apply Kd.R_alloc | apply Kd.R_drewN | apply Kd.R_drew)); exact HO_235001.out) hb); have n3_ := Aside0.mk (blk_below (g := gb232) (o := .cells #[.int .i64 x233000_1, u233001] 35 (0, 0)) (by (with_reducible repeat (first | refine blk_drewN ?_ _ | refine blk_drew ?_ | refine blk_alloc ?_ _)); exact BK232.out) hb); have n4_ := Aside0.mk (blk_below (g := gb234) (o := .cells #[.int .i64 x235000_13, .slice Ao56 x235001_13.length co56] 35 (0, 0)) (by (with_reducible repeat (first | refine blk_drewN ?_ _ | refine blk_drew ?_ | refine blk_alloc ?_ _)); exact BK234.out) hb); have n5_ := Aside0.mk (below_step (by repeat (first | (with_reducible first | exact HB.out | apply below_alloc | apply pw_below_drewN | apply below_drew1 | refine below_set ?_ GE232.out | refine below_set ?_ GE234.out) | exact HB.out)) hb); clear HO_7; clear HO_233001; clear HO_235001; clear BK232; clear BK234; clear HB; have HO_7 := n0_; have HO_233001 := n1_; have HO_235001 := n2_; have BK232 := n3_; have BK234 := n4_; have HB := n5_; clear n0_ n1_ n2_ n3_ n4_ n5_; (try clear hb); (try clear hb2); (try clear hk); (try clear hi); have hcz58_0 : w57.cell? ⟨gb234, 0, none⟩ = some (.int .i64 x235000_13) := (blk_cell BK234.out 0).trans rfl; have hcz58_1 : w57.cell? ⟨gb234, 1, none⟩ = some (.slice Ao56 x235001_13.length co56) := (blk_cell BK234.out 1).trans rfl; have hfz58_0 := blk_frozen BK234.out 0; have hfz58_1 := blk_frozen BK234.out 1; have hcz59_0 : w57.cell? ⟨gb232, 0, none⟩ = some (.int .i64 x233000_1) := (blk_cell BK232.out 0).trans rfl; have hcz59_1 : w57.cell? ⟨gb232, 1, none⟩ = some (u233001) := (blk_cell BK232.out 1).trans rfl; have hfz59_0 := blk_frozen BK232.out 0; have hfz59_1 := blk_frozen BK232.out 1))
             go_meet
             case rel => exact ⟨_, (true), (by first | rfl | (simp; done) | (simp [*]; done)), H', ⟨by have := HK1.out; have := HJ13.out; first | omega | exact Nat.le_refl _⟩, ⟨by (with_reducible repeat (first | apply Kd.R_alloc | apply Kd.R_drewN | apply Kd.R_drew)); exact HO_233001.out⟩, ⟨by (with_reducible repeat (first | apply Kd.R_alloc | apply Kd.R_drewN | apply Kd.R_drew)); exact HO_235001.out⟩, ⟨by (with_reducible repeat (first | refine blk_drewN ?_ _ | refine blk_drew ?_ | refine blk_alloc ?_ _)); exact BK232.out⟩, ⟨by (with_reducible repeat (first | refine blk_drewN ?_ _ | refine blk_drew ?_ | refine blk_alloc ?_ _)); exact BK234.out⟩, ⟨by repeat (first | (with_reducible first | exact HB.out | apply below_alloc | apply pw_below_drewN | apply below_drew1 | refine below_set ?_ GE232.out | refine below_set ?_ GE234.out) | exact HB.out)⟩⟩
           ·
            replace c45 := Bool.eq_false_iff.mpr c45
            subst c45
            have H1 : (gazetteerlaw14_AtlasGoes.j2 kj13 l0 x4_1 true x233000_1 x233001_1 x235000_13 x235001_13) = some r := by rw [if_neg (show ¬ (false = true) by decide)] at H; exact H
            clear H
            have H := H1
            clear H1
            have H' := Aside0.mk H
            clear H
            have hnb60 := NB234_232.out
            have hnc60 := NB232_234.out
            have hcz61_0 : wc.cell? ⟨gb234, 0, none⟩ = some (.int .i64 x235000_13) := (blk_cell BK234.out 0).trans rfl
            have hcz61_1 : wc.cell? ⟨gb234, 1, none⟩ = some (u235001) := (blk_cell BK234.out 1).trans rfl
            have hfz61_0 := blk_frozen BK234.out 0
            have hfz61_1 := blk_frozen BK234.out 1
            obtain ⟨Ao62, co62, eo62⟩ := Kd.R_slice HO_235001.out
            subst eo62
            go_wp2_with (first | ((with_reducible refine gate_callee (f := 28) rfl ?_); refine goesL_ (some 87) rfl rfl Try.func28 (by kernel_rfl) rfl #[.agg #[.int .i64 x235000_13, .slice Ao62 x235001_13.length co62], .int .i64 5] rfl (by (try simp only [List.map_toArray, List.map_cons, List.map_nil]); first | done | rfl | (simp only [List.length_drop, List.length_take]; done) | (simp only [List.length_drop, List.length_take]; rfl)) ?_; (with_reducible refine (atlas_May.calls kj13 x235000_13 _ _ x235001_13 5 false _ ?side1 ?side2 A44.out).mono ?_); (case side1 => repeat (first | exact (Kd.R_reads' HO_235001.out).2.2 | (with_reducible refine Kd.C_alloc ?_ _) | (with_reducible refine Kd.C_drewN ?_ _) | (with_reducible refine Kd.C_drew ?_))); (case side2 => exact (Kd.R_reads' HO_235001.out).2.1); rintro e w63 ⟨rfl, hb⟩; refine ⟨_, rfl, ?_⟩; have n0_ := Aside0.mk (Kd.R_below (by (with_reducible repeat (first | apply Kd.R_alloc | apply Kd.R_drewN | apply Kd.R_drew)); exact HO_7.out) hb); have n1_ := Aside0.mk (Kd.R_below (by (with_reducible repeat (first | apply Kd.R_alloc | apply Kd.R_drewN | apply Kd.R_drew)); exact HO_233001.out) hb); have n2_ := Aside0.mk (Kd.R_below (by (with_reducible repeat (first | apply Kd.R_alloc | apply Kd.R_drewN | apply Kd.R_drew)); exact HO_235001.out) hb); have n3_ := Aside0.mk (blk_below (g := gb232) (o := .cells #[.int .i64 x233000_1, u233001] 35 (0, 0)) (by (with_reducible repeat (first | refine blk_drewN ?_ _ | refine blk_drew ?_ | refine blk_alloc ?_ _)); exact BK232.out) hb); have n4_ := Aside0.mk (blk_below (g := gb234) (o := .cells #[.int .i64 x235000_13, .slice Ao62 x235001_13.length co62] 35 (0, 0)) (by (with_reducible repeat (first | refine blk_drewN ?_ _ | refine blk_drew ?_ | refine blk_alloc ?_ _)); exact BK234.out) hb); have n5_ := Aside0.mk (below_step (by repeat (first | (with_reducible first | exact HB.out | apply below_alloc | apply pw_below_drewN | apply below_drew1 | refine below_set ?_ GE232.out | refine below_set ?_ GE234.out) | exact HB.out)) hb); clear HO_7; clear HO_233001; clear HO_235001; clear BK232; clear BK234; clear HB; have HO_7 := n0_; have HO_233001 := n1_; have HO_235001 := n2_; have BK232 := n3_; have BK234 := n4_; have HB := n5_; clear n0_ n1_ n2_ n3_ n4_ n5_; (try clear hb); (try clear hb2); (try clear hk); (try clear hi)))
            go_meet
            case rel => exact ⟨_, (true), (by first | rfl | (simp; done) | (simp [*]; done)), H', ⟨by have := HK1.out; have := HJ13.out; first | omega | exact Nat.le_refl _⟩, ⟨by (with_reducible repeat (first | apply Kd.R_alloc | apply Kd.R_drewN | apply Kd.R_drew)); exact HO_233001.out⟩, ⟨by (with_reducible repeat (first | apply Kd.R_alloc | apply Kd.R_drewN | apply Kd.R_drew)); exact HO_235001.out⟩, ⟨by (with_reducible repeat (first | refine blk_drewN ?_ _ | refine blk_drew ?_ | refine blk_alloc ?_ _)); exact BK232.out⟩, ⟨by (with_reducible repeat (first | refine blk_drewN ?_ _ | refine blk_drew ?_ | refine blk_alloc ?_ _)); exact BK234.out⟩, ⟨by repeat (first | (with_reducible first | exact HB.out | apply below_alloc | apply pw_below_drewN | apply below_drew1 | refine below_set ?_ GE232.out | refine below_set ?_ GE234.out) | exact HB.out)⟩⟩
          case rest =>
           clear HC43
           try clear c1
           try clear c2
           try clear p2
           try clear q2
           try clear hx2
           try clear hcv2
           try clear c4
           try clear c5
           try clear c6
           try clear p6
           try clear c13
           try clear c13b0
           try clear c16
           try clear c16b0
           try clear c16b1
           try clear hcv21
           try clear p23
           try clear q23
           try clear hx23
           try clear c25
           try clear p25
           try clear q25
           try clear hx25
           try clear c26
           try clear c27
           try clear c27b0
           try clear c27b1
           try clear c28
           try clear c29
           try clear c42
           try clear c42b0
           try clear c42b1
           try clear c45
           try clear c46
           try clear c46b0
           try clear c46b1
           try clear c47
           try clear c54
           try clear c60
           try clear hcz30_0
           try clear hcz30_1
           try clear hcz33_0
           try clear hcz33_1
           try clear hcz48_0
           try clear hcz48_1
           try clear hcz51_0
           try clear hcz51_1
           try clear hcz52_0
           try clear hcz52_1
           try clear hcz55_0
           try clear hcz55_1
           try clear hcz58_0
           try clear hcz58_1
           try clear hcz59_0
           try clear hcz59_1
           try clear hcz61_0
           try clear hcz61_1
           try clear hfz30_0
           try clear hfz30_1
           try clear hfz33_0
           try clear hfz33_1
           try clear hfz48_0
           try clear hfz48_1
           try clear hfz51_0
           try clear hfz51_1
           try clear hfz52_0
           try clear hfz52_1
           try clear hfz55_0
           try clear hfz55_1
           try clear hfz58_0
           try clear hfz58_1
           try clear hfz59_0
           try clear hfz59_1
           try clear hfz61_0
           try clear hfz61_1
           try clear hx233_0
           try clear hx233_1
           try clear hx233_2
           try clear hx235_0
           try clear hx235_1
           try clear hx235_2
           try clear hx236_0
           try clear hx236_1
           try clear hx236_2
           try clear hx237_0
           try clear hx237_1
           try clear hx237_2
           try clear hx257_0
           try clear hx257_1
           try clear hx257_2
           try clear p2
           try clear p23
           try clear p233
           try clear p235
           try clear p236
           try clear p237
           try clear p25
           try clear p257
           try clear p6
           try clear q2
           try clear q23
           try clear q233
           try clear q235
           try clear q236
           try clear q237
           try clear q25
           try clear q257
           obtain ⟨kq, x101_42, rfl, HA, HJ42, HO_233001, HO_235001, BK232, BK234, HB⟩ := hcut
           cases kq with
           | zero => exact absurd HA.out (by simp [gazetteerlaw14_AtlasGoes.j2])
           | succ kj42 =>
            have H := HA.out
            clear HA
            simp only [gazetteerlaw14_AtlasGoes.j2] at H
            by_cases c64 : x101_42 = true
            ·
             subst c64
             have H1 : (some false) = some r := by rw [if_pos rfl] at H; exact H
             clear H
             have H := H1
             clear H1
             exact absurd H (by rw [HLT.out]; repeat' first | (with_reducible exact dead_none) | (with_reducible exact dead_false) | (with_reducible refine dead_ite ?_ ?_) | (with_reducible refine dead_bind (fun _ => ?_)) | (refine dead_ite ?_ ?_) | (refine dead_bind (fun _ => ?_)) | (simp; done))
            ·
             replace c64 := Bool.eq_false_iff.mpr c64
             subst c64
             have H1 : (gazetteerlaw14_AtlasGoes.l1 kj42 l0 x4_1 0 x233000_1 x233001_1 x235000_13 x235001_13) = some r := by rw [if_neg (show ¬ (false = true) by decide)] at H; exact H
             clear H
             have H := H1
             clear H1
             have H' := Aside0.mk H
             clear H
             go_wp2
             go_loopg [9] kj42 (fun kq v9 w' => ∃ (x9_4 : Int), v9 = .int .i64 x9_4 ∧ Aside0 (gazetteerlaw14_AtlasGoes.l1 kq l0 x4_1 x9_4 x233000_1 x233001_1 x235000_13 x235001_13 = some r) ∧ Aside0 (kq ≤ kj42) ∧ Aside0 (Kd.R k30 30 w' w.heap.size (fun k_ => some k_ ≠ (u235001 : Value).ownBlock) u233001 x233001_1) ∧ Aside0 (Kd.R k30 30 w' w.heap.size (fun k_ => some k_ ≠ (u233001 : Value).ownBlock) u235001 x235001_13) ∧ Aside0 (w'.heap[gb232]? = some (.cells #[.int .i64 x233000_1, u233001] 35 (0, 0))) ∧ Aside0 (w'.heap[gb234]? = some (.cells #[.int .i64 x235000_13, u235001] 35 (0, 0))) ∧ Aside0 (Below w.heap.size w w'))
             case atStart => exact ⟨(0), (by first | rfl | (simp; done) | (simp [*]; done)), H', ⟨Nat.le_refl _⟩, ⟨by (with_reducible repeat (first | apply Kd.R_alloc | apply Kd.R_drewN | apply Kd.R_drew)); exact HO_233001.out⟩, ⟨by (with_reducible repeat (first | apply Kd.R_alloc | apply Kd.R_drewN | apply Kd.R_drew)); exact HO_235001.out⟩, ⟨by (with_reducible repeat (first | refine blk_drewN ?_ _ | refine blk_drew ?_ | refine blk_alloc ?_ _)); exact BK232.out⟩, ⟨by (with_reducible repeat (first | refine blk_drewN ?_ _ | refine blk_drew ?_ | refine blk_alloc ?_ _)); exact BK234.out⟩, ⟨by repeat (first | (with_reducible first | exact HB.out | apply below_alloc | apply pw_below_drewN | apply below_drew1 | refine below_set ?_ GE232.out | refine below_set ?_ GE234.out) | exact HB.out)⟩⟩
             case round =>
              clear H'
              try clear c1
              try clear c2
              try clear p2
              try clear q2
              try clear hx2
              try clear hcv2
              try clear c4
              try clear c5
              try clear c6
              try clear p6
              try clear c13
              try clear c13b0
              try clear c16
              try clear c16b0
              try clear c16b1
              try clear hcv21
              try clear p23
              try clear q23
              try clear hx23
              try clear c25
              try clear p25
              try clear q25
              try clear hx25
              try clear c26
              try clear c27
              try clear c27b0
              try clear c27b1
              try clear c28
              try clear c29
              try clear c42
              try clear c42b0
              try clear c42b1
              try clear c45
              try clear c46
              try clear c46b0
              try clear c46b1
              try clear c47
              try clear c54
              try clear c60
              try clear c64
              try clear p64
              try clear hcz30_0
              try clear hcz30_1
              try clear hcz33_0
              try clear hcz33_1
              try clear hcz48_0
              try clear hcz48_1
              try clear hcz51_0
              try clear hcz51_1
              try clear hcz52_0
              try clear hcz52_1
              try clear hcz55_0
              try clear hcz55_1
              try clear hcz58_0
              try clear hcz58_1
              try clear hcz59_0
              try clear hcz59_1
              try clear hcz61_0
              try clear hcz61_1
              try clear hfz30_0
              try clear hfz30_1
              try clear hfz33_0
              try clear hfz33_1
              try clear hfz48_0
              try clear hfz48_1
              try clear hfz51_0
              try clear hfz51_1
              try clear hfz52_0
              try clear hfz52_1
              try clear hfz55_0
              try clear hfz55_1
              try clear hfz58_0
              try clear hfz58_1
              try clear hfz59_0
              try clear hfz59_1
              try clear hfz61_0
              try clear hfz61_1
              try clear hx233_0
              try clear hx233_1
              try clear hx233_2
              try clear hx235_0
              try clear hx235_1
              try clear hx235_2
              try clear hx236_0
              try clear hx236_1
              try clear hx236_2
              try clear hx237_0
              try clear hx237_1
              try clear hx237_2
              try clear hx257_0
              try clear hx257_1
              try clear hx257_2
              try clear p2
              try clear p23
              try clear p233
              try clear p235
              try clear p236
              try clear p237
              try clear p25
              try clear p257
              try clear p6
              try clear q2
              try clear q23
              try clear q233
              try clear q235
              try clear q236
              try clear q237
              try clear q25
              try clear q257
              obtain ⟨x9_4, rfl, HA, HK4, HO_233001, HO_235001, BK232, BK234, HB⟩ := hrel
              cases gk with
              | zero => exact absurd HA.out (by simp [gazetteerlaw14_AtlasGoes.l1])
              | succ k4 =>
               have H := HA.out
               clear HA
               simp only [gazetteerlaw14_AtlasGoes.l1] at H
               by_cases c65 : x9_4 < (x235001_13.length : Int)
               ·
                rw [if_pos c65] at H
                have c65b0 : decide (x9_4 < (x235001_13.length : Int)) = true := decide_eq_true c65
                clear c65
                have H' := Aside0.mk H
                clear H
                have hnb66 := NB234_232.out
                have hnc66 := NB232_234.out
                have hcz67_0 : wr.cell? ⟨gb234, 0, none⟩ = some (.int .i64 x235000_13) := (blk_cell BK234.out 0).trans rfl
                have hcz67_1 : wr.cell? ⟨gb234, 1, none⟩ = some (u235001) := (blk_cell BK234.out 1).trans rfl
                have hfz67_0 := blk_frozen BK234.out 0
                have hfz67_1 := blk_frozen BK234.out 1
                obtain ⟨Ao68, co68, eo68⟩ := Kd.R_slice HO_235001.out
                subst eo68
                go_wp2
                go_loopg [10, 11] k4 (fun kq v10 v11 w' => ∃ (x10_5 : Bool) (x11_5 : Int), v10 = .bool x10_5 ∧ v11 = .int .i64 x11_5 ∧ Aside0 (gazetteerlaw14_AtlasGoes.l2 kq l0 x4_1 x9_4 x10_5 x11_5 x233000_1 x233001_1 x235000_13 x235001_13 = some r) ∧ Aside0 (kq ≤ k4) ∧ Aside0 (Kd.R k30 30 w' w.heap.size (fun k_ => some k_ ≠ ((.slice Ao68 x235001_13.length co68) : Value).ownBlock) u233001 x233001_1) ∧ Aside0 (Kd.R k30 30 w' w.heap.size (fun k_ => some k_ ≠ (u233001 : Value).ownBlock) (.slice Ao68 x235001_13.length co68) x235001_13) ∧ Aside0 (w'.heap[gb232]? = some (.cells #[.int .i64 x233000_1, u233001] 35 (0, 0))) ∧ Aside0 (w'.heap[gb234]? = some (.cells #[.int .i64 x235000_13, (.slice Ao68 x235001_13.length co68)] 35 (0, 0))) ∧ Aside0 (Below w.heap.size w w'))
                case atStart => exact ⟨(false), (0), (by first | rfl | (simp; done) | (simp [*]; done)), (by first | rfl | (simp; done) | (simp [*]; done)), H', ⟨Nat.le_refl _⟩, ⟨by (with_reducible repeat (first | apply Kd.R_alloc | apply Kd.R_drewN | apply Kd.R_drew)); exact HO_233001.out⟩, ⟨by (with_reducible repeat (first | apply Kd.R_alloc | apply Kd.R_drewN | apply Kd.R_drew)); exact HO_235001.out⟩, ⟨by (with_reducible repeat (first | refine blk_drewN ?_ _ | refine blk_drew ?_ | refine blk_alloc ?_ _)); exact BK232.out⟩, ⟨by (with_reducible repeat (first | refine blk_drewN ?_ _ | refine blk_drew ?_ | refine blk_alloc ?_ _)); exact BK234.out⟩, ⟨by repeat (first | (with_reducible first | exact HB.out | apply below_alloc | apply pw_below_drewN | apply below_drew1 | refine below_set ?_ GE232.out | refine below_set ?_ GE234.out) | exact HB.out)⟩⟩
                case round =>
                 clear H'
                 try clear c1
                 try clear c2
                 try clear p2
                 try clear q2
                 try clear hx2
                 try clear hcv2
                 try clear c4
                 try clear c5
                 try clear c6
                 try clear p6
                 try clear c13
                 try clear c13b0
                 try clear c16
                 try clear c16b0
                 try clear c16b1
                 try clear hcv21
                 try clear p23
                 try clear q23
                 try clear hx23
                 try clear c25
                 try clear p25
                 try clear q25
                 try clear hx25
                 try clear c26
                 try clear c27
                 try clear c27b0
                 try clear c27b1
                 try clear c28
                 try clear c29
                 try clear c42
                 try clear c42b0
                 try clear c42b1
                 try clear c45
                 try clear c46
                 try clear c46b0
                 try clear c46b1
                 try clear c47
                 try clear c54
                 try clear c60
                 try clear c64
                 try clear p64
                 try clear c65
                 try clear c65b0
                 try clear c66
                 try clear hcz30_0
                 try clear hcz30_1
                 try clear hcz33_0
                 try clear hcz33_1
                 try clear hcz48_0
                 try clear hcz48_1
                 try clear hcz51_0
                 try clear hcz51_1
                 try clear hcz52_0
                 try clear hcz52_1
                 try clear hcz55_0
                 try clear hcz55_1
                 try clear hcz58_0
                 try clear hcz58_1
                 try clear hcz59_0
                 try clear hcz59_1
                 try clear hcz61_0
                 try clear hcz61_1
                 try clear hcz67_0
                 try clear hcz67_1
                 try clear hfz30_0
                 try clear hfz30_1
                 try clear hfz33_0
                 try clear hfz33_1
                 try clear hfz48_0
                 try clear hfz48_1
                 try clear hfz51_0
                 try clear hfz51_1
                 try clear hfz52_0
                 try clear hfz52_1
                 try clear hfz55_0
                 try clear hfz55_1
                 try clear hfz58_0
                 try clear hfz58_1
                 try clear hfz59_0
                 try clear hfz59_1
                 try clear hfz61_0
                 try clear hfz61_1
                 try clear hfz67_0
                 try clear hfz67_1
                 try clear hx233_0
                 try clear hx233_1
                 try clear hx233_2
                 try clear hx235_0
                 try clear hx235_1
                 try clear hx235_2
                 try clear hx236_0
                 try clear hx236_1
                 try clear hx236_2
                 try clear hx237_0
                 try clear hx237_1
                 try clear hx237_2
                 try clear hx257_0
                 try clear hx257_1
                 try clear hx257_2
                 try clear p2
                 try clear p23
                 try clear p233
                 try clear p235
                 try clear p236
                 try clear p237
                 try clear p25
                 try clear p257
                 try clear p6
                 try clear p64
                 try clear q2
                 try clear q23
                 try clear q233
                 try clear q235
                 try clear q236
                 try clear q237
                 try clear q25
                 try clear q257
                 obtain ⟨x10_5, x11_5, rfl, rfl, HA, HK5, HO_233001, HO_235001, BK232, BK234, HB⟩ := hrel
                 cases gk with
                 | zero => exact absurd HA.out (by simp [gazetteerlaw14_AtlasGoes.l2])
                 | succ k5 =>
                  have H := HA.out
                  clear HA
                  simp only [gazetteerlaw14_AtlasGoes.l2] at H
                  by_cases c69 : x11_5 < (x233001_1.length : Int)
                  ·
                   rw [if_pos c69] at H
                   have c69b0 : decide (x11_5 < (x233001_1.length : Int)) = true := decide_eq_true c69
                   clear c69
                   by_cases c70 : x10_5 = true
                   ·
                    subst c70
                    have H1 : (gazetteerlaw14_AtlasGoes.l2 k5 l0 x4_1 x9_4 true (wrap64 (x11_5 + 1)) x233000_1 x233001_1 x235000_13 x235001_13) = some r := by rw [if_pos rfl] at H; exact H
                    clear H
                    have H := H1
                    clear H1
                    have H' := Aside0.mk H
                    clear H
                    have hnb71 := NB232_234.out
                    have hnc71 := NB234_232.out
                    have hcz72_0 : wr.cell? ⟨gb232, 0, none⟩ = some (.int .i64 x233000_1) := (blk_cell BK232.out 0).trans rfl
                    have hcz72_1 : wr.cell? ⟨gb232, 1, none⟩ = some (u233001) := (blk_cell BK232.out 1).trans rfl
                    have hfz72_0 := blk_frozen BK232.out 0
                    have hfz72_1 := blk_frozen BK232.out 1
                    obtain ⟨Ao73, co73, eo73⟩ := Kd.R_slice HO_233001.out
                    subst eo73
                    try go_wp2
                    have n0_ := Aside0.mk (Kd.R_drew HO_233001.out)
                    have n1_ := Aside0.mk (Kd.R_drew HO_235001.out)
                    have n2_ := Aside0.mk (blk_drew BK232.out)
                    have n3_ := Aside0.mk (blk_drew BK234.out)
                    have n4_ := Aside0.mk (below_drew1 HB.out)
                    clear HO_233001
                    clear HO_235001
                    clear BK232
                    clear BK234
                    clear HB
                    have HO_233001 := n0_
                    have HO_235001 := n1_
                    have BK232 := n2_
                    have BK234 := n3_
                    have HB := n4_
                    clear n0_ n1_ n2_ n3_ n4_
                    refine start_ (n := 15) (S := fun w' => True) (ds := []) #[false, false, false, false, false, false, false, false, false, false, false, false, false, false, false] (by kernel_rfl) rfl rfl trivial (fun hHeld => ?_); refine with_tabW gazetteerlaw14_AtlasGoes.tab29 gazetteerlaw14_AtlasGoes.bits29 (fun HT_ HW_ => ?_)
                    generalize wr.drew = w74 at HO_233001 HO_235001 BK232 BK234 HB hHeld ⊢
                    refine pure_ (i := 0) (N := some 116) (v := ?_) (a' := ?_) #[true, false, false, false, false, false, false, false, false, false, false, false, false, false, false] rfl rfl (any_of HT_.out (by kernel_rfl)) (fun _ _ _ h => h) (Or.inl ⟨by rfl, ?_⟩) ?_ ?_
                    rotate_left
                    ·
                     intro w'
                     go_simp
                     with_reducible rfl
                    rotate_left
                    ·
                     simp only [Act.put, List.setIfInBounds_toArray, List.set_cons_zero, List.set_cons_succ, i64_w, i32_w]
                     rfl
                    refine pure_ (i := 1) (N := some 117) (v := ?_) (a' := ?_) #[true, true, false, false, false, false, false, false, false, false, false, false, false, false, false] rfl rfl (any_of HT_.out (by kernel_rfl)) (fun _ _ _ h => h) (Or.inl ⟨by rfl, ?_⟩) ?_ ?_
                    rotate_left
                    ·
                     intro w'
                     go_simp
                     with_reducible rfl
                    rotate_left
                    ·
                     simp only [Act.put, List.setIfInBounds_toArray, List.set_cons_zero, List.set_cons_succ, i64_w, i32_w]
                     rfl
                    refine pure_ (i := 2) (N := some 118) (v := undef) (a' := ?_) #[true, true, true, false, false, false, false, false, false, false, false, false, false, false, false] rfl rfl (any_of HT_.out (by kernel_rfl)) (fun _ _ _ h => h) (Or.inr ⟨by rfl, rfl⟩) ?_ ?_
                    rotate_left
                    ·
                     simp only [Act.put, List.setIfInBounds_toArray, List.set_cons_zero, List.set_cons_succ, i64_w, i32_w]
                     rfl
                    refine pure_ (i := 3) (N := some 119) (v := undef) (a' := ?_) #[true, true, true, true, false, false, false, false, false, false, false, false, false, false, false] rfl rfl (any_of HT_.out (by kernel_rfl)) (fun _ _ _ h => h) (Or.inr ⟨by rfl, rfl⟩) ?_ ?_
                    rotate_left
                    ·
                     simp only [Act.put, List.setIfInBounds_toArray, List.set_cons_zero, List.set_cons_succ, i64_w, i32_w]
                     rfl
                    refine pure_ (i := 4) (N := some 120) (v := undef) (a' := ?_) #[true, true, true, true, true, false, false, false, false, false, false, false, false, false, false] rfl rfl (any_of HT_.out (by kernel_rfl)) (fun _ _ _ h => h) (Or.inr ⟨by rfl, rfl⟩) ?_ ?_
                    rotate_left
                    ·
                     simp only [Act.put, List.setIfInBounds_toArray, List.set_cons_zero, List.set_cons_succ, i64_w, i32_w]
                     rfl
                    refine pure_ (i := 5) (N := some 121) (v := undef) (a' := ?_) #[true, true, true, true, true, true, false, false, false, false, false, false, false, false, false] rfl rfl (any_of HT_.out (by kernel_rfl)) (fun _ _ _ h => h) (Or.inr ⟨by rfl, rfl⟩) ?_ ?_
                    rotate_left
                    ·
                     simp only [Act.put, List.setIfInBounds_toArray, List.set_cons_zero, List.set_cons_succ, i64_w, i32_w]
                     rfl
                    refine pure_ (i := 6) (N := some 122) (v := undef) (a' := ?_) #[true, true, true, true, true, true, true, false, false, false, false, false, false, false, false] rfl rfl (any_of HT_.out (by kernel_rfl)) (fun _ _ _ h => h) (Or.inr ⟨by rfl, rfl⟩) ?_ ?_
                    rotate_left
                    ·
                     simp only [Act.put, List.setIfInBounds_toArray, List.set_cons_zero, List.set_cons_succ, i64_w, i32_w]
                     rfl
                    refine pure_ (i := 7) (N := some 123) (v := undef) (a' := ?_) #[true, true, true, true, true, true, true, true, false, false, false, false, false, false, false] rfl rfl (any_of HT_.out (by kernel_rfl)) (fun _ _ _ h => h) (Or.inr ⟨by rfl, rfl⟩) ?_ ?_
                    rotate_left
                    ·
                     simp only [Act.put, List.setIfInBounds_toArray, List.set_cons_zero, List.set_cons_succ, i64_w, i32_w]
                     rfl
                    refine pure_ (i := 8) (N := some 124) (v := undef) (a' := ?_) #[true, true, true, true, true, true, true, true, true, false, false, false, false, false, false] rfl rfl (any_of HT_.out (by kernel_rfl)) (fun _ _ _ h => h) (Or.inr ⟨by rfl, rfl⟩) ?_ ?_
                    rotate_left
                    ·
                     simp only [Act.put, List.setIfInBounds_toArray, List.set_cons_zero, List.set_cons_succ, i64_w, i32_w]
                     rfl
                    refine pure_ (i := 9) (N := some 125) (v := undef) (a' := ?_) #[true, true, true, true, true, true, true, true, true, true, false, false, false, false, false] rfl rfl (any_of HT_.out (by kernel_rfl)) (fun _ _ _ h => h) (Or.inr ⟨by rfl, rfl⟩) ?_ ?_
                    rotate_left
                    ·
                     simp only [Act.put, List.setIfInBounds_toArray, List.set_cons_zero, List.set_cons_succ, i64_w, i32_w]
                     rfl
                    refine pure_ (i := 10) (N := some 126) (v := undef) (a' := ?_) #[true, true, true, true, true, true, true, true, true, true, true, false, false, false, false] rfl rfl (any_of HT_.out (by kernel_rfl)) (fun _ _ _ h => h) (Or.inr ⟨by rfl, rfl⟩) ?_ ?_
                    rotate_left
                    ·
                     simp only [Act.put, List.setIfInBounds_toArray, List.set_cons_zero, List.set_cons_succ, i64_w, i32_w]
                     rfl
                    refine pure_ (i := 11) (N := some 127) (v := undef) (a' := ?_) #[true, true, true, true, true, true, true, true, true, true, true, true, false, false, false] rfl rfl (any_of HT_.out (by kernel_rfl)) (fun _ _ _ h => h) (Or.inr ⟨by rfl, rfl⟩) ?_ ?_
                    rotate_left
                    ·
                     simp only [Act.put, List.setIfInBounds_toArray, List.set_cons_zero, List.set_cons_succ, i64_w, i32_w]
                     rfl
                    refine pure_ (i := 12) (N := some 128) (v := undef) (a' := ?_) #[true, true, true, true, true, true, true, true, true, true, true, true, true, false, false] rfl rfl (any_of HT_.out (by kernel_rfl)) (fun _ _ _ h => h) (Or.inr ⟨by rfl, rfl⟩) ?_ ?_
                    rotate_left
                    ·
                     simp only [Act.put, List.setIfInBounds_toArray, List.set_cons_zero, List.set_cons_succ, i64_w, i32_w]
                     rfl
                    refine pure_ (i := 13) (N := some 129) (v := ?_) (a' := ?_) #[true, true, true, true, true, true, true, true, true, true, true, true, true, true, false] rfl rfl (any_of HT_.out (by kernel_rfl)) (fun _ _ _ h => h) (Or.inl ⟨by rfl, ?_⟩) ?_ ?_
                    rotate_left
                    ·
                     intro w'
                     go_simp
                     with_reducible rfl
                    rotate_left
                    ·
                     simp only [Act.put, List.setIfInBounds_toArray, List.set_cons_zero, List.set_cons_succ, i64_w, i32_w]
                     rfl
                    refine pure_ (i := 14) (N := some 10) (v := ?_) (a' := ?_) #[true, true, true, true, true, true, true, true, true, true, true, true, true, true, true] rfl rfl (any_of HT_.out (by kernel_rfl)) (fun _ _ _ h => h) (Or.inl ⟨by rfl, ?_⟩) ?_ ?_
                    rotate_left
                    ·
                     intro w'
                     go_simp
                     with_reducible rfl
                    rotate_left
                    ·
                     simp only [Act.put, List.setIfInBounds_toArray, List.set_cons_zero, List.set_cons_succ, i64_w, i32_w]
                     rfl
                    refine done_ (done_of HT_.out (by kernel_rfl)) ?_
                    try go_wp2
                    go_roundg k5
                    case measure => have := HK1.out; have := HJ13.out; have := HJ42.out; have := HK4.out; have := HK5.out; omega
                    case rel => exact ⟨(true), (wrap64 (x11_5 + 1)), (by first | rfl | (simp; done) | (simp [*]; done)), (by first | rfl | (simp; done) | (simp [*]; done)), H', ⟨by have := HK1.out; have := HJ13.out; have := HJ42.out; have := HK4.out; have := HK5.out; omega⟩, ⟨by (with_reducible repeat (first | apply Kd.R_alloc | apply Kd.R_drewN | apply Kd.R_drew)); exact HO_233001.out⟩, ⟨by (with_reducible repeat (first | apply Kd.R_alloc | apply Kd.R_drewN | apply Kd.R_drew)); exact HO_235001.out⟩, ⟨by (with_reducible repeat (first | refine blk_drewN ?_ _ | refine blk_drew ?_ | refine blk_alloc ?_ _)); exact BK232.out⟩, ⟨by (with_reducible repeat (first | refine blk_drewN ?_ _ | refine blk_drew ?_ | refine blk_alloc ?_ _)); exact BK234.out⟩, ⟨by repeat (first | (with_reducible first | exact HB.out | apply below_alloc | apply pw_below_drewN | apply below_drew1 | refine below_set ?_ GE232.out | refine below_set ?_ GE234.out) | exact HB.out)⟩⟩
                   ·
                    replace c70 := Bool.eq_false_iff.mpr c70
                    subst c70
                    have H1 : (if 0 ≤ x11_5 then (if 0 ≤ x9_4 then (if x9_4 < (x235001_13.length : Int) then (gazetteerlaw14_AtlasGoes.l2 k5 l0 x4_1 x9_4 (((((rd_T30 x233001_1 x11_5).f0.f0).toList) == (((rd_T30 x235001_13 x9_4).f0.f0).toList) && ((((rd_T30 x233001_1 x11_5).f0.f1).toList) == (((rd_T30 x235001_13 x9_4).f0.f1).toList))) && (((rd_T30 x233001_1 x11_5).f1) == ((rd_T30 x235001_13 x9_4).f1) && (((rd_T30 x233001_1 x11_5).f2) == ((rd_T30 x235001_13 x9_4).f2)))) (wrap64 (x11_5 + 1)) x233000_1 x233001_1 x235000_13 x235001_13) else (none)) else (none)) else (none)) = some r := by rw [if_neg (show ¬ (false = true) by decide)] at H; exact H
                    clear H
                    have H := H1
                    clear H1
                    by_cases c75 : 0 ≤ x11_5
                    ·
                     rw [if_pos c75] at H
                     have c75b0 : decide (0 ≤ x11_5) = true := decide_eq_true c75
                     clear c75
                     by_cases c76 : 0 ≤ x9_4
                     ·
                      rw [if_pos c76] at H
                      have c76b0 : decide (0 ≤ x9_4) = true := decide_eq_true c76
                      clear c76
                      by_cases c77 : x9_4 < (x235001_13.length : Int)
                      ·
                       rw [if_pos c77] at H
                       have c77b0 : decide (x9_4 < (x235001_13.length : Int)) = true := decide_eq_true c77
                       clear c77
                       have H' := Aside0.mk H
                       clear H
                       have hnb78 := NB232_234.out
                       have hnc78 := NB234_232.out
                       have hcz79_0 : wr.cell? ⟨gb232, 0, none⟩ = some (.int .i64 x233000_1) := (blk_cell BK232.out 0).trans rfl
                       have hcz79_1 : wr.cell? ⟨gb232, 1, none⟩ = some (u233001) := (blk_cell BK232.out 1).trans rfl
                       have hfz79_0 := blk_frozen BK232.out 0
                       have hfz79_1 := blk_frozen BK232.out 1
                       obtain ⟨Ao80, co80, eo80⟩ := Kd.R_slice HO_233001.out
                       subst eo80
                       try go_wp2
                       have n0_ := Aside0.mk (Kd.R_drew HO_233001.out)
                       have n1_ := Aside0.mk (Kd.R_drew HO_235001.out)
                       have n2_ := Aside0.mk (blk_drew BK232.out)
                       have n3_ := Aside0.mk (blk_drew BK234.out)
                       have n4_ := Aside0.mk (below_drew1 HB.out)
                       clear HO_233001
                       clear HO_235001
                       clear BK232
                       clear BK234
                       clear HB
                       have HO_233001 := n0_
                       have HO_235001 := n1_
                       have BK232 := n2_
                       have BK234 := n3_
                       have HB := n4_
                       clear n0_ n1_ n2_ n3_ n4_
                       have p267 : 0 ≤ (x11_5 : Int) := of_decide_eq_true (by first | (with_reducible assumption) | assumption)
                       have q267 : x11_5 < (x233001_1.length : Int) := of_decide_eq_true (by first | (with_reducible assumption) | assumption)
                       obtain ⟨ad267, e267, hx267_0, hx267_1, hx267_2, hx267_3⟩ := at_T30 (Kd.R_reads' HO_233001.out).2.2 x11_5 p267 q267
                       cases e267
                       replace p267 := eq_true p267
                       replace q267 := eq_true q267
                       have p268 : 0 ≤ (x9_4 : Int) := of_decide_eq_true (by first | (with_reducible assumption) | assumption)
                       have q268 : x9_4 < (x235001_13.length : Int) := of_decide_eq_true (by first | (with_reducible assumption) | assumption)
                       obtain ⟨ad268, e268, hx268_0, hx268_1, hx268_2, hx268_3⟩ := at_T30 (Kd.R_reads' HO_235001.out).2.2 x9_4 p268 q268
                       cases e268
                       replace p268 := eq_true p268
                       replace q268 := eq_true q268
                       refine start_ (n := 15) (S := fun w' => w'.cell? ⟨gb232, 0, none⟩ = some (.int .i64 x233000_1) ∧ w'.cell? ⟨gb232, 1, none⟩ = some (.slice (some ad267) x233001_1.length co80) ∧ w'.cell? ⟨gb234, 0, none⟩ = some (.int .i64 x235000_13) ∧ w'.cell? ⟨gb234, 1, none⟩ = some (.slice (some ad268) x235001_13.length co68) ∧ w'.cell? (ad267.add ((x11_5).toNat * 4)) = some (.string ((rd_T30 x233001_1 x11_5).f0.f0)) ∧ w'.cell? ⟨(ad267.add ((x11_5).toNat * 4)).block, (ad267.add ((x11_5).toNat * 4)).off + 1, none⟩ = some (.string ((rd_T30 x233001_1 x11_5).f0.f1)) ∧ w'.cell? ⟨(ad267.add ((x11_5).toNat * 4)).block, (ad267.add ((x11_5).toNat * 4)).off + 2, none⟩ = some (.int .i64 ((rd_T30 x233001_1 x11_5).f1)) ∧ w'.cell? ⟨(ad267.add ((x11_5).toNat * 4)).block, (ad267.add ((x11_5).toNat * 4)).off + 3, none⟩ = some (.int .i64 ((rd_T30 x233001_1 x11_5).f2)) ∧ w'.cell? (ad268.add ((x9_4).toNat * 4)) = some (.string ((rd_T30 x235001_13 x9_4).f0.f0)) ∧ w'.cell? ⟨(ad268.add ((x9_4).toNat * 4)).block, (ad268.add ((x9_4).toNat * 4)).off + 1, none⟩ = some (.string ((rd_T30 x235001_13 x9_4).f0.f1)) ∧ w'.cell? ⟨(ad268.add ((x9_4).toNat * 4)).block, (ad268.add ((x9_4).toNat * 4)).off + 2, none⟩ = some (.int .i64 ((rd_T30 x235001_13 x9_4).f1)) ∧ w'.cell? ⟨(ad268.add ((x9_4).toNat * 4)).block, (ad268.add ((x9_4).toNat * 4)).off + 3, none⟩ = some (.int .i64 ((rd_T30 x235001_13 x9_4).f2))) (ds := []) #[false, false, false, false, false, false, false, false, false, false, false, false, false, false, false] (by kernel_rfl) rfl rfl ⟨(blk_cell BK232.out 0).trans rfl, (blk_cell BK232.out 1).trans rfl, (blk_cell BK234.out 0).trans rfl, (blk_cell BK234.out 1).trans rfl, hx267_0, hx267_1, hx267_2, hx267_3, hx268_0, hx268_1, hx268_2, hx268_3⟩ (fun hHeld => ?_); refine with_tabW gazetteerlaw14_AtlasGoes.tab29 gazetteerlaw14_AtlasGoes.bits29 (fun HT_ HW_ => ?_)
                       generalize wr.drew = w81 at HO_233001 HO_235001 BK232 BK234 HB hx267_0 hx267_1 hx267_2 hx267_3 hx268_0 hx268_1 hx268_2 hx268_3 hHeld ⊢
                       refine pure_ (i := 0) (N := some 116) (v := ?_) (a' := ?_) #[true, false, false, false, false, false, false, false, false, false, false, false, false, false, false] rfl rfl (any_of HT_.out (by kernel_rfl)) (fun _ _ _ h => h) (Or.inl ⟨by rfl, ?_⟩) ?_ ?_
                       rotate_left
                       ·
                        intro w'
                        go_simp
                        with_reducible rfl
                       rotate_left
                       ·
                        simp only [Act.put, List.setIfInBounds_toArray, List.set_cons_zero, List.set_cons_succ, i64_w, i32_w]
                        rfl
                       refine pure_ (i := 1) (N := some 117) (v := ?_) (a' := ?_) #[true, true, false, false, false, false, false, false, false, false, false, false, false, false, false] rfl rfl (any_of HT_.out (by kernel_rfl)) (fun _ _ _ h => h) (Or.inl ⟨by rfl, ?_⟩) ?_ ?_
                       rotate_left
                       ·
                        intro w'
                        go_simp
                        with_reducible rfl
                       rotate_left
                       ·
                        simp only [Act.put, List.setIfInBounds_toArray, List.set_cons_zero, List.set_cons_succ, i64_w, i32_w]
                        rfl
                       refine pure_ (i := 2) (N := some 118) (v := ?_) (a' := ?_) #[true, true, true, false, false, false, false, false, false, false, false, false, false, false, false] rfl rfl (any_of HT_.out (by kernel_rfl)) (fun _ _ _ h => h) (Or.inl ⟨by rfl, ?_⟩) ?_ ?_
                       rotate_left
                       ·
                        intro w'
                        go_simp
                        with_reducible rfl
                       rotate_left
                       ·
                        simp only [Act.put, List.setIfInBounds_toArray, List.set_cons_zero, List.set_cons_succ, i64_w, i32_w]
                        rfl
                       refine pure_ (i := 4) (N := some 120) (v := ?_) (a' := ?_) #[true, true, true, false, true, false, false, false, false, false, false, false, false, false, false] rfl rfl (any_of HT_.out (by kernel_rfl)) (fun _ _ _ h => h) (Or.inl ⟨by rfl, ?_⟩) ?_ ?_
                       rotate_left
                       ·
                        intro w'
                        go_simp
                        with_reducible rfl
                       rotate_left
                       ·
                        simp only [Act.put, List.setIfInBounds_toArray, List.set_cons_zero, List.set_cons_succ, i64_w, i32_w]
                        rfl
                       refine pure_ (i := 7) (N := some 123) (v := ?_) (a' := ?_) #[true, true, true, false, true, false, false, true, false, false, false, false, false, false, false] rfl rfl (any_of HT_.out (by kernel_rfl)) (fun _ _ _ h => h) (Or.inl ⟨by rfl, ?_⟩) ?_ ?_
                       rotate_left
                       ·
                        intro w'
                        go_simp
                        with_reducible rfl
                       rotate_left
                       ·
                        simp only [Act.put, List.setIfInBounds_toArray, List.set_cons_zero, List.set_cons_succ, i64_w, i32_w]
                        rfl
                       refine pure_ (i := 9) (N := some 125) (v := ?_) (a' := ?_) #[true, true, true, false, true, false, false, true, false, true, false, false, false, false, false] rfl rfl (any_of HT_.out (by kernel_rfl)) (fun _ _ _ h => h) (Or.inl ⟨by rfl, ?_⟩) ?_ ?_
                       rotate_left
                       ·
                        intro w'
                        go_simp
                        with_reducible rfl
                       rotate_left
                       ·
                        simp only [Act.put, List.setIfInBounds_toArray, List.set_cons_zero, List.set_cons_succ, i64_w, i32_w]
                        rfl
                       refine take_ (i := 3) (N := some 119) (v := ?_) (a' := ?_) #[true, true, true, true, true, false, false, true, false, true, false, false, false, false, false] rfl rfl (take_ofW HT_.out HW_.out (by kernel_rfl)) (fun _ _ _ h => h) (Or.inl ⟨by rfl, ?_⟩) hHeld ?_ ?_
                       rotate_left
                       ·
                        rintro w' ⟨s0, s1, s2, s3, s4, s5, s6, s7, s8, s9, s10, s11⟩
                        go_simp
                        with_reducible rfl
                       rotate_left
                       ·
                        simp only [Act.put, List.setIfInBounds_toArray, List.set_cons_zero, List.set_cons_succ, i64_w, i32_w]
                        rfl
                       refine pure_ (i := 5) (N := some 121) (v := ?_) (a' := ?_) #[true, true, true, true, true, true, false, true, false, true, false, false, false, false, false] rfl rfl (any_of HT_.out (by kernel_rfl)) (fun _ _ _ h => h) (Or.inl ⟨by rfl, ?_⟩) ?_ ?_
                       rotate_left
                       ·
                        intro w'
                        go_simp
                        with_reducible rfl
                       rotate_left
                       ·
                        simp only [Act.put, List.setIfInBounds_toArray, List.set_cons_zero, List.set_cons_succ, i64_w, i32_w]
                        rfl
                       refine take_ (i := 6) (N := some 122) (v := ?_) (a' := ?_) #[true, true, true, true, true, true, true, true, false, true, false, false, false, false, false] rfl rfl (take_ofW HT_.out HW_.out (by kernel_rfl)) (fun _ _ _ h => h) (Or.inl ⟨by rfl, ?_⟩) hHeld ?_ ?_
                       rotate_left
                       ·
                        rintro w' ⟨s0, s1, s2, s3, s4, s5, s6, s7, s8, s9, s10, s11⟩
                        go_simp
                        with_reducible rfl
                       rotate_left
                       ·
                        simp only [Act.put, List.setIfInBounds_toArray, List.set_cons_zero, List.set_cons_succ, i64_w, i32_w]
                        rfl
                       refine take_ (i := 8) (N := some 124) (v := ?_) (a' := ?_) #[true, true, true, true, true, true, true, true, true, true, false, false, false, false, false] rfl rfl (take_ofW HT_.out HW_.out (by kernel_rfl)) (fun _ _ _ h => h) (Or.inl ⟨by rfl, ?_⟩) hHeld ?_ ?_
                       rotate_left
                       ·
                        rintro w' ⟨s0, s1, s2, s3, s4, s5, s6, s7, s8, s9, s10, s11⟩
                        go_simp
                        with_reducible rfl
                       rotate_left
                       ·
                        simp only [Act.put, List.setIfInBounds_toArray, List.set_cons_zero, List.set_cons_succ, i64_w, i32_w]
                        rfl
                       refine pure_ (i := 10) (N := some 126) (v := ?_) (a' := ?_) #[true, true, true, true, true, true, true, true, true, true, true, false, false, false, false] rfl rfl (any_of HT_.out (by kernel_rfl)) (fun _ _ _ h => h) (Or.inl ⟨by rfl, ?_⟩) ?_ ?_
                       rotate_left
                       ·
                        intro w'
                        go_simp
                        with_reducible rfl
                       rotate_left
                       ·
                        simp only [Act.put, List.setIfInBounds_toArray, List.set_cons_zero, List.set_cons_succ, i64_w, i32_w]
                        rfl
                       refine take_ (i := 11) (N := some 127) (v := ?_) (a' := ?_) #[true, true, true, true, true, true, true, true, true, true, true, true, false, false, false] rfl rfl (take_ofW HT_.out HW_.out (by kernel_rfl)) (fun _ _ _ h => h) (Or.inl ⟨by rfl, ?_⟩) hHeld ?_ ?_
                       rotate_left
                       ·
                        rintro w' ⟨s0, s1, s2, s3, s4, s5, s6, s7, s8, s9, s10, s11⟩
                        go_simp
                        with_reducible rfl
                       rotate_left
                       ·
                        simp only [Act.put, List.setIfInBounds_toArray, List.set_cons_zero, List.set_cons_succ, i64_w, i32_w]
                        rfl
                       refine pure_ (i := 12) (N := some 128) (v := ?_) (a' := ?_) #[true, true, true, true, true, true, true, true, true, true, true, true, true, false, false] rfl rfl (any_of HT_.out (by kernel_rfl)) (fun _ _ _ h => h) (Or.inl ⟨by rfl, ?_⟩) ?_ ?_
                       rotate_left
                       ·
                        intro w'
                        go_simp
                        with_reducible rfl
                       rotate_left
                       ·
                        simp only [Act.put, List.setIfInBounds_toArray, List.set_cons_zero, List.set_cons_succ, i64_w, i32_w]
                        rfl
                       refine pure_ (i := 13) (N := some 129) (v := ?_) (a' := ?_) #[true, true, true, true, true, true, true, true, true, true, true, true, true, true, false] rfl rfl (any_of HT_.out (by kernel_rfl)) (fun _ _ _ h => h) (Or.inl ⟨by rfl, ?_⟩) ?_ ?_
                       rotate_left
                       ·
                        intro w'
                        go_simp
                        with_reducible rfl
                       rotate_left
                       ·
                        simp only [Act.put, List.setIfInBounds_toArray, List.set_cons_zero, List.set_cons_succ, i64_w, i32_w]
                        rfl
                       refine pure_ (i := 14) (N := some 10) (v := ?_) (a' := ?_) #[true, true, true, true, true, true, true, true, true, true, true, true, true, true, true] rfl rfl (any_of HT_.out (by kernel_rfl)) (fun _ _ _ h => h) (Or.inl ⟨by rfl, ?_⟩) ?_ ?_
                       rotate_left
                       ·
                        intro w'
                        go_simp
                        with_reducible rfl
                       rotate_left
                       ·
                        simp only [Act.put, List.setIfInBounds_toArray, List.set_cons_zero, List.set_cons_succ, i64_w, i32_w]
                        rfl
                       refine done_ (done_of HT_.out (by kernel_rfl)) ?_
                       try go_wp2
                       go_roundg k5
                       case measure => have := HK1.out; have := HJ13.out; have := HJ42.out; have := HK4.out; have := HK5.out; omega
                       case rel => exact ⟨((((((rd_T30 x233001_1 x11_5).f0.f0).toList) == (((rd_T30 x235001_13 x9_4).f0.f0).toList) && ((((rd_T30 x233001_1 x11_5).f0.f1).toList) == (((rd_T30 x235001_13 x9_4).f0.f1).toList))) && (((rd_T30 x233001_1 x11_5).f1) == ((rd_T30 x235001_13 x9_4).f1) && (((rd_T30 x233001_1 x11_5).f2) == ((rd_T30 x235001_13 x9_4).f2))))), (wrap64 (x11_5 + 1)), (by first | rfl | (simp; done) | (simp [*]; done)), (by first | rfl | (simp; done) | (simp [*]; done)), H', ⟨by have := HK1.out; have := HJ13.out; have := HJ42.out; have := HK4.out; have := HK5.out; omega⟩, ⟨by (with_reducible repeat (first | apply Kd.R_alloc | apply Kd.R_drewN | apply Kd.R_drew)); exact HO_233001.out⟩, ⟨by (with_reducible repeat (first | apply Kd.R_alloc | apply Kd.R_drewN | apply Kd.R_drew)); exact HO_235001.out⟩, ⟨by (with_reducible repeat (first | refine blk_drewN ?_ _ | refine blk_drew ?_ | refine blk_alloc ?_ _)); exact BK232.out⟩, ⟨by (with_reducible repeat (first | refine blk_drewN ?_ _ | refine blk_drew ?_ | refine blk_alloc ?_ _)); exact BK234.out⟩, ⟨by repeat (first | (with_reducible first | exact HB.out | apply below_alloc | apply pw_below_drewN | apply below_drew1 | refine below_set ?_ GE232.out | refine below_set ?_ GE234.out) | exact HB.out)⟩⟩
                      ·
                       rw [if_neg c77] at H
                       exact absurd H (by simp)
                     ·
                      rw [if_neg c76] at H
                      exact absurd H (by simp)
                    ·
                     rw [if_neg c75] at H
                     exact absurd H (by simp)
                  ·
                   rw [if_neg c69] at H
                   have c69b0 : decide (x11_5 < (x233001_1.length : Int)) = false := decide_eq_false c69
                   clear c69
                   by_cases c82 : x10_5 = true
                   ·
                    subst c82
                    have H1 : (gazetteerlaw14_AtlasGoes.l1 k5 l0 x4_1 (wrap64 (x9_4 + 1)) x233000_1 x233001_1 x235000_13 x235001_13) = some r := by rw [if_pos rfl] at H; exact H
                    clear H
                    have H := H1
                    clear H1
                    have H' := Aside0.mk H
                    clear H
                    have hnb83 := NB232_234.out
                    have hnc83 := NB234_232.out
                    have hcz84_0 : wr.cell? ⟨gb232, 0, none⟩ = some (.int .i64 x233000_1) := (blk_cell BK232.out 0).trans rfl
                    have hcz84_1 : wr.cell? ⟨gb232, 1, none⟩ = some (u233001) := (blk_cell BK232.out 1).trans rfl
                    have hfz84_0 := blk_frozen BK232.out 0
                    have hfz84_1 := blk_frozen BK232.out 1
                    obtain ⟨Ao85, co85, eo85⟩ := Kd.R_slice HO_233001.out
                    subst eo85
                    try go_wp2
                    have n0_ := Aside0.mk (Kd.R_drew HO_233001.out)
                    have n1_ := Aside0.mk (Kd.R_drew HO_235001.out)
                    have n2_ := Aside0.mk (blk_drew BK232.out)
                    have n3_ := Aside0.mk (blk_drew BK234.out)
                    have n4_ := Aside0.mk (below_drew1 HB.out)
                    clear HO_233001
                    clear HO_235001
                    clear BK232
                    clear BK234
                    clear HB
                    have HO_233001 := n0_
                    have HO_235001 := n1_
                    have BK232 := n2_
                    have BK234 := n3_
                    have HB := n4_
                    clear n0_ n1_ n2_ n3_ n4_
                    refine start_ (n := 13) (S := fun w' => True) (ds := []) #[false, false, false, false, false, false, false, false, false, false, false, false, false] (by kernel_rfl) rfl rfl trivial (fun hHeld => ?_); refine with_tabW gazetteerlaw14_AtlasGoes.tab30 gazetteerlaw14_AtlasGoes.bits30 (fun HT_ HW_ => ?_)
                    generalize wr.drew = w86 at HO_233001 HO_235001 BK232 BK234 HB hHeld ⊢
                    refine pure_ (i := 0) (N := some 130) (v := ?_) (a' := ?_) #[true, false, false, false, false, false, false, false, false, false, false, false, false] rfl rfl (any_of HT_.out (by kernel_rfl)) (fun _ _ _ h => h) (Or.inl ⟨by rfl, ?_⟩) ?_ ?_
                    rotate_left
                    ·
                     intro w'
                     go_simp
                     with_reducible rfl
                    rotate_left
                    ·
                     simp only [Act.put, List.setIfInBounds_toArray, List.set_cons_zero, List.set_cons_succ, i64_w, i32_w]
                     rfl
                    refine pure_ (i := 1) (N := some 131) (v := ?_) (a' := ?_) #[true, true, false, false, false, false, false, false, false, false, false, false, false] rfl rfl (any_of HT_.out (by kernel_rfl)) (fun _ _ _ h => h) (Or.inl ⟨by rfl, ?_⟩) ?_ ?_
                    rotate_left
                    ·
                     intro w'
                     go_simp
                     with_reducible rfl
                    rotate_left
                    ·
                     simp only [Act.put, List.setIfInBounds_toArray, List.set_cons_zero, List.set_cons_succ, i64_w, i32_w]
                     rfl
                    refine pure_ (i := 2) (N := some 132) (v := ?_) (a' := ?_) #[true, true, true, false, false, false, false, false, false, false, false, false, false] rfl rfl (any_of HT_.out (by kernel_rfl)) (fun _ _ _ h => h) (Or.inl ⟨by rfl, ?_⟩) ?_ ?_
                    rotate_left
                    ·
                     intro w'
                     go_simp
                     with_reducible rfl
                    rotate_left
                    ·
                     simp only [Act.put, List.setIfInBounds_toArray, List.set_cons_zero, List.set_cons_succ, i64_w, i32_w]
                     rfl
                    refine pure_ (i := 3) (N := some 133) (v := undef) (a' := ?_) #[true, true, true, true, false, false, false, false, false, false, false, false, false] rfl rfl (any_of HT_.out (by kernel_rfl)) (fun _ _ _ h => h) (Or.inr ⟨by rfl, rfl⟩) ?_ ?_
                    rotate_left
                    ·
                     simp only [Act.put, List.setIfInBounds_toArray, List.set_cons_zero, List.set_cons_succ, i64_w, i32_w]
                     rfl
                    refine pure_ (i := 4) (N := some 134) (v := undef) (a' := ?_) #[true, true, true, true, true, false, false, false, false, false, false, false, false] rfl rfl (any_of HT_.out (by kernel_rfl)) (fun _ _ _ h => h) (Or.inr ⟨by rfl, rfl⟩) ?_ ?_
                    rotate_left
                    ·
                     simp only [Act.put, List.setIfInBounds_toArray, List.set_cons_zero, List.set_cons_succ, i64_w, i32_w]
                     rfl
                    refine pure_ (i := 5) (N := some 135) (v := undef) (a' := ?_) #[true, true, true, true, true, true, false, false, false, false, false, false, false] rfl rfl (any_of HT_.out (by kernel_rfl)) (fun _ _ _ h => h) (Or.inr ⟨by rfl, rfl⟩) ?_ ?_
                    rotate_left
                    ·
                     simp only [Act.put, List.setIfInBounds_toArray, List.set_cons_zero, List.set_cons_succ, i64_w, i32_w]
                     rfl
                    refine pure_ (i := 6) (N := some 136) (v := undef) (a' := ?_) #[true, true, true, true, true, true, true, false, false, false, false, false, false] rfl rfl (any_of HT_.out (by kernel_rfl)) (fun _ _ _ h => h) (Or.inr ⟨by rfl, rfl⟩) ?_ ?_
                    rotate_left
                    ·
                     simp only [Act.put, List.setIfInBounds_toArray, List.set_cons_zero, List.set_cons_succ, i64_w, i32_w]
                     rfl
                    refine pure_ (i := 7) (N := some 137) (v := undef) (a' := ?_) #[true, true, true, true, true, true, true, true, false, false, false, false, false] rfl rfl (any_of HT_.out (by kernel_rfl)) (fun _ _ _ h => h) (Or.inr ⟨by rfl, rfl⟩) ?_ ?_
                    rotate_left
                    ·
                     simp only [Act.put, List.setIfInBounds_toArray, List.set_cons_zero, List.set_cons_succ, i64_w, i32_w]
                     rfl
                    refine pure_ (i := 8) (N := some 138) (v := undef) (a' := ?_) #[true, true, true, true, true, true, true, true, true, false, false, false, false] rfl rfl (any_of HT_.out (by kernel_rfl)) (fun _ _ _ h => h) (Or.inr ⟨by rfl, rfl⟩) ?_ ?_
                    rotate_left
                    ·
                     simp only [Act.put, List.setIfInBounds_toArray, List.set_cons_zero, List.set_cons_succ, i64_w, i32_w]
                     rfl
                    refine pure_ (i := 9) (N := some 139) (v := undef) (a' := ?_) #[true, true, true, true, true, true, true, true, true, true, false, false, false] rfl rfl (any_of HT_.out (by kernel_rfl)) (fun _ _ _ h => h) (Or.inr ⟨by rfl, rfl⟩) ?_ ?_
                    rotate_left
                    ·
                     simp only [Act.put, List.setIfInBounds_toArray, List.set_cons_zero, List.set_cons_succ, i64_w, i32_w]
                     rfl
                    refine pure_ (i := 10) (N := some 140) (v := undef) (a' := ?_) #[true, true, true, true, true, true, true, true, true, true, true, false, false] rfl rfl (any_of HT_.out (by kernel_rfl)) (fun _ _ _ h => h) (Or.inr ⟨by rfl, rfl⟩) ?_ ?_
                    rotate_left
                    ·
                     simp only [Act.put, List.setIfInBounds_toArray, List.set_cons_zero, List.set_cons_succ, i64_w, i32_w]
                     rfl
                    refine pure_ (i := 11) (N := some 141) (v := undef) (a' := ?_) #[true, true, true, true, true, true, true, true, true, true, true, true, false] rfl rfl (any_of HT_.out (by kernel_rfl)) (fun _ _ _ h => h) (Or.inr ⟨by rfl, rfl⟩) ?_ ?_
                    rotate_left
                    ·
                     simp only [Act.put, List.setIfInBounds_toArray, List.set_cons_zero, List.set_cons_succ, i64_w, i32_w]
                     rfl
                    refine pure_ (i := 12) (N := some 142) (v := ?_) (a' := ?_) #[true, true, true, true, true, true, true, true, true, true, true, true, true] rfl rfl (any_of HT_.out (by kernel_rfl)) (fun _ _ _ h => h) (Or.inl ⟨by rfl, ?_⟩) ?_ ?_
                    rotate_left
                    ·
                     intro w'
                     go_simp
                     with_reducible rfl
                    rotate_left
                    ·
                     simp only [Act.put, List.setIfInBounds_toArray, List.set_cons_zero, List.set_cons_succ, i64_w, i32_w]
                     rfl
                    refine done_ (done_of HT_.out (by kernel_rfl)) ?_
                    try go_wp2
                    go_roundg k5
                    case measure => have := HK1.out; have := HJ13.out; have := HJ42.out; have := HK4.out; have := HK5.out; omega
                    case rel => exact ⟨(wrap64 (x9_4 + 1)), (by first | rfl | (simp; done) | (simp [*]; done)), H', ⟨by have := HK1.out; have := HJ13.out; have := HJ42.out; have := HK4.out; have := HK5.out; omega⟩, ⟨by (with_reducible repeat (first | apply Kd.R_alloc | apply Kd.R_drewN | apply Kd.R_drew)); exact HO_233001.out⟩, ⟨by (with_reducible repeat (first | apply Kd.R_alloc | apply Kd.R_drewN | apply Kd.R_drew)); exact HO_235001.out⟩, ⟨by (with_reducible repeat (first | refine blk_drewN ?_ _ | refine blk_drew ?_ | refine blk_alloc ?_ _)); exact BK232.out⟩, ⟨by (with_reducible repeat (first | refine blk_drewN ?_ _ | refine blk_drew ?_ | refine blk_alloc ?_ _)); exact BK234.out⟩, ⟨by repeat (first | (with_reducible first | exact HB.out | apply below_alloc | apply pw_below_drewN | apply below_drew1 | refine below_set ?_ GE232.out | refine below_set ?_ GE234.out) | exact HB.out)⟩⟩
                   ·
                    replace c82 := Bool.eq_false_iff.mpr c82
                    subst c82
                    have H1 : (if 0 ≤ x9_4 then (if x9_4 < (x235001_13.length : Int) then (if ((rd_T30 x235001_13 x9_4).f2) = x235000_13 then (gazetteerlaw14_AtlasGoes.l1 k5 l0 x4_1 (wrap64 (x9_4 + 1)) x233000_1 x233001_1 x235000_13 x235001_13) else (some false)) else (none)) else (none)) = some r := by rw [if_neg (show ¬ (false = true) by decide)] at H; exact H
                    clear H
                    have H := H1
                    clear H1
                    by_cases c87 : 0 ≤ x9_4
                    ·
                     rw [if_pos c87] at H
                     have c87b0 : decide (0 ≤ x9_4) = true := decide_eq_true c87
                     clear c87
                     by_cases c88 : x9_4 < (x235001_13.length : Int)
                     ·
                      rw [if_pos c88] at H
                      have c88b0 : decide (x9_4 < (x235001_13.length : Int)) = true := decide_eq_true c88
                      clear c88
                      by_cases c89 : ((rd_T30 x235001_13 x9_4).f2) = x235000_13
                      ·
                       rw [if_pos c89] at H
                       have c89b0 : (((rd_T30 x235001_13 x9_4).f2) == x235000_13) = true := beq_iff_eq.mpr c89
                       have c89b1 : (((rd_T30 x235001_13 x9_4).f2) != x235000_13) = false := bne_eq_false_iff_eq.mpr c89
                       clear c89
                       have H' := Aside0.mk H
                       clear H
                       have hnb90 := NB232_234.out
                       have hnc90 := NB234_232.out
                       have hcz91_0 : wr.cell? ⟨gb232, 0, none⟩ = some (.int .i64 x233000_1) := (blk_cell BK232.out 0).trans rfl
                       have hcz91_1 : wr.cell? ⟨gb232, 1, none⟩ = some (u233001) := (blk_cell BK232.out 1).trans rfl
                       have hfz91_0 := blk_frozen BK232.out 0
                       have hfz91_1 := blk_frozen BK232.out 1
                       obtain ⟨Ao92, co92, eo92⟩ := Kd.R_slice HO_233001.out
                       subst eo92
                       try go_wp2
                       have n0_ := Aside0.mk (Kd.R_drew HO_233001.out)
                       have n1_ := Aside0.mk (Kd.R_drew HO_235001.out)
                       have n2_ := Aside0.mk (blk_drew BK232.out)
                       have n3_ := Aside0.mk (blk_drew BK234.out)
                       have n4_ := Aside0.mk (below_drew1 HB.out)
                       clear HO_233001
                       clear HO_235001
                       clear BK232
                       clear BK234
                       clear HB
                       have HO_233001 := n0_
                       have HO_235001 := n1_
                       have BK232 := n2_
                       have BK234 := n3_
                       have HB := n4_
                       clear n0_ n1_ n2_ n3_ n4_
                       have p269 : 0 ≤ (x9_4 : Int) := of_decide_eq_true (by first | (with_reducible assumption) | assumption)
                       have q269 : x9_4 < (x235001_13.length : Int) := of_decide_eq_true (by first | (with_reducible assumption) | assumption)
                       obtain ⟨ad269, e269, hx269_0, hx269_1, hx269_2, hx269_3⟩ := at_T30 (Kd.R_reads' HO_235001.out).2.2 x9_4 p269 q269
                       cases e269
                       replace p269 := eq_true p269
                       replace q269 := eq_true q269
                       refine start_ (n := 13) (S := fun w' => w'.cell? ⟨gb234, 0, none⟩ = some (.int .i64 x235000_13) ∧ w'.cell? ⟨gb234, 1, none⟩ = some (.slice (some ad269) x235001_13.length co68) ∧ w'.cell? (ad269.add ((x9_4).toNat * 4)) = some (.string ((rd_T30 x235001_13 x9_4).f0.f0)) ∧ w'.cell? ⟨(ad269.add ((x9_4).toNat * 4)).block, (ad269.add ((x9_4).toNat * 4)).off + 1, none⟩ = some (.string ((rd_T30 x235001_13 x9_4).f0.f1)) ∧ w'.cell? ⟨(ad269.add ((x9_4).toNat * 4)).block, (ad269.add ((x9_4).toNat * 4)).off + 2, none⟩ = some (.int .i64 ((rd_T30 x235001_13 x9_4).f1)) ∧ w'.cell? ⟨(ad269.add ((x9_4).toNat * 4)).block, (ad269.add ((x9_4).toNat * 4)).off + 3, none⟩ = some (.int .i64 ((rd_T30 x235001_13 x9_4).f2))) (ds := []) #[false, false, false, false, false, false, false, false, false, false, false, false, false] (by kernel_rfl) rfl rfl ⟨(blk_cell BK234.out 0).trans rfl, (blk_cell BK234.out 1).trans rfl, hx269_0, hx269_1, hx269_2, hx269_3⟩ (fun hHeld => ?_); refine with_tabW gazetteerlaw14_AtlasGoes.tab30 gazetteerlaw14_AtlasGoes.bits30 (fun HT_ HW_ => ?_)
                       generalize wr.drew = w93 at HO_233001 HO_235001 BK232 BK234 HB hx269_0 hx269_1 hx269_2 hx269_3 hHeld ⊢
                       refine pure_ (i := 0) (N := some 130) (v := ?_) (a' := ?_) #[true, false, false, false, false, false, false, false, false, false, false, false, false] rfl rfl (any_of HT_.out (by kernel_rfl)) (fun _ _ _ h => h) (Or.inl ⟨by rfl, ?_⟩) ?_ ?_
                       rotate_left
                       ·
                        intro w'
                        go_simp
                        with_reducible rfl
                       rotate_left
                       ·
                        simp only [Act.put, List.setIfInBounds_toArray, List.set_cons_zero, List.set_cons_succ, i64_w, i32_w]
                        rfl
                       refine pure_ (i := 1) (N := some 131) (v := ?_) (a' := ?_) #[true, true, false, false, false, false, false, false, false, false, false, false, false] rfl rfl (any_of HT_.out (by kernel_rfl)) (fun _ _ _ h => h) (Or.inl ⟨by rfl, ?_⟩) ?_ ?_
                       rotate_left
                       ·
                        intro w'
                        go_simp
                        with_reducible rfl
                       rotate_left
                       ·
                        simp only [Act.put, List.setIfInBounds_toArray, List.set_cons_zero, List.set_cons_succ, i64_w, i32_w]
                        rfl
                       refine pure_ (i := 2) (N := some 132) (v := ?_) (a' := ?_) #[true, true, true, false, false, false, false, false, false, false, false, false, false] rfl rfl (any_of HT_.out (by kernel_rfl)) (fun _ _ _ h => h) (Or.inl ⟨by rfl, ?_⟩) ?_ ?_
                       rotate_left
                       ·
                        intro w'
                        go_simp
                        with_reducible rfl
                       rotate_left
                       ·
                        simp only [Act.put, List.setIfInBounds_toArray, List.set_cons_zero, List.set_cons_succ, i64_w, i32_w]
                        rfl
                       refine pure_ (i := 3) (N := some 133) (v := ?_) (a' := ?_) #[true, true, true, true, false, false, false, false, false, false, false, false, false] rfl rfl (any_of HT_.out (by kernel_rfl)) (fun _ _ _ h => h) (Or.inl ⟨by rfl, ?_⟩) ?_ ?_
                       rotate_left
                       ·
                        intro w'
                        go_simp
                        with_reducible rfl
                       rotate_left
                       ·
                        simp only [Act.put, List.setIfInBounds_toArray, List.set_cons_zero, List.set_cons_succ, i64_w, i32_w]
                        rfl
                       refine pure_ (i := 5) (N := some 135) (v := ?_) (a' := ?_) #[true, true, true, true, false, true, false, false, false, false, false, false, false] rfl rfl (any_of HT_.out (by kernel_rfl)) (fun _ _ _ h => h) (Or.inl ⟨by rfl, ?_⟩) ?_ ?_
                       rotate_left
                       ·
                        intro w'
                        go_simp
                        with_reducible rfl
                       rotate_left
                       ·
                        simp only [Act.put, List.setIfInBounds_toArray, List.set_cons_zero, List.set_cons_succ, i64_w, i32_w]
                        rfl
                       refine pure_ (i := 9) (N := some 139) (v := ?_) (a' := ?_) #[true, true, true, true, false, true, false, false, false, true, false, false, false] rfl rfl (any_of HT_.out (by kernel_rfl)) (fun _ _ _ h => h) (Or.inl ⟨by rfl, ?_⟩) ?_ ?_
                       rotate_left
                       ·
                        intro w'
                        go_simp
                        with_reducible rfl
                       rotate_left
                       ·
                        simp only [Act.put, List.setIfInBounds_toArray, List.set_cons_zero, List.set_cons_succ, i64_w, i32_w]
                        rfl
                       refine take_ (i := 4) (N := some 134) (v := ?_) (a' := ?_) #[true, true, true, true, true, true, false, false, false, true, false, false, false] rfl rfl (take_ofW HT_.out HW_.out (by kernel_rfl)) (fun _ _ _ h => h) (Or.inl ⟨by rfl, ?_⟩) hHeld ?_ ?_
                       rotate_left
                       ·
                        rintro w' ⟨s0, s1, s2, s3, s4, s5⟩
                        go_simp
                        with_reducible rfl
                       rotate_left
                       ·
                        simp only [Act.put, List.setIfInBounds_toArray, List.set_cons_zero, List.set_cons_succ, i64_w, i32_w]
                        rfl
                       refine pure_ (i := 6) (N := some 136) (v := ?_) (a' := ?_) #[true, true, true, true, true, true, true, false, false, true, false, false, false] rfl rfl (any_of HT_.out (by kernel_rfl)) (fun _ _ _ h => h) (Or.inl ⟨by rfl, ?_⟩) ?_ ?_
                       rotate_left
                       ·
                        intro w'
                        go_simp
                        with_reducible rfl
                       rotate_left
                       ·
                        simp only [Act.put, List.setIfInBounds_toArray, List.set_cons_zero, List.set_cons_succ, i64_w, i32_w]
                        rfl
                       refine pure_ (i := 7) (N := some 137) (v := ?_) (a' := ?_) #[true, true, true, true, true, true, true, true, false, true, false, false, false] rfl rfl (any_of HT_.out (by kernel_rfl)) (fun _ _ _ h => h) (Or.inl ⟨by rfl, ?_⟩) ?_ ?_
                       rotate_left
                       ·
                        intro w'
                        go_simp
                        with_reducible rfl
                       rotate_left
                       ·
                        simp only [Act.put, List.setIfInBounds_toArray, List.set_cons_zero, List.set_cons_succ, i64_w, i32_w]
                        rfl
                       refine take_ (i := 8) (N := some 138) (v := ?_) (a' := ?_) #[true, true, true, true, true, true, true, true, true, true, false, false, false] rfl rfl (take_ofW HT_.out HW_.out (by kernel_rfl)) (fun _ _ _ h => h) (Or.inl ⟨by rfl, ?_⟩) hHeld ?_ ?_
                       rotate_left
                       ·
                        rintro w' ⟨s0, s1, s2, s3, s4, s5⟩
                        go_simp
                        with_reducible rfl
                       rotate_left
                       ·
                        simp only [Act.put, List.setIfInBounds_toArray, List.set_cons_zero, List.set_cons_succ, i64_w, i32_w]
                        rfl
                       refine take_ (i := 10) (N := some 140) (v := ?_) (a' := ?_) #[true, true, true, true, true, true, true, true, true, true, true, false, false] rfl rfl (take_ofW HT_.out HW_.out (by kernel_rfl)) (fun _ _ _ h => h) (Or.inl ⟨by rfl, ?_⟩) hHeld ?_ ?_
                       rotate_left
                       ·
                        rintro w' ⟨s0, s1, s2, s3, s4, s5⟩
                        go_simp
                        with_reducible rfl
                       rotate_left
                       ·
                        simp only [Act.put, List.setIfInBounds_toArray, List.set_cons_zero, List.set_cons_succ, i64_w, i32_w]
                        rfl
                       refine pure_ (i := 11) (N := some 141) (v := ?_) (a' := ?_) #[true, true, true, true, true, true, true, true, true, true, true, true, false] rfl rfl (any_of HT_.out (by kernel_rfl)) (fun _ _ _ h => h) (Or.inl ⟨by rfl, ?_⟩) ?_ ?_
                       rotate_left
                       ·
                        intro w'
                        go_simp
                        with_reducible rfl
                       rotate_left
                       ·
                        simp only [Act.put, List.setIfInBounds_toArray, List.set_cons_zero, List.set_cons_succ, i64_w, i32_w]
                        rfl
                       refine pure_ (i := 12) (N := some 142) (v := ?_) (a' := ?_) #[true, true, true, true, true, true, true, true, true, true, true, true, true] rfl rfl (any_of HT_.out (by kernel_rfl)) (fun _ _ _ h => h) (Or.inl ⟨by rfl, ?_⟩) ?_ ?_
                       rotate_left
                       ·
                        intro w'
                        go_simp
                        with_reducible rfl
                       rotate_left
                       ·
                        simp only [Act.put, List.setIfInBounds_toArray, List.set_cons_zero, List.set_cons_succ, i64_w, i32_w]
                        rfl
                       refine done_ (done_of HT_.out (by kernel_rfl)) ?_
                       try go_wp2
                       go_roundg k5
                       case measure => have := HK1.out; have := HJ13.out; have := HJ42.out; have := HK4.out; have := HK5.out; omega
                       case rel => exact ⟨(wrap64 (x9_4 + 1)), (by first | rfl | (simp; done) | (simp [*]; done)), H', ⟨by have := HK1.out; have := HJ13.out; have := HJ42.out; have := HK4.out; have := HK5.out; omega⟩, ⟨by (with_reducible repeat (first | apply Kd.R_alloc | apply Kd.R_drewN | apply Kd.R_drew)); exact HO_233001.out⟩, ⟨by (with_reducible repeat (first | apply Kd.R_alloc | apply Kd.R_drewN | apply Kd.R_drew)); exact HO_235001.out⟩, ⟨by (with_reducible repeat (first | refine blk_drewN ?_ _ | refine blk_drew ?_ | refine blk_alloc ?_ _)); exact BK232.out⟩, ⟨by (with_reducible repeat (first | refine blk_drewN ?_ _ | refine blk_drew ?_ | refine blk_alloc ?_ _)); exact BK234.out⟩, ⟨by repeat (first | (with_reducible first | exact HB.out | apply below_alloc | apply pw_below_drewN | apply below_drew1 | refine below_set ?_ GE232.out | refine below_set ?_ GE234.out) | exact HB.out)⟩⟩
                      ·
                       rw [if_neg c89] at H
                       have c89b0 : (((rd_T30 x235001_13 x9_4).f2) == x235000_13) = false := beq_eq_false_iff_ne.mpr c89
                       have c89b1 : (((rd_T30 x235001_13 x9_4).f2) != x235000_13) = true := bne_iff_ne.mpr c89
                       exact absurd H (by rw [HLT.out]; repeat' first | (with_reducible exact dead_none) | (with_reducible exact dead_false) | (with_reducible refine dead_ite ?_ ?_) | (with_reducible refine dead_bind (fun _ => ?_)) | (refine dead_ite ?_ ?_) | (refine dead_bind (fun _ => ?_)) | (simp; done))
                     ·
                      rw [if_neg c88] at H
                      exact absurd H (by simp)
                    ·
                     rw [if_neg c87] at H
                     exact absurd H (by simp)
               ·
                rw [if_neg c65] at H
                have c65b0 : decide (x9_4 < (x235001_13.length : Int)) = false := decide_eq_false c65
                clear c65
                have H' := Aside0.mk H
                clear H
                have hnb94 := NB234_232.out
                have hnc94 := NB232_234.out
                have hcz95_0 : wr.cell? ⟨gb234, 0, none⟩ = some (.int .i64 x235000_13) := (blk_cell BK234.out 0).trans rfl
                have hcz95_1 : wr.cell? ⟨gb234, 1, none⟩ = some (u235001) := (blk_cell BK234.out 1).trans rfl
                have hfz95_0 := blk_frozen BK234.out 0
                have hfz95_1 := blk_frozen BK234.out 1
                obtain ⟨Ao96, co96, eo96⟩ := Kd.R_slice HO_235001.out
                subst eo96
                have hcz97_0 : wr.cell? ⟨gb232, 0, none⟩ = some (.int .i64 x233000_1) := (blk_cell BK232.out 0).trans rfl
                have hcz97_1 : wr.cell? ⟨gb232, 1, none⟩ = some (u233001) := (blk_cell BK232.out 1).trans rfl
                have hfz97_0 := blk_frozen BK232.out 0
                have hfz97_1 := blk_frozen BK232.out 1
                go_wp2
                go_roundg k4
                case measure => have := HK1.out; have := HJ13.out; have := HJ42.out; have := HK4.out; omega
                case rel => exact ⟨(wrap64 (x4_1 + 1)), (x235000_13), (x235001_13), (.slice Ao96 x235001_13.length co96), (by first | rfl | (simp; done) | (simp [*]; done)), H', ⟨by have := HK1.out; have := HJ13.out; have := HJ42.out; have := HK4.out; omega⟩, ⟨by (with_reducible repeat (first | apply Kd.R_alloc | apply Kd.R_drewN | apply Kd.R_drew)); exact Kd.R_mono (Kd.R_far (p := ⟨gb232, 1, none⟩) (Kd.R_far (p := ⟨gb232, 0, none⟩) (Kd.R_types HO_235001.out BK232.out (by decide)) (fun _ hk => hk.2) (.int .i64 x235000_13)) (fun _ hk => hk.2) (.slice Ao96 x235001_13.length co96)) (fun _ hk => trivial)⟩, ⟨by (with_reducible repeat (first | refine blk_drewN ?_ _ | refine blk_drew ?_ | refine blk_alloc ?_ _)); refine blk_put (cs := #[.int .i64 x235000_13, u233001]) ?_ 1 _ rfl; (with_reducible repeat (first | refine blk_drewN ?_ _ | refine blk_drew ?_ | refine blk_alloc ?_ _)); refine blk_put (cs := #[.int .i64 x233000_1, u233001]) ?_ 0 _ rfl; (with_reducible repeat (first | refine blk_drewN ?_ _ | refine blk_drew ?_ | refine blk_alloc ?_ _)); exact BK232.out⟩, ⟨by repeat (first | (with_reducible first | exact HB.out | apply below_alloc | apply pw_below_drewN | apply below_drew1 | refine below_set ?_ GE232.out | refine below_set ?_ GE234.out) | exact HB.out)⟩⟩
         ·
          rw [if_neg c42] at H
          have c42b0 : (x8_13 == 0) = false := beq_eq_false_iff_ne.mpr c42
          have c42b1 : (x8_13 != 0) = true := bne_iff_ne.mpr c42
          have H' := Aside0.mk H
          clear H
          go_wp2
          go_roundg kj13
          case measure => have := HK1.out; have := HJ13.out; omega
          case rel => exact ⟨(wrap64 (x4_1 + 1)), (x233000_1), (x233001_1), (u233001), (by first | rfl | (simp; done) | (simp [*]; done)), H', ⟨by have := HK1.out; have := HJ13.out; omega⟩, ⟨by (with_reducible repeat (first | apply Kd.R_alloc | apply Kd.R_drewN | apply Kd.R_drew)); exact Kd.R_mono HO_233001.out (fun _ hk => trivial)⟩, ⟨by (with_reducible repeat (first | refine blk_drewN ?_ _ | refine blk_drew ?_ | refine blk_alloc ?_ _)); exact BK232.out⟩, ⟨by repeat (first | (with_reducible first | exact HB.out | apply below_alloc | apply pw_below_drewN | apply below_drew1 | refine below_set ?_ GE232.out | refine below_set ?_ GE234.out) | exact HB.out)⟩⟩
      ·
       rw [if_neg c13] at H
       exact absurd H (by simp)
     ·
      rw [if_neg c12] at H
      have c12b0 : decide (x4_1 < (l0.length : Int)) = false := decide_eq_false c12
      clear c12
      obtain rfl := Option.some.inj H
      go_wp2
      go_ret
      exact ⟨by first | rfl | (simp [errW_none, errW_some] <;> rfl) | (simp [*, errW_none, errW_some] <;> rfl), by repeat (first | (with_reducible first | exact HB.out | apply below_alloc | apply pw_below_drewN | apply below_drew1 | refine below_set ?_ GE232.out) | exact HB.out)⟩
 ·
  replace c3 := Bool.eq_false_iff.mpr c3
  subst c3
  have H1 : (some false) = some r := by rw [if_neg (show ¬ (false = true) by decide)] at H; exact H
  clear H
  have H := H1
  clear H1
  exact absurd H (by rw [HLT.out]; repeat' first | (with_reducible exact dead_none) | (with_reducible exact dead_false) | (with_reducible refine dead_ite ?_ ?_) | (with_reducible refine dead_bind (fun _ => ?_)) | (refine dead_ite ?_ ?_) | (refine dead_bind (fun _ => ?_)) | (simp; done))

end Go.Proofs.Ytbajekndbamcmaa.PAtlasGoes

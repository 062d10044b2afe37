-- printed by a program of this session (wip/tools), a turned form of the kit's print
import Derived.Test.YtbfllekkbmeibaaWPeel
import Derived.Test.YtbfllekkbmeibaaPSpanCutsx0
import Derived.Test.YtbfllekkbmeibaaWReg2
import Derived.Test.YtbfllekkbmeibaaPSpanCutsx1
import Derived.Test.YtbfllekkbmeibaaPSpanCutsx3
namespace Go.Proofs.Ytbfllekkbmeibaa.PSpanCuts
open Go.RowKit Go.Proofs.YtbfllekkbmeibaaW.PrintWords Go.Proofs.YtbfllekkbmeibaaW.PrintLast Go.Proofs.YtbfllekkbmeibaaW.PrintMore
attribute [local go_sem] max2_int min2_int max_two min_two max_three min_three max_four min_four max2_str min2_str str_geq str_leq str_gtr   -- for this text's walks alone
open Go.Proofs.YtbfllekkbmeibaaW.PrintReg
set_option linter.unusedVariables false
set_option linter.unusedSimpArgs false

theorem bsome {α β : Type} {a : α} {f : α → Option β} {r : Option β} (h : (some a).bind f = r) : f a = r := h
theorem ipos {α : Type} {c : Prop} [Decidable c] {a b r : α} (h : c) (k : (if c then a else b) = r) : a = r := by rwa [if_pos h] at k
theorem ineg {α : Type} {c : Prop} [Decidable c] {a b r : α} (h : ¬ c) (k : (if c then a else b) = r) : b = r := by rwa [if_neg h] at k
theorem row1 {W : World} {g : Nat} {s : ByteArray} {t : TypeId} (h : W.heap[g]? = some (.cells #[.string s] t (0, 0))) : Kd.C Kd.string W (some ⟨g, 0, none⟩) 1 [s] := by
  refine ⟨rfl, by decide, fun _ => ⟨_, rfl, fun j p hp => ?_⟩⟩
  cases j with
  | zero =>
    obtain rfl : s = p := by simpa using hp
    exact ⟨[Value.string s], rfl, rfl, fun i u hu => by
      cases i with
      | zero => obtain rfl : Value.string s = u := by simpa using hu
                exact (blk_cell h 0).trans rfl
      | succ i => simp at hu⟩
  | succ j => simp at hp
theorem str_ext {a b : ByteArray} (h : a.toList = b.toList) : a = b := by
  rw [ByteArray.toList_eq, ByteArray.toList_eq] at h
  exact ByteArray.ext (Array.ext' h)
/-! ### gazetteerlaw5_SpanCuts: function 5 -/
mutual
def gazetteerlaw5_SpanCuts.j0 : Nat → List ByteArray → ByteArray → Bool → Option (Bool)
  | 0, _, _, _ => none
  | k + 1, x0, x1, x20 => if x20 = true then (some true) else (gazetteerlaw5_SpanCuts.l0 k x0 x1 ([] : List ByteArray) 0)
def gazetteerlaw5_SpanCuts.l0 : Nat → List ByteArray → ByteArray → List ByteArray → Int → Option (Bool)
  | 0, _, _, _, _ => none
  | k + 1, x0, x1, x5, x6 => if x6 < (x0.length : Int) then (if 0 ≤ x6 then (if ((rdOf ByteArray.empty x0 x6).size : Int) > 300 then (gazetteerlaw5_SpanCuts.j2 k x0 x1 x5 x6 true) else (gazetteerlaw5_SpanCuts.j2 k x0 x1 x5 x6 ((rdOf ByteArray.empty x0 x6).toList == ([] : List UInt8)))) else (none)) else ((gazetteerlaw5_parts.f k x5).bind fun t183 => (gazetteerlaw5_SpanCuts.l2 k x1 x5 t183 0 0))
def gazetteerlaw5_SpanCuts.j2 : Nat → List ByteArray → ByteArray → List ByteArray → Int → Bool → Option (Bool)
  | 0, _, _, _, _, _ => none
  | k + 1, x0, x1, x5, x6, x39 => if x39 = true then (some true) else (gazetteerlaw5_SpanCuts.l1 k x0 x1 x5 x6 0)
def gazetteerlaw5_SpanCuts.l1 : Nat → List ByteArray → ByteArray → List ByteArray → Int → Int → Option (Bool)
  | 0, _, _, _, _, _ => none
  | k + 1, x0, x1, x5, x6, x7 => if x7 < (x5.length : Int) then (if 0 ≤ x7 then (if 0 ≤ x6 then (if x6 < (x0.length : Int) then (if (Op.bytesLess ((rdOf ByteArray.empty x5 x7).toList) ((rdOf ByteArray.empty x0 x6).toList)) = true then (gazetteerlaw5_SpanCuts.l1 k x0 x1 x5 x6 (wrap64 (x7 + 1))) else (if (rdOf ByteArray.empty x5 x7).toList = (rdOf ByteArray.empty x0 x6).toList then (gazetteerlaw5_SpanCuts.l0 k x0 x1 x5 (wrap64 (x6 + 1))) else ((some (([] : List ByteArray) : List ByteArray)).bind fun y135 => (if x7 ≤ (x5.length : Int) then ((some (x5.take (x7 : Int).toNat : List ByteArray)).bind fun y138 => (if y135.length + y138.length < 8796093022208 then ((some (y135 ++ y138 : List ByteArray)).bind fun y142 => ((some (([rdOf ByteArray.empty x0 x6] : List ByteArray) : List ByteArray)).bind fun y146 => (if y142.length + y146.length < 8796093022208 then ((some (y142 ++ y146 : List ByteArray)).bind fun y149 => ((some (x5.drop (x7 : Int).toNat : List ByteArray)).bind fun y152 => (if y149.length + y152.length < 8796093022208 then (gazetteerlaw5_SpanCuts.l0 k x0 x1 (y149 ++ y152) (wrap64 (x6 + 1))) else (none)))) else (none)))) else (none))) else (none))))) else (none)) else (none)) else (none)) else ((some (([] : List ByteArray) : List ByteArray)).bind fun y159 => (if 0 ≤ x7 then (if x7 ≤ (x5.length : Int) then ((some (x5.take (x7 : Int).toNat : List ByteArray)).bind fun y162 => (if y159.length + y162.length < 8796093022208 then ((some (y159 ++ y162 : List ByteArray)).bind fun y166 => (if 0 ≤ x6 then (if x6 < (x0.length : Int) then ((some (([rdOf ByteArray.empty x0 x6] : List ByteArray) : List ByteArray)).bind fun y170 => (if y166.length + y170.length < 8796093022208 then ((some (y166 ++ y170 : List ByteArray)).bind fun y173 => ((some (x5.drop (x7 : Int).toNat : List ByteArray)).bind fun y176 => (if y173.length + y176.length < 8796093022208 then (gazetteerlaw5_SpanCuts.l0 k x0 x1 (y173 ++ y176) (wrap64 (x6 + 1))) else (none)))) else (none))) else (none)) else (none))) else (none))) else (none)) else (none)))
def gazetteerlaw5_SpanCuts.l2 : Nat → ByteArray → List ByteArray → List (S38) → Int → Int → Option (Bool)
  | 0, _, _, _, _, _ => none
  | k + 1, x1, x5, x8, x9, x10 => if x10 < (x8.length : Int) then (if 0 ≤ x10 then ((span_Has.f ((rd_T38 x8 x10).f0) ((rd_T38 x8 x10).f1) x1).bind fun t187 => (if t187 = true then (gazetteerlaw5_SpanCuts.l2 k x1 x5 x8 (wrap64 (x9 + 1)) (wrap64 (x10 + 1))) else (gazetteerlaw5_SpanCuts.l2 k x1 x5 x8 x9 (wrap64 (x10 + 1))))) else (none)) else ((span_Whole.f k x8).bind fun t188 => (if t188 = true then (if x9 = 1 then (if (x5.length : Int) > 0 then (if 1 ≤ (x5.length : Int) then ((gazetteerlaw5_parts.f k (x5.drop 1)).bind fun t193 => ((span_Whole.f k t193).bind fun t196 => (gazetteerlaw5_SpanCuts.j5 k x5 x8 (!t196)))) else (none)) else (gazetteerlaw5_SpanCuts.j5 k x5 x8 false)) else (gazetteerlaw5_SpanCuts.j5 k x5 x8 true)) else (gazetteerlaw5_SpanCuts.j5 k x5 x8 true)))
def gazetteerlaw5_SpanCuts.j5 : Nat → List ByteArray → List (S38) → Bool → Option (Bool)
  | 0, _, _, _ => none
  | k + 1, x5, x8, x121 => if x121 = true then (some false) else (if (x5.length : Int) = 0 then (some true) else (if 0 < (x5.length : Int) then ((some (([rdOf ByteArray.empty x5 0] : List ByteArray) : List ByteArray)).bind fun y198 => (if y198.length + x5.length < 8796093022208 then ((gazetteerlaw5_parts.f k (y198 ++ x5)).bind fun t204 => ((span_Whole.f k t204).bind fun t207 => (if t207 = true then (some false) else (if 1 ≤ (x8.length : Int) then ((span_Whole.f k (x8.drop 1)).bind fun t212 => (if t212 = true then (some false) else ((span_Whole.f k ([] : List (S38))).bind fun t213 => (some (!t213))))) else (none))))) else (none))) else (none)))
end
def gazetteerlaw5_SpanCuts.f (k : Nat) (l0 : List ByteArray) (a1 : ByteArray) : Option (Bool) := (gazetteerlaw5_awake.f k).bind fun t128 => (if t128 = true then (if (l0.length : Int) > 30 then (gazetteerlaw5_SpanCuts.j0 k l0 a1 true) else (gazetteerlaw5_SpanCuts.j0 k l0 a1 (decide ((a1.size : Int) > 300)))) else (some false))
theorem gazetteerlaw5_SpanCuts.mono_l : ∀ k, (∀ y0 y1 y2, LeO (gazetteerlaw5_SpanCuts.j0 k y0 y1 y2) (gazetteerlaw5_SpanCuts.j0 (k + 1) y0 y1 y2)) ∧ (∀ y0 y1 y2 y3, LeO (gazetteerlaw5_SpanCuts.l0 k y0 y1 y2 y3) (gazetteerlaw5_SpanCuts.l0 (k + 1) y0 y1 y2 y3)) ∧ (∀ y0 y1 y2 y3 y4, LeO (gazetteerlaw5_SpanCuts.j2 k y0 y1 y2 y3 y4) (gazetteerlaw5_SpanCuts.j2 (k + 1) y0 y1 y2 y3 y4)) ∧ (∀ y0 y1 y2 y3 y4, LeO (gazetteerlaw5_SpanCuts.l1 k y0 y1 y2 y3 y4) (gazetteerlaw5_SpanCuts.l1 (k + 1) y0 y1 y2 y3 y4)) ∧ (∀ y0 y1 y2 y3 y4, LeO (gazetteerlaw5_SpanCuts.l2 k y0 y1 y2 y3 y4) (gazetteerlaw5_SpanCuts.l2 (k + 1) y0 y1 y2 y3 y4)) ∧ (∀ y0 y1 y2, LeO (gazetteerlaw5_SpanCuts.j5 k y0 y1 y2) (gazetteerlaw5_SpanCuts.j5 (k + 1) y0 y1 y2))
  | 0 => ⟨fun _ _ _ r h => by simp [gazetteerlaw5_SpanCuts.j0] at h, fun _ _ _ _ r h => by simp [gazetteerlaw5_SpanCuts.l0] at h, fun _ _ _ _ _ r h => by simp [gazetteerlaw5_SpanCuts.j2] at h, fun _ _ _ _ _ r h => by simp [gazetteerlaw5_SpanCuts.l1] at h, fun _ _ _ _ _ r h => by simp [gazetteerlaw5_SpanCuts.l2] at h, fun _ _ _ r h => by simp [gazetteerlaw5_SpanCuts.j5] at h⟩
  | k + 1 => by
    obtain ⟨ih0, ih1, ih2, ih3, ih4, ih5⟩ := gazetteerlaw5_SpanCuts.mono_l k
    refine ⟨?_, ?_, ?_, ?_, ?_, ?_⟩
    · intro y0 y1 y2
      unfold gazetteerlaw5_SpanCuts.j0
      repeat' first
      | (with_reducible exact ih0 _ _ _)
      | (with_reducible exact ih1 _ _ _ _)
      | (with_reducible exact ih2 _ _ _ _ _)
      | (with_reducible exact ih3 _ _ _ _ _)
      | (with_reducible exact ih4 _ _ _ _ _)
      | (with_reducible exact ih5 _ _ _)
      | (with_reducible exact gazetteerlaw5_awake.mono _)
      | (with_reducible exact gazetteerlaw5_parts.mono _ _)
      | (with_reducible exact span_Whole.mono _ _)
      | (with_reducible exact LeO.refl _)
      | (with_reducible exact LeO.none _)
      | (with_reducible refine LeO.ite ?_ ?_)
      | (with_reducible refine LeO.bind ?_ (fun _ => ?_))
      | exact ih0 _ _ _
      | exact ih1 _ _ _ _
      | exact ih2 _ _ _ _ _
      | exact ih3 _ _ _ _ _
      | exact ih4 _ _ _ _ _
      | exact ih5 _ _ _
      | exact gazetteerlaw5_awake.mono _
      | exact gazetteerlaw5_parts.mono _ _
      | exact span_Whole.mono _ _
      | exact LeO.none _
      | refine LeO.ite ?_ ?_
      | refine LeO.bind ?_ (fun _ => ?_)
    · intro y0 y1 y2 y3
      unfold gazetteerlaw5_SpanCuts.l0
      repeat' first
      | (with_reducible exact ih0 _ _ _)
      | (with_reducible exact ih1 _ _ _ _)
      | (with_reducible exact ih2 _ _ _ _ _)
      | (with_reducible exact ih3 _ _ _ _ _)
      | (with_reducible exact ih4 _ _ _ _ _)
      | (with_reducible exact ih5 _ _ _)
      | (with_reducible exact gazetteerlaw5_awake.mono _)
      | (with_reducible exact gazetteerlaw5_parts.mono _ _)
      | (with_reducible exact span_Whole.mono _ _)
      | (with_reducible exact LeO.refl _)
      | (with_reducible exact LeO.none _)
      | (with_reducible refine LeO.ite ?_ ?_)
      | (with_reducible refine LeO.bind ?_ (fun _ => ?_))
      | exact ih0 _ _ _
      | exact ih1 _ _ _ _
      | exact ih2 _ _ _ _ _
      | exact ih3 _ _ _ _ _
      | exact ih4 _ _ _ _ _
      | exact ih5 _ _ _
      | exact gazetteerlaw5_awake.mono _
      | exact gazetteerlaw5_parts.mono _ _
      | exact span_Whole.mono _ _
      | exact LeO.none _
      | refine LeO.ite ?_ ?_
      | refine LeO.bind ?_ (fun _ => ?_)
    · intro y0 y1 y2 y3 y4
      unfold gazetteerlaw5_SpanCuts.j2
      repeat' first
      | (with_reducible exact ih0 _ _ _)
      | (with_reducible exact ih1 _ _ _ _)
      | (with_reducible exact ih2 _ _ _ _ _)
      | (with_reducible exact ih3 _ _ _ _ _)
      | (with_reducible exact ih4 _ _ _ _ _)
      | (with_reducible exact ih5 _ _ _)
      | (with_reducible exact gazetteerlaw5_awake.mono _)
      | (with_reducible exact gazetteerlaw5_parts.mono _ _)
      | (with_reducible exact span_Whole.mono _ _)
      | (with_reducible exact LeO.refl _)
      | (with_reducible exact LeO.none _)
      | (with_reducible refine LeO.ite ?_ ?_)
      | (with_reducible refine LeO.bind ?_ (fun _ => ?_))
      | exact ih0 _ _ _
      | exact ih1 _ _ _ _
      | exact ih2 _ _ _ _ _
      | exact ih3 _ _ _ _ _
      | exact ih4 _ _ _ _ _
      | exact ih5 _ _ _
      | exact gazetteerlaw5_awake.mono _
      | exact gazetteerlaw5_parts.mono _ _
      | exact span_Whole.mono _ _
      | exact LeO.none _
      | refine LeO.ite ?_ ?_
      | refine LeO.bind ?_ (fun _ => ?_)
    · intro y0 y1 y2 y3 y4
      unfold gazetteerlaw5_SpanCuts.l1
      repeat' first
      | (with_reducible exact ih0 _ _ _)
      | (with_reducible exact ih1 _ _ _ _)
      | (with_reducible exact ih2 _ _ _ _ _)
      | (with_reducible exact ih3 _ _ _ _ _)
      | (with_reducible exact ih4 _ _ _ _ _)
      | (with_reducible exact ih5 _ _ _)
      | (with_reducible exact gazetteerlaw5_awake.mono _)
      | (with_reducible exact gazetteerlaw5_parts.mono _ _)
      | (with_reducible exact span_Whole.mono _ _)
      | (with_reducible exact LeO.refl _)
      | (with_reducible exact LeO.none _)
      | (with_reducible refine LeO.ite ?_ ?_)
      | (with_reducible refine LeO.bind ?_ (fun _ => ?_))
      | exact ih0 _ _ _
      | exact ih1 _ _ _ _
      | exact ih2 _ _ _ _ _
      | exact ih3 _ _ _ _ _
      | exact ih4 _ _ _ _ _
      | exact ih5 _ _ _
      | exact gazetteerlaw5_awake.mono _
      | exact gazetteerlaw5_parts.mono _ _
      | exact span_Whole.mono _ _
      | exact LeO.none _
      | refine LeO.ite ?_ ?_
      | refine LeO.bind ?_ (fun _ => ?_)
    · intro y0 y1 y2 y3 y4
      unfold gazetteerlaw5_SpanCuts.l2
      repeat' first
      | (with_reducible exact ih0 _ _ _)
      | (with_reducible exact ih1 _ _ _ _)
      | (with_reducible exact ih2 _ _ _ _ _)
      | (with_reducible exact ih3 _ _ _ _ _)
      | (with_reducible exact ih4 _ _ _ _ _)
      | (with_reducible exact ih5 _ _ _)
      | (with_reducible exact gazetteerlaw5_awake.mono _)
      | (with_reducible exact gazetteerlaw5_parts.mono _ _)
      | (with_reducible exact span_Whole.mono _ _)
      | (with_reducible exact LeO.refl _)
      | (with_reducible exact LeO.none _)
      | (with_reducible refine LeO.ite ?_ ?_)
      | (with_reducible refine LeO.bind ?_ (fun _ => ?_))
      | exact ih0 _ _ _
      | exact ih1 _ _ _ _
      | exact ih2 _ _ _ _ _
      | exact ih3 _ _ _ _ _
      | exact ih4 _ _ _ _ _
      | exact ih5 _ _ _
      | exact gazetteerlaw5_awake.mono _
      | exact gazetteerlaw5_parts.mono _ _
      | exact span_Whole.mono _ _
      | exact LeO.none _
      | refine LeO.ite ?_ ?_
      | refine LeO.bind ?_ (fun _ => ?_)
    · intro y0 y1 y2
      unfold gazetteerlaw5_SpanCuts.j5
      repeat' first
      | (with_reducible exact ih0 _ _ _)
      | (with_reducible exact ih1 _ _ _ _)
      | (with_reducible exact ih2 _ _ _ _ _)
      | (with_reducible exact ih3 _ _ _ _ _)
      | (with_reducible exact ih4 _ _ _ _ _)
      | (with_reducible exact ih5 _ _ _)
      | (with_reducible exact gazetteerlaw5_awake.mono _)
      | (with_reducible exact gazetteerlaw5_parts.mono _ _)
      | (with_reducible exact span_Whole.mono _ _)
      | (with_reducible exact LeO.refl _)
      | (with_reducible exact LeO.none _)
      | (with_reducible refine LeO.ite ?_ ?_)
      | (with_reducible refine LeO.bind ?_ (fun _ => ?_))
      | exact ih0 _ _ _
      | exact ih1 _ _ _ _
      | exact ih2 _ _ _ _ _
      | exact ih3 _ _ _ _ _
      | exact ih4 _ _ _ _ _
      | exact ih5 _ _ _
      | exact gazetteerlaw5_awake.mono _
      | exact gazetteerlaw5_parts.mono _ _
      | exact span_Whole.mono _ _
      | exact LeO.none _
      | refine LeO.ite ?_ ?_
      | refine LeO.bind ?_ (fun _ => ?_)
theorem gazetteerlaw5_SpanCuts.mono : ∀ a0 a1 k, LeO (gazetteerlaw5_SpanCuts.f k a0 a1) (gazetteerlaw5_SpanCuts.f (k + 1) a0 a1) := by
  intro a0 a1 k
  obtain ⟨ih0, ih1, ih2, ih3, ih4, ih5⟩ := gazetteerlaw5_SpanCuts.mono_l k
  unfold gazetteerlaw5_SpanCuts.f
  repeat' first
      | (with_reducible exact ih0 _ _ _)
      | (with_reducible exact ih1 _ _ _ _)
      | (with_reducible exact ih2 _ _ _ _ _)
      | (with_reducible exact ih3 _ _ _ _ _)
      | (with_reducible exact ih4 _ _ _ _ _)
      | (with_reducible exact ih5 _ _ _)
      | (with_reducible exact gazetteerlaw5_awake.mono _)
      | (with_reducible exact gazetteerlaw5_parts.mono _ _)
      | (with_reducible exact span_Whole.mono _ _)
      | (with_reducible exact LeO.refl _)
      | (with_reducible exact LeO.none _)
      | (with_reducible refine LeO.ite ?_ ?_)
      | (with_reducible refine LeO.bind ?_ (fun _ => ?_))
      | exact ih0 _ _ _
      | exact ih1 _ _ _ _
      | exact ih2 _ _ _ _ _
      | exact ih3 _ _ _ _ _
      | exact ih4 _ _ _ _ _
      | exact ih5 _ _ _
      | exact gazetteerlaw5_awake.mono _
      | exact gazetteerlaw5_parts.mono _ _
      | exact span_Whole.mono _ _
      | exact LeO.none _
      | refine LeO.ite ?_ ?_
      | refine LeO.bind ?_ (fun _ => ?_)
def gazetteerlaw5_SpanCuts.T12 : Bool × List (List Nat × List Nat) := (true, [([], []), ([], []), ([1], [1]), ([0, 2], [0, 2]), ([3], [3]), ([4], [4]), ([4], [4]), ([5, 6, 4], [4, 5, 6]), ([7, 4], [4, 7]), ([4], [4]), ([4], [4]), ([9, 10, 4], [4, 9, 10]), ([11, 4], [4, 11]), ([8, 12, 4], [4, 8, 12]), ([4, 13], [4, 13])])
def gazetteerlaw5_SpanCuts.B12 : List Nat := [0, 0, 2, 7, 15, 31, 31, 127, 255, 31, 31, 1567, 3615, 8191, 16383]
theorem gazetteerlaw5_SpanCuts.tab12 : rtab .any (opsOf Try.f5 12) = gazetteerlaw5_SpanCuts.T12 := by kernel_rfl
theorem gazetteerlaw5_SpanCuts.bits12 : waitsOk gazetteerlaw5_SpanCuts.T12.2 gazetteerlaw5_SpanCuts.B12 = true := by kernel_rfl
def gazetteerlaw5_SpanCuts.T14 : Bool × List (List Nat × List Nat) := (true, [([], []), ([], []), ([1], [1]), ([0, 2], [0, 2]), ([3], [3]), ([4], [4]), ([4], [4]), ([5, 6, 4], [4, 5, 6]), ([7, 4], [4, 7]), ([4], [4]), ([4], [4]), ([9, 10, 4], [4, 9, 10]), ([11, 4], [4, 11]), ([8, 12, 4], [4, 8, 12]), ([4, 13], [4, 13])])
def gazetteerlaw5_SpanCuts.B14 : List Nat := [0, 0, 2, 7, 15, 31, 31, 127, 255, 31, 31, 1567, 3615, 8191, 16383]
theorem gazetteerlaw5_SpanCuts.tab14 : rtab .any (opsOf Try.f5 14) = gazetteerlaw5_SpanCuts.T14 := by kernel_rfl
theorem gazetteerlaw5_SpanCuts.bits14 : waitsOk gazetteerlaw5_SpanCuts.T14.2 gazetteerlaw5_SpanCuts.B14 = true := by kernel_rfl
def gazetteerlaw5_SpanCuts.T15 : Bool × List (List Nat × List Nat) := (true, [([], []), ([], []), ([], []), ([1, 2], [1, 2]), ([0, 3], [0, 3]), ([], []), ([], []), ([5, 6], [5, 6]), ([7], [7]), ([8], [8]), ([4, 9, 4], [4, 9]), ([], []), ([], []), ([11, 12], [11, 12]), ([10, 13, 10], [10, 13]), ([14, 14, 0, 1, 2, 3, 4, 5, 6, 7, 8, 9, 10, 11, 12, 13, 14], [1, 11, 14])])
def gazetteerlaw5_SpanCuts.B15 : List Nat := [0, 0, 0, 6, 15, 0, 0, 96, 224, 480, 1023, 0, 0, 6144, 16383, 32767]
theorem gazetteerlaw5_SpanCuts.tab15 : rtab .any (opsOf Try.f5 15) = gazetteerlaw5_SpanCuts.T15 := by kernel_rfl
theorem gazetteerlaw5_SpanCuts.bits15 : waitsOk gazetteerlaw5_SpanCuts.T15.2 gazetteerlaw5_SpanCuts.B15 = true := by kernel_rfl
set_option maxHeartbeats 8000000 in
set_option maxRecDepth 100000 in
theorem gazetteerlaw5_SpanCuts.calls (k : Nat) (A0 : Option Addr) (c0 : Nat) (l0 : List ByteArray) (a1 : ByteArray) (r : Bool) (w : World) (hr0 : Kd.C Kd.string w A0 l0.length l0) (hc0 : l0.length ≤ c0) (HLT0 : r = true) (h : gazetteerlaw5_SpanCuts.f k l0 a1 = some r) :
    Calls Try.prog 5 #[.slice A0 l0.length c0, .string a1] w fun e w' => e = .returned (.bool r) ∧ Below w.heap.size w w' := by
  have hu38 := Try.underlying38
  have HLT := Aside0.mk HLT0
  clear HLT0
  have HR0 := Aside0.mk hr0
  have HC0 := Aside0.mk hc0
  clear hr0 hc0
  have HB := Aside0.mk (Below.refl w.heap.size w)
  have H : ((gazetteerlaw5_awake.f k).bind fun t128 => (if t128 = true then (if (l0.length : Int) > 30 then (gazetteerlaw5_SpanCuts.j0 k l0 a1 true) else (gazetteerlaw5_SpanCuts.j0 k l0 a1 (decide ((a1.size : Int) > 300)))) else (some false))) = some r := h
  clear h
  replace H := Option.bind_eq_some_iff.mp H
  obtain ⟨t128, A30, H⟩ := H
  replace H : (if t128 = true then (if (l0.length : Int) > 30 then (gazetteerlaw5_SpanCuts.j0 k l0 a1 true) else (gazetteerlaw5_SpanCuts.j0 k l0 a1 (decide ((a1.size : Int) > 300)))) else (some false)) = some r := H
  have A3 := Aside0.mk A30
  clear A30
  by_cases c4 : t128 = true
  rotate_left
  · replace c4 := Bool.eq_false_iff.mpr c4
    subst c4
    have H1 : (some false) = some r := by rw [if_neg (show ¬ (false = true) by decide)] at H; exact H
    clear H
    have H := H1
    clear H1
    exact absurd H (by rw [HLT.out]; repeat' first | (with_reducible exact dead_none) | (with_reducible exact dead_false) | (with_reducible refine dead_ite ?_ ?_) | (with_reducible refine dead_bind (fun _ => ?_)) | (refine dead_ite ?_ ?_) | (refine dead_bind (fun _ => ?_)) | (simp; done))
  subst c4
  have H1 : (if (l0.length : Int) > 30 then (gazetteerlaw5_SpanCuts.j0 k l0 a1 true) else (gazetteerlaw5_SpanCuts.j0 k l0 a1 (decide ((a1.size : Int) > 300)))) = some r := by rw [if_pos rfl] at H; exact H
  clear H
  have H := H1
  clear H1
  have HC5 := Aside0.mk H
  clear H
  go_enter Try.func5, Try.ntmps5
  go_upto_region 3 with (first | ((with_reducible refine gate_callee (f := 15) rfl ?_); refine goesL_ (some 11) rfl rfl Try.func15 (by kernel_rfl) rfl #[] rfl (by (try simp only [List.map_toArray, List.map_cons, List.map_nil]); first | done | rfl | (simp only [List.length_drop, List.length_take]; done) | (simp only [List.length_drop, List.length_take]; rfl)) ?_; (with_reducible refine (gazetteerlaw5_awake.calls k  true _ A3.out).mono ?_); rintro e w6 ⟨rfl, hb⟩; refine ⟨_, rfl, ?_⟩; replace HB := Aside0.mk (below_step (pB HB.out) hb); (try clear hb); (try clear hb2); (try clear hk); (try clear hi)))
  (try simp only [Act.put, List.setIfInBounds_toArray, List.set_cons_zero, List.set_cons_succ])
  go_cut [20] (fun v20 wc => ∃ (kq : Nat) (x20_4 : Bool), v20 = .bool x20_4 ∧ Aside0 (gazetteerlaw5_SpanCuts.j0 kq l0 a1 x20_4 = some r) ∧ Aside0 (kq ≤ k) ∧ Aside0 (Below w.heap.size w wc))
  case first =>
   have H := HC5.out
   clear HC5
   by_cases c7 : (l0.length : Int) > 30
   ·
    rw [if_pos c7] at H
    have c7b0 : decide (30 < (l0.length : Int)) = true := decide_eq_true c7
    have c7b1 : decide (30 < l0.length) = true := decide_eq_true (by omega)
    clear c7
    (first | rw [c7b0] | (simp only [i64_w, i32_w]; rw [c7b0]) | skip)
    have H' := Aside0.mk H
    clear H
    go_wp2
    go_meet
    case rel => exact ⟨_, (true), (by first | rfl | (simp; done) | (simp [*]; done)), H', ⟨by first | omega | exact Nat.le_refl _⟩, ⟨by repeat (first | (with_reducible first | exact HB.out | apply below_alloc | apply pw_below_drewN | apply below_drew1) | exact HB.out)⟩⟩
   rw [if_neg c7] at H
   have c7b0 : decide (30 < (l0.length : Int)) = false := decide_eq_false c7
   have c7b1 : decide (30 < l0.length) = false := decide_eq_false (by omega)
   clear c7
   (first | rw [c7b0] | (simp only [i64_w, i32_w]; rw [c7b0]) | skip)
   have H' := Aside0.mk H
   clear H
   go_wp2
   go_meet
   case rel => exact ⟨_, (decide ((a1.size : Int) > 300)), (by first | rfl | (simp; done) | (simp [*]; done)), H', ⟨by first | omega | exact Nat.le_refl _⟩, ⟨by repeat (first | (with_reducible first | exact HB.out | apply below_alloc | apply pw_below_drewN | apply below_drew1) | exact HB.out)⟩⟩
  case rest =>
   clear HC5
   try clear c1
   try clear p2
   try clear c4
   try clear c5
   try clear c7
   try clear c7b0
   try clear c7b1
   obtain ⟨kq, x20_4, rfl, HA, HJ4, HB⟩ := hcut
   cases kq with
   | zero => exact absurd HA.out (by simp [gazetteerlaw5_SpanCuts.j0])
   | succ kj4 =>
    have H := HA.out
    clear HA
    simp only [gazetteerlaw5_SpanCuts.j0] at H
    by_cases c8 : x20_4 = true
    ·
     subst c8
     have H1 : (some true) = some r := by rw [if_pos rfl] at H; exact H
     clear H
     have H := H1
     clear H1
     obtain rfl := Option.some.inj H
     go_wp2
     go_ret
     exact ⟨by first | rfl | (simp [errW_none, errW_some] <;> rfl) | (simp [*, errW_none, errW_some] <;> rfl), by repeat (first | (with_reducible first | exact HB.out | apply below_alloc | apply pw_below_drewN | apply below_drew1) | exact HB.out)⟩
    replace c8 := Bool.eq_false_iff.mpr c8
    subst c8
    have H1 : (gazetteerlaw5_SpanCuts.l0 kj4 l0 a1 ([] : List ByteArray) 0) = some r := by rw [if_neg (show ¬ (false = true) by decide)] at H; exact H
    clear H
    have H := H1
    clear H1
    have H' := Aside0.mk H
    clear H
    go_wp2
    go_loopg [5, 6] kj4 (fun kq v5 v6 w' => ∃ (x5_2 : List ByteArray) (x6_2 : Int), v6 = .int .i64 x6_2 ∧ Aside0 (gazetteerlaw5_SpanCuts.l0 kq l0 a1 x5_2 x6_2 = some r) ∧ Aside0 (kq ≤ kj4) ∧ Aside0 (Kd.R Kd.string 9 w' w.heap.size (fun _ => True) v5 x5_2) ∧ Aside0 (Below w.heap.size w w'))
    case atStart => exact ⟨(([] : List ByteArray)), (0), (by first | rfl | (simp; done) | (simp [*]; done)), H', ⟨Nat.le_refl _⟩, ⟨by first | exact Kd.R_nil _ _ _ _ _ | exact Kd.N_nil _ _ _ _ _ | exact Kd.V_nil _ _ _ _ _ | exact Kd.Q_nil _ _ _ _ _ | exact Kd.S_nil _ _ _ _ _⟩, ⟨by repeat (first | (with_reducible first | exact HB.out | apply below_alloc | apply pw_below_drewN | apply below_drew1) | exact HB.out)⟩⟩
    case round =>
     clear H'
     try clear c1
     try clear p2
     try clear c4
     try clear c5
     try clear c7
     try clear c7b0
     try clear c7b1
     try clear c8
     try clear p2
     obtain ⟨x5_2, x6_2, rfl, HA, HK2, HO_5, HB⟩ := hrel
     cases gk with
     | zero => exact absurd HA.out (by simp [gazetteerlaw5_SpanCuts.l0])
     | succ k2 =>
      have H := HA.out
      clear HA
      simp only [gazetteerlaw5_SpanCuts.l0] at H
      by_cases c9 : x6_2 < (l0.length : Int)
      rotate_left
      ·
       rw [if_neg c9] at H
       have c9b0 : decide (x6_2 < (l0.length : Int)) = false := decide_eq_false c9
       clear c9
       replace H := Option.bind_eq_some_iff.mp H
       obtain ⟨t183, A710, H⟩ := H
       replace H : (gazetteerlaw5_SpanCuts.l2 k2 a1 x5_2 t183 0 0) = some r := H
       have A71 := Aside0.mk A710
       clear A710
       have H' := Aside0.mk H
       clear H
       obtain ⟨Ao72, co72, eo72⟩ := Kd.R_slice HO_5.out
       subst eo72
       go_wp2_with (first | ((with_reducible refine gate_callee (f := 16) rfl ?_); refine goesL_ (some 88) rfl rfl Try.func16 (by kernel_rfl) rfl #[.slice Ao72 x5_2.length co72] rfl (by (try simp only [List.map_toArray, List.map_cons, List.map_nil]); first | done | rfl | (simp only [List.length_drop, List.length_take]; done) | (simp only [List.length_drop, List.length_take]; rfl)) ?_; (with_reducible refine (gazetteerlaw5_parts.calls k2 _ _ x5_2 t183 _ ?side1 ?side2 A71.out).mono ?_); (case side1 => repeat (first | exact (Kd.R_reads' HO_5.out).2.2 | (with_reducible refine Kd.C_alloc ?_ _) | (with_reducible refine Kd.C_drewN ?_ _) | (with_reducible refine Kd.C_drew ?_))); (case side2 => exact (Kd.R_reads' HO_5.out).2.1); rintro e w73 ⟨v184, rfl, ho0, hb⟩; refine ⟨_, rfl, ?_⟩; have HO185 := Aside0.mk (Kd.R_lower ho0 (below_size (pB HB.out))); replace HO_5 := Aside0.mk (Kd.R_below (pR HO_5.out) hb); replace HB := Aside0.mk (below_step (pB HB.out) hb); (try clear hb); (try clear hb2); (try clear hk); (try clear hi); (try clear ho0)))
       go_loopg [9, 10] k2 (fun kq v9 v10 w' => ∃ (x9_3 : Int) (x10_3 : Int), v9 = .int .i64 x9_3 ∧ v10 = .int .i64 x10_3 ∧ Aside0 (gazetteerlaw5_SpanCuts.l2 kq a1 x5_2 t183 x9_3 x10_3 = some r) ∧ Aside0 (kq ≤ k2) ∧ Aside0 (Kd.R Kd.string 9 w' w.heap.size (fun _ => True) (.slice Ao72 x5_2.length co72) x5_2) ∧ Aside0 (Kd.R k38 38 w' w.heap.size (fun _ => True) v184 t183) ∧ Aside0 (Below w.heap.size w w'))
       case atStart => exact ⟨(0), (0), (by first | rfl | (simp; done) | (simp [*]; done)), (by first | rfl | (simp; done) | (simp [*]; done)), H', ⟨Nat.le_refl _⟩, ⟨by (with_reducible repeat (first | apply Kd.R_alloc | apply Kd.R_drewN | apply Kd.R_drew)); exact HO_5.out⟩, ⟨by (with_reducible repeat (first | apply Kd.R_alloc | apply Kd.R_drewN | apply Kd.R_drew)); exact HO185.out⟩, ⟨by repeat (first | (with_reducible first | exact HB.out | apply below_alloc | apply pw_below_drewN | apply below_drew1) | exact HB.out)⟩⟩
       case round =>
        clear H'
        try clear c1
        try clear p1
        try clear q1
        try clear hx1
        try clear p2
        try clear c4
        try clear c5
        try clear c6
        try clear p6
        try clear q6
        try clear c9
        try clear c9b0
        try clear c16
        try clear p16
        try clear q16
        try clear hx16
        try clear c47
        try clear c48
        try clear c49
        try clear c50
        try clear c51
        try clear c52
        try clear c55
        try clear q60
        try clear c61
        try clear q61
        try clear p64
        try clear hx169_0
        try clear p169
        try clear q061
        try clear q169
        try clear q60
        try clear q61
        obtain ⟨x9_3, x10_3, rfl, rfl, HA, HK3, HO_5, HO_8, HB⟩ := hrel
        cases gk with
        | zero => exact absurd HA.out (by simp [gazetteerlaw5_SpanCuts.l2])
        | succ k3 =>
         have H := HA.out
         clear HA
         simp only [gazetteerlaw5_SpanCuts.l2] at H
         by_cases c74 : x10_3 < (t183.length : Int)
         ·
          rw [if_pos c74] at H
          have c74b0 : decide (x10_3 < (t183.length : Int)) = true := decide_eq_true c74
          clear c74
          by_cases c75 : 0 ≤ x10_3
          rotate_left
          · rw [if_neg c75] at H
            exact absurd H (by simp)
          rw [if_pos c75] at H
          have c75b0 : decide (0 ≤ x10_3) = true := decide_eq_true c75
          clear c75
          replace H := Option.bind_eq_some_iff.mp H
          obtain ⟨t187, A760, H⟩ := H
          replace H : (if t187 = true then (gazetteerlaw5_SpanCuts.l2 k3 a1 x5_2 t183 (wrap64 (x9_3 + 1)) (wrap64 (x10_3 + 1))) else (gazetteerlaw5_SpanCuts.l2 k3 a1 x5_2 t183 x9_3 (wrap64 (x10_3 + 1)))) = some r := H
          have A76 := Aside0.mk A760
          clear A760
          by_cases c77 : t187 = true
          ·
           subst c77
           have H1 : (gazetteerlaw5_SpanCuts.l2 k3 a1 x5_2 t183 (wrap64 (x9_3 + 1)) (wrap64 (x10_3 + 1))) = some r := by rw [if_pos rfl] at H; exact H
           clear H
           have H := H1
           clear H1
           have H' := Aside0.mk H
           clear H
           obtain ⟨Ao78, co78, eo78⟩ := Kd.R_slice HO_8.out
           subst eo78
           have p186 : 0 ≤ (x10_3 : Int) := of_decide_eq_true (by first | (with_reducible assumption) | assumption)
           have q186 : x10_3 < (t183.length : Int) := of_decide_eq_true (by first | (with_reducible assumption) | assumption)
           obtain ⟨ad186, e186, hx186_0, hx186_1⟩ := at_T38 (Kd.R_reads' HO_8.out).2.2 x10_3 p186 q186
           cases e186
           replace p186 := eq_true p186
           replace q186 := eq_true q186
           go_wp2_with (first | ((with_reducible refine gate_callee (f := 17) rfl ?_); refine goesL_ (some 100) rfl rfl Try.func17 (by kernel_rfl) rfl #[.agg #[.string ((rd_T38 t183 x10_3).f0), .string ((rd_T38 t183 x10_3).f1)], .string a1] rfl (by (try simp only [List.map_toArray, List.map_cons, List.map_nil]); first | done | rfl | (simp only [List.length_drop, List.length_take]; done) | (simp only [List.length_drop, List.length_take]; rfl)) ?_; (with_reducible refine (span_Has.calls ((rd_T38 t183 x10_3).f0) ((rd_T38 t183 x10_3).f1) a1 true _ A76.out).mono ?_); rintro e w79 ⟨rfl, hb⟩; refine ⟨_, rfl, ?_⟩; replace HO_5 := Aside0.mk (Kd.R_below (pR HO_5.out) hb); replace HO_8 := Aside0.mk (Kd.R_below (pR HO_8.out) hb); replace HB := Aside0.mk (below_step (pB HB.out) hb); (try clear hb); (try clear hb2); (try clear hk); (try clear hi)))
           go_roundg k3
           case measure => have := HJ4.out; have := HK2.out; have := HK3.out; omega
           case rel => exact ⟨(wrap64 (x9_3 + 1)), (wrap64 (x10_3 + 1)), (by first | rfl | (simp; done) | (simp [*]; done)), (by first | rfl | (simp; done) | (simp [*]; done)), H', ⟨by have := HJ4.out; have := HK2.out; have := HK3.out; omega⟩, ⟨by (with_reducible repeat (first | apply Kd.R_alloc | apply Kd.R_drewN | apply Kd.R_drew)); exact HO_5.out⟩, ⟨by (with_reducible repeat (first | apply Kd.R_alloc | apply Kd.R_drewN | apply Kd.R_drew)); exact HO_8.out⟩, ⟨by repeat (first | (with_reducible first | exact HB.out | apply below_alloc | apply pw_below_drewN | apply below_drew1) | exact HB.out)⟩⟩
          replace c77 := Bool.eq_false_iff.mpr c77
          subst c77
          have H1 : (gazetteerlaw5_SpanCuts.l2 k3 a1 x5_2 t183 x9_3 (wrap64 (x10_3 + 1))) = some r := by rw [if_neg (show ¬ (false = true) by decide)] at H; exact H
          clear H
          have H := H1
          clear H1
          have H' := Aside0.mk H
          clear H
          obtain ⟨Ao80, co80, eo80⟩ := Kd.R_slice HO_8.out
          subst eo80
          have p186 : 0 ≤ (x10_3 : Int) := of_decide_eq_true (by first | (with_reducible assumption) | assumption)
          have q186 : x10_3 < (t183.length : Int) := of_decide_eq_true (by first | (with_reducible assumption) | assumption)
          obtain ⟨ad186, e186, hx186_0, hx186_1⟩ := at_T38 (Kd.R_reads' HO_8.out).2.2 x10_3 p186 q186
          cases e186
          replace p186 := eq_true p186
          replace q186 := eq_true q186
          go_wp2_with (first | ((with_reducible refine gate_callee (f := 17) rfl ?_); refine goesL_ (some 100) rfl rfl Try.func17 (by kernel_rfl) rfl #[.agg #[.string ((rd_T38 t183 x10_3).f0), .string ((rd_T38 t183 x10_3).f1)], .string a1] rfl (by (try simp only [List.map_toArray, List.map_cons, List.map_nil]); first | done | rfl | (simp only [List.length_drop, List.length_take]; done) | (simp only [List.length_drop, List.length_take]; rfl)) ?_; (with_reducible refine (span_Has.calls ((rd_T38 t183 x10_3).f0) ((rd_T38 t183 x10_3).f1) a1 false _ A76.out).mono ?_); rintro e w81 ⟨rfl, hb⟩; refine ⟨_, rfl, ?_⟩; replace HO_5 := Aside0.mk (Kd.R_below (pR HO_5.out) hb); replace HO_8 := Aside0.mk (Kd.R_below (pR HO_8.out) hb); replace HB := Aside0.mk (below_step (pB HB.out) hb); (try clear hb); (try clear hb2); (try clear hk); (try clear hi)))
          go_roundg k3
          case measure => have := HJ4.out; have := HK2.out; have := HK3.out; omega
          case rel => exact ⟨(x9_3), (wrap64 (x10_3 + 1)), (by first | rfl | (simp; done) | (simp [*]; done)), (by first | rfl | (simp; done) | (simp [*]; done)), H', ⟨by have := HJ4.out; have := HK2.out; have := HK3.out; omega⟩, ⟨by (with_reducible repeat (first | apply Kd.R_alloc | apply Kd.R_drewN | apply Kd.R_drew)); exact HO_5.out⟩, ⟨by (with_reducible repeat (first | apply Kd.R_alloc | apply Kd.R_drewN | apply Kd.R_drew)); exact HO_8.out⟩, ⟨by repeat (first | (with_reducible first | exact HB.out | apply below_alloc | apply pw_below_drewN | apply below_drew1) | exact HB.out)⟩⟩
         rw [if_neg c74] at H
         have c74b0 : decide (x10_3 < (t183.length : Int)) = false := decide_eq_false c74
         clear c74
         have HC82 := Aside0.mk H
         clear H
         obtain ⟨Ao83, co83, eo83⟩ := Kd.R_slice HO_8.out
         subst eo83
         go_upto_region 23 with (fail)
         go_cut [121] (fun v121 wc => ∃ (kq : Nat) (x121_81 : Bool), v121 = .bool x121_81 ∧ Aside0 (gazetteerlaw5_SpanCuts.j5 kq x5_2 t183 x121_81 = some r) ∧ Aside0 (kq ≤ k3) ∧ Aside0 (Kd.R Kd.string 9 wc w.heap.size (fun _ => True) (.slice Ao72 x5_2.length co72) x5_2) ∧ Aside0 (Kd.R k38 38 wc w.heap.size (fun _ => True) (.slice Ao83 t183.length co83) t183) ∧ Aside0 (Below w.heap.size w wc))
         case first =>
          have H := HC82.out
          clear HC82
          replace H := Option.bind_eq_some_iff.mp H
          obtain ⟨t188, A840, H⟩ := H
          replace H : (if t188 = true then (if x9_3 = 1 then (if (x5_2.length : Int) > 0 then (if 1 ≤ (x5_2.length : Int) then ((gazetteerlaw5_parts.f k3 (x5_2.drop 1)).bind fun t193 => ((span_Whole.f k3 t193).bind fun t196 => (gazetteerlaw5_SpanCuts.j5 k3 x5_2 t183 (!t196)))) else (none)) else (gazetteerlaw5_SpanCuts.j5 k3 x5_2 t183 false)) else (gazetteerlaw5_SpanCuts.j5 k3 x5_2 t183 true)) else (gazetteerlaw5_SpanCuts.j5 k3 x5_2 t183 true)) = some r := H
          have A84 := Aside0.mk A840
          clear A840
          by_cases c85 : t188 = true
          rotate_left
          ·
           replace c85 := Bool.eq_false_iff.mpr c85
           subst c85
           have H1 : (gazetteerlaw5_SpanCuts.j5 k3 x5_2 t183 true) = some r := by rw [if_neg (show ¬ (false = true) by decide)] at H; exact H
           clear H
           have H := H1
           clear H1
           have H' := Aside0.mk H
           clear H
           go_wp2_with (first | ((with_reducible refine gate_callee (f := 18) rfl ?_); refine goesL_ (some 104) rfl rfl Try.func18 (by kernel_rfl) rfl #[.slice Ao83 t183.length co83] rfl (by (try simp only [List.map_toArray, List.map_cons, List.map_nil]); first | done | rfl | (simp only [List.length_drop, List.length_take]; done) | (simp only [List.length_drop, List.length_take]; rfl)) ?_; (with_reducible refine (span_Whole.calls k3 _ _ t183 false _ ?side1 ?side2 A84.out).mono ?_); (case side1 => repeat (first | exact (Kd.R_reads' HO_8.out).2.2 | (with_reducible refine Kd.C_alloc ?_ _) | (with_reducible refine Kd.C_drewN ?_ _) | (with_reducible refine Kd.C_drew ?_))); (case side2 => exact (Kd.R_reads' HO_8.out).2.1); rintro e w98 ⟨rfl, hb⟩; refine ⟨_, rfl, ?_⟩; replace HO_5 := Aside0.mk (Kd.R_below (pR HO_5.out) hb); replace HO_8 := Aside0.mk (Kd.R_below (pR HO_8.out) hb); replace HB := Aside0.mk (below_step (pB HB.out) hb); (try clear hb); (try clear hb2); (try clear hk); (try clear hi)))
           go_meet
           case rel => exact ⟨_, (true), (by first | rfl | (simp; done) | (simp [*]; done)), H', ⟨by have := HJ4.out; have := HK2.out; have := HK3.out; first | omega | exact Nat.le_refl _⟩, ⟨by (with_reducible repeat (first | apply Kd.R_alloc | apply Kd.R_drewN | apply Kd.R_drew)); exact HO_5.out⟩, ⟨by (with_reducible repeat (first | apply Kd.R_alloc | apply Kd.R_drewN | apply Kd.R_drew)); exact HO_8.out⟩, ⟨by repeat (first | (with_reducible first | exact HB.out | apply below_alloc | apply pw_below_drewN | apply below_drew1) | exact HB.out)⟩⟩
          subst c85
          have H1 : (if x9_3 = 1 then (if (x5_2.length : Int) > 0 then (if 1 ≤ (x5_2.length : Int) then ((gazetteerlaw5_parts.f k3 (x5_2.drop 1)).bind fun t193 => ((span_Whole.f k3 t193).bind fun t196 => (gazetteerlaw5_SpanCuts.j5 k3 x5_2 t183 (!t196)))) else (none)) else (gazetteerlaw5_SpanCuts.j5 k3 x5_2 t183 false)) else (gazetteerlaw5_SpanCuts.j5 k3 x5_2 t183 true)) = some r := by rw [if_pos rfl] at H; exact H
          clear H
          have H := H1
          clear H1
          by_cases c86 : x9_3 = 1
          rotate_left
          ·
           rw [if_neg c86] at H
           have c86b0 : (x9_3 == 1) = false := beq_eq_false_iff_ne.mpr c86
           have c86b1 : (x9_3 != 1) = true := bne_iff_ne.mpr c86
           (first | rw [c86b0] | (simp only [i64_w, i32_w]; rw [c86b0]) | skip)
           have H' := Aside0.mk H
           clear H
           go_wp2_with (first | ((with_reducible refine gate_callee (f := 18) rfl ?_); refine goesL_ (some 104) rfl rfl Try.func18 (by kernel_rfl) rfl #[.slice Ao83 t183.length co83] rfl (by (try simp only [List.map_toArray, List.map_cons, List.map_nil]); first | done | rfl | (simp only [List.length_drop, List.length_take]; done) | (simp only [List.length_drop, List.length_take]; rfl)) ?_; (with_reducible refine (span_Whole.calls k3 _ _ t183 true _ ?side1 ?side2 A84.out).mono ?_); (case side1 => repeat (first | exact (Kd.R_reads' HO_8.out).2.2 | (with_reducible refine Kd.C_alloc ?_ _) | (with_reducible refine Kd.C_drewN ?_ _) | (with_reducible refine Kd.C_drew ?_))); (case side2 => exact (Kd.R_reads' HO_8.out).2.1); rintro e w97 ⟨rfl, hb⟩; refine ⟨_, rfl, ?_⟩; replace HO_5 := Aside0.mk (Kd.R_below (pR HO_5.out) hb); replace HO_8 := Aside0.mk (Kd.R_below (pR HO_8.out) hb); replace HB := Aside0.mk (below_step (pB HB.out) hb); (try clear hb); (try clear hb2); (try clear hk); (try clear hi)))
           go_meet
           case rel => exact ⟨_, (true), (by first | rfl | (simp; done) | (simp [*]; done)), H', ⟨by have := HJ4.out; have := HK2.out; have := HK3.out; first | omega | exact Nat.le_refl _⟩, ⟨by (with_reducible repeat (first | apply Kd.R_alloc | apply Kd.R_drewN | apply Kd.R_drew)); exact HO_5.out⟩, ⟨by (with_reducible repeat (first | apply Kd.R_alloc | apply Kd.R_drewN | apply Kd.R_drew)); exact HO_8.out⟩, ⟨by repeat (first | (with_reducible first | exact HB.out | apply below_alloc | apply pw_below_drewN | apply below_drew1) | exact HB.out)⟩⟩
          rw [if_pos c86] at H
          have c86b0 : (x9_3 == 1) = true := beq_iff_eq.mpr c86
          have c86b1 : (x9_3 != 1) = false := bne_eq_false_iff_eq.mpr c86
          clear c86
          (first | rw [c86b0] | (simp only [i64_w, i32_w]; rw [c86b0]) | skip)
          by_cases c87 : (x5_2.length : Int) > 0
          rotate_left
          ·
           rw [if_neg c87] at H
           have c87b0 : decide (0 < (x5_2.length : Int)) = false := decide_eq_false c87
           have c87b1 : decide (0 < x5_2.length) = false := decide_eq_false (by omega)
           clear c87
           have H' := Aside0.mk H
           clear H
           go_wp2_with (first | ((with_reducible refine gate_callee (f := 18) rfl ?_); refine goesL_ (some 104) rfl rfl Try.func18 (by kernel_rfl) rfl #[.slice Ao83 t183.length co83] rfl (by (try simp only [List.map_toArray, List.map_cons, List.map_nil]); first | done | rfl | (simp only [List.length_drop, List.length_take]; done) | (simp only [List.length_drop, List.length_take]; rfl)) ?_; (with_reducible refine (span_Whole.calls k3 _ _ t183 true _ ?side1 ?side2 A84.out).mono ?_); (case side1 => repeat (first | exact (Kd.R_reads' HO_8.out).2.2 | (with_reducible refine Kd.C_alloc ?_ _) | (with_reducible refine Kd.C_drewN ?_ _) | (with_reducible refine Kd.C_drew ?_))); (case side2 => exact (Kd.R_reads' HO_8.out).2.1); rintro e w96 ⟨rfl, hb⟩; refine ⟨_, rfl, ?_⟩; replace HO_5 := Aside0.mk (Kd.R_below (pR HO_5.out) hb); replace HO_8 := Aside0.mk (Kd.R_below (pR HO_8.out) hb); replace HB := Aside0.mk (below_step (pB HB.out) hb); (try clear hb); (try clear hb2); (try clear hk); (try clear hi)))
           go_meet
           case rel => exact ⟨_, (false), (by first | rfl | (simp; done) | (simp [*]; done)), H', ⟨by have := HJ4.out; have := HK2.out; have := HK3.out; first | omega | exact Nat.le_refl _⟩, ⟨by (with_reducible repeat (first | apply Kd.R_alloc | apply Kd.R_drewN | apply Kd.R_drew)); exact HO_5.out⟩, ⟨by (with_reducible repeat (first | apply Kd.R_alloc | apply Kd.R_drewN | apply Kd.R_drew)); exact HO_8.out⟩, ⟨by repeat (first | (with_reducible first | exact HB.out | apply below_alloc | apply pw_below_drewN | apply below_drew1) | exact HB.out)⟩⟩
          rw [if_pos c87] at H
          have c87b0 : decide (0 < (x5_2.length : Int)) = true := decide_eq_true c87
          have c87b1 : decide (0 < x5_2.length) = true := decide_eq_true (by omega)
          clear c87
          by_cases c88 : 1 ≤ (x5_2.length : Int)
          rotate_left
          · rw [if_neg c88] at H
            exact absurd H (by simp)
          rw [if_pos c88] at H
          have c88b0 := eq_true c88
          have c88b1 : decide (1 ≤ (x5_2.length : Int)) = true := decide_eq_true c88
          clear c88
          obtain ⟨y189, hy189⟩ : ∃ y_ : List ByteArray, y_ = (x5_2.drop 1) := ⟨_, rfl⟩
          replace H : ((gazetteerlaw5_parts.f k3 y189).bind fun t193 => ((span_Whole.f k3 t193).bind fun t196 => (gazetteerlaw5_SpanCuts.j5 k3 x5_2 t183 (!t196)))) = some r := by first | (rw [hy189]; with_reducible exact H) | (have H2_ := (Option.bind_some _ _).symm.trans H; rw [hy189]; with_reducible exact H2_) | (have H2_ := (Option.bind_some _ _).symm.trans H; with_reducible exact H2_) | with_reducible exact H | (rw [hy189]; exact H) | exact H
          have Ny189 := Aside0.mk hy189
          clear hy189
          replace H := Option.bind_eq_some_iff.mp H
          obtain ⟨t193, A890, H⟩ := H
          replace H : ((span_Whole.f k3 t193).bind fun t196 => (gazetteerlaw5_SpanCuts.j5 k3 x5_2 t183 (!t196))) = some r := H
          have A89 := Aside0.mk A890
          clear A890
          replace H := Option.bind_eq_some_iff.mp H
          obtain ⟨t196, A900, H⟩ := H
          replace H : (gazetteerlaw5_SpanCuts.j5 k3 x5_2 t183 (!t196)) = some r := H
          have A90 := Aside0.mk A900
          clear A900
          have H' := Aside0.mk H
          clear H
          go_wp2_with (first | ((with_reducible refine gate_callee (f := 18) rfl ?_); refine goesL_ (some 104) rfl rfl Try.func18 (by kernel_rfl) rfl #[.slice Ao83 t183.length co83] rfl (by (try simp only [List.map_toArray, List.map_cons, List.map_nil]); first | done | rfl | (simp only [List.length_drop, List.length_take]; done) | (simp only [List.length_drop, List.length_take]; rfl)) ?_; (with_reducible refine (span_Whole.calls k3 _ _ t183 true _ ?side1 ?side2 A84.out).mono ?_); (case side1 => repeat (first | exact (Kd.R_reads' HO_8.out).2.2 | (with_reducible refine Kd.C_alloc ?_ _) | (with_reducible refine Kd.C_drewN ?_ _) | (with_reducible refine Kd.C_drew ?_))); (case side2 => exact (Kd.R_reads' HO_8.out).2.1); rintro e w91 ⟨rfl, hb⟩; refine ⟨_, rfl, ?_⟩; replace HO_5 := Aside0.mk (Kd.R_below (pR HO_5.out) hb); replace HO_8 := Aside0.mk (Kd.R_below (pR HO_8.out) hb); replace HB := Aside0.mk (below_step (pB HB.out) hb); (try clear hb); (try clear hb2); (try clear hk); (try clear hi); have q92 : (1 : Int) ≤ ((x5_2.length : Int) : Int) := of_decide_eq_true (by first | (with_reducible assumption) | assumption); obtain ⟨i092, hi092, _, hsz92, _⟩ := info_parts info9; have hroom92 : x5_2.length ≤ co72 := (Kd.R_reads' HO_5.out).2.1; have hC92 : Kd.C Kd.string _ Ao72 x5_2.length x5_2 := (Kd.R_reads' HO_5.out).2.2; have hcut92 := cut_from (P := Try.prog) 33 9 .i64 Try.underlying33 hi092 1 hsz92 Ao72 x5_2.length co72 1 (by omega) q92; have hr92 := Kd.C_drop (m := (1 : Int).toNat) (c := co72) hC92 (by omega) hroom92; obtain ⟨A92, hA92⟩ : ∃ A1, A1 = (if co72 = (1 : Int).toNat then Ao72 else (Ao72 : Option Addr).map (·.add ((1 : Int).toNat * 1))) := ⟨_, rfl⟩; obtain ⟨c92, hc92⟩ : ∃ c1, c1 = co72 - (1 : Int).toNat := ⟨_, rfl⟩; have hy92 : y189.length = x5_2.length - (1 : Int).toNat := (by rw [Ny189.out, List.length_drop] <;> omega); rw [show (x5_2).drop (1 : Int).toNat = y189 from Ny189.out.symm] at hr92; replace hr92 : Kd.C Kd.string _ A92 y189.length y189 := (by rw [hA92]; exact hr92); rw [← hy92, ← hA92, ← hc92] at hcut92; have HR192 := Aside0.mk hr92; have HC192 := Aside0.mk (show y189.length ≤ c92 from by rw [hy92, hc92]; exact Nat.sub_le_sub_right hroom92 _); clear hr92 hC92 hroom92 hi092 hsz92 hc92; have KY92 := Aside0.mk hy92; have KA92 := Aside0.mk hA92; clear hy92 hA92; have KL92 := Aside0.mk (show 1 ≤ x5_2.length from by omega); replace q92 := eq_true q92) | (go_at_call 16; (with_reducible refine (gazetteerlaw5_parts.calls k3 _ _ y189 t193 _ ?side1 ?side2 A89.out).mono ?_); (case side1 => repeat (first | exact (by repeat (first | (with_reducible exact HR192.out) | (with_reducible refine Kd.C_alloc ?_ _) | (with_reducible refine Kd.C_drewN ?_ _) | (with_reducible refine Kd.C_drew ?_) | exact HR192.out)) | (with_reducible refine Kd.C_alloc ?_ _) | (with_reducible refine Kd.C_drewN ?_ _) | (with_reducible refine Kd.C_drew ?_))); (case side2 => exact HC192.out); rintro e w93 ⟨v194, rfl, ho0, hb⟩; have HO195 := Aside0.mk (Kd.R_lower (Kd.R_new' ho0 (Kd.R_lt (pR HO_8.out))) (below_size (pB HB.out))); replace HO_5 := Aside0.mk (Kd.R_below (pR HO_5.out) hb); replace HO_8 := Aside0.mk (Kd.R_elder' (pR HO_8.out) (Kd.R_base ho0) hb); replace HR192 := Aside0.mk (Kd.C_below (by repeat (first | (with_reducible exact HR192.out) | (with_reducible refine Kd.C_alloc ?_ _) | (with_reducible refine Kd.C_drewN ?_ _) | (with_reducible refine Kd.C_drew ?_) | exact HR192.out)) hb); replace HB := Aside0.mk (below_step (pB HB.out) hb); (try clear hb); (try clear hb2); (try clear hk); (try clear hi); (try clear ho0); obtain ⟨Ao94, co94, eo94⟩ := Kd.R_slice HO195.out; subst eo94) | (go_at_call 18; (with_reducible refine (span_Whole.calls k3 _ _ t193 t196 _ ?side1 ?side2 A90.out).mono ?_); (case side1 => repeat (first | exact (Kd.R_reads' HO195.out).2.2 | (with_reducible refine Kd.C_alloc ?_ _) | (with_reducible refine Kd.C_drewN ?_ _) | (with_reducible refine Kd.C_drew ?_))); (case side2 => exact (Kd.R_reads' HO195.out).2.1); rintro e w95 ⟨rfl, hb⟩; replace HO_5 := Aside0.mk (Kd.R_below (pR HO_5.out) hb); replace HO_8 := Aside0.mk (Kd.R_below (pR HO_8.out) hb); replace HO195 := Aside0.mk (Kd.R_below (pR HO195.out) hb); replace HR192 := Aside0.mk (Kd.C_below (by repeat (first | (with_reducible exact HR192.out) | (with_reducible refine Kd.C_alloc ?_ _) | (with_reducible refine Kd.C_drewN ?_ _) | (with_reducible refine Kd.C_drew ?_) | exact HR192.out)) hb); replace HB := Aside0.mk (below_step (pB HB.out) hb); (try clear hb); (try clear hb2); (try clear hk); (try clear hi)))
          go_meet
          case rel => exact ⟨_, (!t196), (by first | rfl | (simp; done) | (simp [*]; done)), H', ⟨by have := HJ4.out; have := HK2.out; have := HK3.out; first | omega | exact Nat.le_refl _⟩, ⟨by (with_reducible repeat (first | apply Kd.R_alloc | apply Kd.R_drewN | apply Kd.R_drew)); exact HO_5.out⟩, ⟨by (with_reducible repeat (first | apply Kd.R_alloc | apply Kd.R_drewN | apply Kd.R_drew)); exact Kd.R_mono HO_8.out (fun _ hk => trivial)⟩, ⟨by repeat (first | (with_reducible first | exact HB.out | apply below_alloc | apply pw_below_drewN | apply below_drew1) | exact HB.out)⟩⟩
         case rest =>
          clear HC82
          try clear c1
          try clear p1
          try clear q1
          try clear hx1
          try clear p2
          try clear c4
          try clear c5
          try clear c6
          try clear p6
          try clear q6
          try clear c7
          try clear c8
          try clear c9
          try clear c9b0
          try clear q9
          try clear c16
          try clear p16
          try clear q16
          try clear hx16
          try clear c17
          try clear c18
          try clear p18
          try clear q18
          try clear hx18
          try clear c47
          try clear c48
          try clear c49
          try clear c50
          try clear c51
          try clear c52
          try clear c55
          try clear q60
          try clear c61
          try clear q61
          try clear p64
          try clear c74
          try clear c74b0
          try clear c75
          try clear c75b0
          try clear c77
          try clear c85
          try clear c86
          try clear c86b0
          try clear c86b1
          try clear c87
          try clear c87b0
          try clear c87b1
          try clear c88
          try clear c88b0
          try clear c88b1
          try clear c92
          try clear q92
          try clear hx169_0
          try clear hx186_0
          try clear hx186_1
          try clear p1
          try clear p16
          try clear p169
          try clear p186
          try clear p2
          try clear p6
          try clear p64
          try clear q061
          try clear q1
          try clear q16
          try clear q169
          try clear q186
          try clear q6
          try clear q60
          try clear q61
          try clear q92
          obtain ⟨kq, x121_81, rfl, HA, HJ81, HO_5, HO_8, HB⟩ := hcut
          cases kq with
          | zero => exact absurd HA.out (by simp [gazetteerlaw5_SpanCuts.j5])
          | succ kj81 =>
           have H := HA.out
           clear HA
           simp only [gazetteerlaw5_SpanCuts.j5] at H
           by_cases c99 : x121_81 = true
           · subst c99
             have H1 : (some false) = some r := by rw [if_pos rfl] at H; exact H
             clear H
             have H := H1
             clear H1
             exact absurd H (by rw [HLT.out]; repeat' first | (with_reducible exact dead_none) | (with_reducible exact dead_false) | (with_reducible refine dead_ite ?_ ?_) | (with_reducible refine dead_bind (fun _ => ?_)) | (refine dead_ite ?_ ?_) | (refine dead_bind (fun _ => ?_)) | (simp; done))
           replace c99 := Bool.eq_false_iff.mpr c99
           subst c99
           have H1 : (if (x5_2.length : Int) = 0 then (some true) else (if 0 < (x5_2.length : Int) then ((some (([rdOf ByteArray.empty x5_2 0] : List ByteArray) : List ByteArray)).bind fun y198 => (if y198.length + x5_2.length < 8796093022208 then ((gazetteerlaw5_parts.f kj81 (y198 ++ x5_2)).bind fun t204 => ((span_Whole.f kj81 t204).bind fun t207 => (if t207 = true then (some false) else (if 1 ≤ (t183.length : Int) then ((span_Whole.f kj81 (t183.drop 1)).bind fun t212 => (if t212 = true then (some false) else ((span_Whole.f kj81 ([] : List (S38))).bind fun t213 => (some (!t213))))) else (none))))) else (none))) else (none))) = some r := by rw [if_neg (show ¬ (false = true) by decide)] at H; exact H
           clear H
           have H := H1
           clear H1
           by_cases c100 : (x5_2.length : Int) = 0
           ·
            rw [if_pos c100] at H
            have c100b0 : ((x5_2.length : Int) == 0) = true := beq_iff_eq.mpr c100
            have c100b1 : ((x5_2.length : Int) != 0) = false := bne_eq_false_iff_eq.mpr c100
            clear c100
            obtain rfl := Option.some.inj H
            go_wp2
            go_ret
            exact ⟨by first | rfl | (simp [errW_none, errW_some] <;> rfl) | (simp [*, errW_none, errW_some] <;> rfl), by repeat (first | (with_reducible first | exact HB.out | apply below_alloc | apply pw_below_drewN | apply below_drew1) | exact HB.out)⟩
           rw [if_neg c100] at H
           have c100b0 : ((x5_2.length : Int) == 0) = false := beq_eq_false_iff_ne.mpr c100
           have c100b1 : ((x5_2.length : Int) != 0) = true := bne_iff_ne.mpr c100
           have c100b2 : ¬ (x5_2 = []) := fun h_ => c100 (by rw [h_]; rfl)
           by_cases c101 : 0 < (x5_2.length : Int)
           rotate_left
           · rw [if_neg c101] at H
             exact absurd H (by simp)
           rw [if_pos c101] at H
           have c101b0 : decide (0 < (x5_2.length : Int)) = true := decide_eq_true c101
           have c101b1 : decide (0 < x5_2.length) = true := decide_eq_true (by omega)
           clear c101
           obtain ⟨y198, hy198⟩ : ∃ y_ : List ByteArray, y_ = (([rdOf ByteArray.empty x5_2 0] : List ByteArray)) := ⟨_, rfl⟩
           replace H : (if y198.length + x5_2.length < 8796093022208 then ((gazetteerlaw5_parts.f kj81 (y198 ++ x5_2)).bind fun t204 => ((span_Whole.f kj81 t204).bind fun t207 => (if t207 = true then (some false) else (if 1 ≤ (t183.length : Int) then ((span_Whole.f kj81 (t183.drop 1)).bind fun t212 => (if t212 = true then (some false) else ((span_Whole.f kj81 ([] : List (S38))).bind fun t213 => (some (!t213))))) else (none))))) else (none)) = some r := by first | (rw [hy198]; with_reducible exact H) | (have H2_ := (Option.bind_some _ _).symm.trans H; rw [hy198]; with_reducible exact H2_) | (have H2_ := (Option.bind_some _ _).symm.trans H; with_reducible exact H2_) | with_reducible exact H | (rw [hy198]; exact H) | exact H
           have Ny198 := Aside0.mk hy198
           clear hy198
           by_cases c102 : y198.length + x5_2.length < 8796093022208
           rotate_left
           · rw [if_neg c102] at H
             exact absurd H (by simp)
           rw [if_pos c102] at H
           have LMc102 := Aside0.mk c102
           clear c102
           obtain ⟨y201, hy201⟩ : ∃ y_ : List ByteArray, y_ = (y198 ++ x5_2) := ⟨_, rfl⟩
           replace H : ((gazetteerlaw5_parts.f kj81 y201).bind fun t204 => ((span_Whole.f kj81 t204).bind fun t207 => (if t207 = true then (some false) else (if 1 ≤ (t183.length : Int) then ((span_Whole.f kj81 (t183.drop 1)).bind fun t212 => (if t212 = true then (some false) else ((span_Whole.f kj81 ([] : List (S38))).bind fun t213 => (some (!t213))))) else (none))))) = some r := by first | (rw [hy201]; with_reducible exact H) | (have H2_ := (Option.bind_some _ _).symm.trans H; rw [hy201]; with_reducible exact H2_) | (have H2_ := (Option.bind_some _ _).symm.trans H; with_reducible exact H2_) | with_reducible exact H | (rw [hy201]; exact H) | exact H
           have Ny201 := Aside0.mk hy201
           clear hy201
           replace H := Option.bind_eq_some_iff.mp H
           obtain ⟨t204, A1030, H⟩ := H
           replace H : ((span_Whole.f kj81 t204).bind fun t207 => (if t207 = true then (some false) else (if 1 ≤ (t183.length : Int) then ((span_Whole.f kj81 (t183.drop 1)).bind fun t212 => (if t212 = true then (some false) else ((span_Whole.f kj81 ([] : List (S38))).bind fun t213 => (some (!t213))))) else (none)))) = some r := H
           have A103 := Aside0.mk A1030
           clear A1030
           replace H := Option.bind_eq_some_iff.mp H
           obtain ⟨t207, A1040, H⟩ := H
           replace H : (if t207 = true then (some false) else (if 1 ≤ (t183.length : Int) then ((span_Whole.f kj81 (t183.drop 1)).bind fun t212 => (if t212 = true then (some false) else ((span_Whole.f kj81 ([] : List (S38))).bind fun t213 => (some (!t213))))) else (none))) = some r := H
           have A104 := Aside0.mk A1040
           clear A1040
           by_cases c105 : t207 = true
           · subst c105
             have H1 : (some false) = some r := by rw [if_pos rfl] at H; exact H
             clear H
             have H := H1
             clear H1
             exact absurd H (by rw [HLT.out]; repeat' first | (with_reducible exact dead_none) | (with_reducible exact dead_false) | (with_reducible refine dead_ite ?_ ?_) | (with_reducible refine dead_bind (fun _ => ?_)) | (refine dead_ite ?_ ?_) | (refine dead_bind (fun _ => ?_)) | (simp; done))
           replace c105 := Bool.eq_false_iff.mpr c105
           subst c105
           have H1 : (if 1 ≤ (t183.length : Int) then ((span_Whole.f kj81 (t183.drop 1)).bind fun t212 => (if t212 = true then (some false) else ((span_Whole.f kj81 ([] : List (S38))).bind fun t213 => (some (!t213))))) else (none)) = some r := by rw [if_neg (show ¬ (false = true) by decide)] at H; exact H
           clear H
           have H := H1
           clear H1
           by_cases c106 : 1 ≤ (t183.length : Int)
           rotate_left
           · rw [if_neg c106] at H
             exact absurd H (by simp)
           rw [if_pos c106] at H
           have c106b0 := eq_true c106
           have c106b1 : decide (1 ≤ (t183.length : Int)) = true := decide_eq_true c106
           clear c106
           obtain ⟨y208, hy208⟩ : ∃ y_ : List (S38), y_ = (t183.drop 1) := ⟨_, rfl⟩
           replace H : ((span_Whole.f kj81 y208).bind fun t212 => (if t212 = true then (some false) else ((span_Whole.f kj81 ([] : List (S38))).bind fun t213 => (some (!t213))))) = some r := by first | (rw [hy208]; with_reducible exact H) | (have H2_ := (Option.bind_some _ _).symm.trans H; rw [hy208]; with_reducible exact H2_) | (have H2_ := (Option.bind_some _ _).symm.trans H; with_reducible exact H2_) | with_reducible exact H | (rw [hy208]; exact H) | exact H
           have Ny208 := Aside0.mk hy208
           clear hy208
           replace H := Option.bind_eq_some_iff.mp H
           obtain ⟨t212, A1070, H⟩ := H
           replace H : (if t212 = true then (some false) else ((span_Whole.f kj81 ([] : List (S38))).bind fun t213 => (some (!t213)))) = some r := H
           have A107 := Aside0.mk A1070
           clear A1070
           by_cases c108 : t212 = true
           · subst c108
             have H1 : (some false) = some r := by rw [if_pos rfl] at H; exact H
             clear H
             have H := H1
             clear H1
             exact absurd H (by rw [HLT.out]; repeat' first | (with_reducible exact dead_none) | (with_reducible exact dead_false) | (with_reducible refine dead_ite ?_ ?_) | (with_reducible refine dead_bind (fun _ => ?_)) | (refine dead_ite ?_ ?_) | (refine dead_bind (fun _ => ?_)) | (simp; done))
           replace c108 := Bool.eq_false_iff.mpr c108
           subst c108
           have H1 : ((span_Whole.f kj81 ([] : List (S38))).bind fun t213 => (some (!t213))) = some r := by rw [if_neg (show ¬ (false = true) by decide)] at H; exact H
           clear H
           have H := H1
           clear H1
           replace H := Option.bind_eq_some_iff.mp H
           obtain ⟨t213, A1090, H⟩ := H
           replace H : (some (!t213)) = some r := H
           have A109 := Aside0.mk A1090
           clear A1090
           obtain rfl := Option.some.inj H
           have p197 : 0 ≤ (0 : Int) := (by omega)
           have q197 : 0 < (x5_2.length : Int) := of_decide_eq_true (by first | (with_reducible assumption) | assumption)
           obtain ⟨ad197, e197, hx197_0⟩ := Kd.at_string (Kd.R_reads' HO_5.out).2.2 0 p197 q197
           cases e197
           have qi197 : (0 < x5_2.length) = True := eq_true (by omega)
           (try rw [show ((0 : Int)).toNat = 0 from rfl] at hx197_0)
           (try rw [Addr.add_zero'] at hx197_0)
           replace p197 := eq_true p197
           replace q197 := eq_true q197
           go_wp2_with (first | ((with_reducible refine gate_dst (N := 128) rfl ?_); (try (refine gate_guard (by rfl) ?_; dsimp only)); refine Kd.R_lit Kd.string _ 9 ?hg (N := 128) ?hd (xs := ([rdOf ByteArray.empty x5_2 0] : List ByteArray)) (inner := [.string (rdOf ByteArray.empty x5_2 0)]) (ok := fun _ => True) (okp := fun _ => True) ?hr ?hp (fun _ hk => hk) trivial (Below.refl _ _) (Nat.le_refl _) (by simp) ?_; (case hd => rfl); (case hg => rfl); (case hr => first | (go_simp; done) | (go_simp; rfl)); (case hp => exact (Reps.one (show Kd.M Kd.string _ _ _ (rdOf ByteArray.empty x5_2 0) [.string (rdOf ByteArray.empty x5_2 0)] from rfl) (Reps.none _ _))); intro v199 w110 ho111 hb hg_ hnew_; clear hg_ hnew_; (first | rw [← Ny198.out] at ho111 | (simp only [Int.reduceToNat] at ho111; rw [← Ny198.out] at ho111)); have HO200 := Aside0.mk (Kd.R_lower (Kd.R_new' ho111 (Kd.R_lt (pR HO_5.out))) (below_size (pB HB.out))); replace HO_5 := Aside0.mk (Kd.R_elder' (pR HO_5.out) (Kd.R_base ho111) hb); replace HO_8 := Aside0.mk (Kd.R_below (pR HO_8.out) hb); replace HB := Aside0.mk (below_step (pB HB.out) hb); clear hb ho111) | ((with_reducible refine gate_builtin (b := .append) (xs := #[.tmp 128, .tmp 129]) rfl ?_); (try (refine gate_guard (by rfl) ?_; dsimp only)); at_builtin; refine Kd.R_append_rows Kd.string (w0 := w) w.heap.size rfl (.tmp 128) (.tmp 129) 33 9 (.string ⟨#[]⟩) 16 rfl Try.underlying33 info9 rfl (by decide) (by omega) v199 y198 x5_2 _ _ _ (fun k_ => some k_ ≠ (.slice (some ad197) x5_2.length co72 : Value).ownBlock) (fun _ => False) rfl rfl ?aO ?aR (fun _ _ h => h) (fun _ h => h.elim) ?aF ?aB ?aS ?aL ?_; (case aR => repeat (first | exact (Kd.R_reads' HO_5.out).2.2 | (with_reducible refine Kd.C_alloc ?_ _) | (with_reducible refine Kd.C_drewN ?_ _) | (with_reducible refine Kd.C_drew ?_))); (case aB => exact (pB HB.out)); (case aF => exact (fun k_ hk => Kd.fresh' (Kd.R_lt (pR HO_5.out)) k_ hk)); (case aO => exact (by (with_reducible repeat (first | apply Kd.R_alloc | apply Kd.R_drewN | apply Kd.R_drew)); exact Kd.R_mono HO200.out (fun _ hk => hk.2))); (case aS => exact (below_size (pB HB.out))); (case aL => have := LMc102.out; omega); intro v202 w112 ho hb hg hat; rw [← Ny201.out] at ho; have HO203 := Aside0.mk (ho); replace HO_5 := Aside0.mk (Kd.R_after (ok := (fun _ => True)) (pR HO_5.out) hg hat); replace HO_8 := Aside0.mk (Kd.R_over' (pR HO_8.out) (Kd.R_typed (pR HO200.out)) (by decide) hg); replace HB := Aside0.mk (hb); clear HO200; clear ho hb hg hat; obtain ⟨Ao113, co113, eo113⟩ := Kd.R_slice HO203.out; subst eo113) | ((with_reducible refine gate_callee (f := 16) rfl ?_); refine goesL_ (some 131) rfl rfl Try.func16 (by kernel_rfl) rfl #[.slice Ao113 y201.length co113] rfl (by (try simp only [List.map_toArray, List.map_cons, List.map_nil]); first | done | rfl | (simp only [List.length_drop, List.length_take]; done) | (simp only [List.length_drop, List.length_take]; rfl)) ?_; (with_reducible refine (gazetteerlaw5_parts.calls kj81 _ _ y201 t204 _ ?side1 ?side2 A103.out).mono ?_); (case side1 => repeat (first | exact (Kd.R_reads' HO203.out).2.2 | (with_reducible refine Kd.C_alloc ?_ _) | (with_reducible refine Kd.C_drewN ?_ _) | (with_reducible refine Kd.C_drew ?_))); (case side2 => exact (Kd.R_reads' HO203.out).2.1); rintro e w114 ⟨v205, rfl, ho0, hb⟩; refine ⟨_, rfl, ?_⟩; have HO206 := Aside0.mk (Kd.R_lower (Kd.R_new' ho0 (Kd.R_lt (pR HO_8.out))) (below_size (pB HB.out))); replace HO_5 := Aside0.mk (Kd.R_below (pR HO_5.out) hb); replace HO_8 := Aside0.mk (Kd.R_elder' (pR HO_8.out) (Kd.R_base ho0) hb); replace HO203 := Aside0.mk (Kd.R_below (pR HO203.out) hb); replace HB := Aside0.mk (below_step (pB HB.out) hb); (try clear hb); (try clear hb2); (try clear hk); (try clear hi); (try clear ho0); obtain ⟨Ao115, co115, eo115⟩ := Kd.R_slice HO206.out; subst eo115) | ((with_reducible refine gate_callee (f := 18) rfl ?_); refine goesL_ (some 132) rfl rfl Try.func18 (by kernel_rfl) rfl #[.slice Ao115 t204.length co115] rfl (by (try simp only [List.map_toArray, List.map_cons, List.map_nil]); first | done | rfl | (simp only [List.length_drop, List.length_take]; done) | (simp only [List.length_drop, List.length_take]; rfl)) ?_; (with_reducible refine (span_Whole.calls kj81 _ _ t204 false _ ?side1 ?side2 A104.out).mono ?_); (case side1 => repeat (first | exact (Kd.R_reads' HO206.out).2.2 | (with_reducible refine Kd.C_alloc ?_ _) | (with_reducible refine Kd.C_drewN ?_ _) | (with_reducible refine Kd.C_drew ?_))); (case side2 => exact (Kd.R_reads' HO206.out).2.1); rintro e w116 ⟨rfl, hb⟩; refine ⟨_, rfl, ?_⟩; replace HO_5 := Aside0.mk (Kd.R_below (pR HO_5.out) hb); replace HO_8 := Aside0.mk (Kd.R_below (pR HO_8.out) hb); replace HO203 := Aside0.mk (Kd.R_below (pR HO203.out) hb); replace HO206 := Aside0.mk (Kd.R_below (pR HO206.out) hb); replace HB := Aside0.mk (below_step (pB HB.out) hb); (try clear hb); (try clear hb2); (try clear hk); (try clear hi); have q117 : (1 : Int) ≤ ((t183.length : Int) : Int) := of_decide_eq_true (by first | (with_reducible assumption) | assumption); obtain ⟨i0117, hi0117, _, hsz117, _⟩ := info_parts info38; have hroom117 : t183.length ≤ co83 := (Kd.R_reads' HO_8.out).2.1; have hC117 : Kd.C k38 _ Ao83 t183.length t183 := (Kd.R_reads' HO_8.out).2.2; have hcut117 := cut_from (P := Try.prog) 34 38 .i64 Try.underlying34 hi0117 2 hsz117 Ao83 t183.length co83 1 (by omega) q117; have hr117 := Kd.C_drop (m := (1 : Int).toNat) (c := co83) hC117 (by omega) hroom117; obtain ⟨A117, hA117⟩ : ∃ A1, A1 = (if co83 = (1 : Int).toNat then Ao83 else (Ao83 : Option Addr).map (·.add ((1 : Int).toNat * 2))) := ⟨_, rfl⟩; obtain ⟨c117, hc117⟩ : ∃ c1, c1 = co83 - (1 : Int).toNat := ⟨_, rfl⟩; have hy117 : y208.length = t183.length - (1 : Int).toNat := (by rw [Ny208.out, List.length_drop] <;> omega); rw [show (t183).drop (1 : Int).toNat = y208 from Ny208.out.symm] at hr117; replace hr117 : Kd.C k38 _ A117 y208.length y208 := (by rw [hA117]; exact hr117); rw [← hy117, ← hA117, ← hc117] at hcut117; have HR211 := Aside0.mk hr117; have HC211 := Aside0.mk (show y208.length ≤ c117 from by rw [hy117, hc117]; exact Nat.sub_le_sub_right hroom117 _); clear hr117 hC117 hroom117 hi0117 hsz117 hc117; have KY117 := Aside0.mk hy117; have KA117 := Aside0.mk hA117; clear hy117 hA117; have KL117 := Aside0.mk (show 1 ≤ t183.length from by omega); replace q117 := eq_true q117) | (go_at_call 18; (with_reducible refine (span_Whole.calls kj81 _ _ y208 false _ ?side1 ?side2 A107.out).mono ?_); (case side1 => repeat (first | exact (by repeat (first | (with_reducible exact HR211.out) | (with_reducible refine Kd.C_alloc ?_ _) | (with_reducible refine Kd.C_drewN ?_ _) | (with_reducible refine Kd.C_drew ?_) | exact HR211.out)) | (with_reducible refine Kd.C_alloc ?_ _) | (with_reducible refine Kd.C_drewN ?_ _) | (with_reducible refine Kd.C_drew ?_))); (case side2 => exact HC211.out); rintro e w118 ⟨rfl, hb⟩; replace HO_5 := Aside0.mk (Kd.R_below (pR HO_5.out) hb); replace HO_8 := Aside0.mk (Kd.R_below (pR HO_8.out) hb); replace HO203 := Aside0.mk (Kd.R_below (pR HO203.out) hb); replace HO206 := Aside0.mk (Kd.R_below (pR HO206.out) hb); replace HR211 := Aside0.mk (Kd.C_below (by repeat (first | (with_reducible exact HR211.out) | (with_reducible refine Kd.C_alloc ?_ _) | (with_reducible refine Kd.C_drewN ?_ _) | (with_reducible refine Kd.C_drew ?_) | exact HR211.out)) hb); replace HB := Aside0.mk (below_step (pB HB.out) hb); (try clear hb); (try clear hb2); (try clear hk); (try clear hi)) | (go_at_call 18; (refine (span_Whole.calls kj81 _ _ ([] : List (S38)) t213 _ ?side1 ?side2 A109.out).mono ?_); (case side1 => exact Kd.C_nil _ _); (case side2 => exact Nat.le_refl _); rintro e w119 ⟨rfl, hb⟩; replace HO_5 := Aside0.mk (Kd.R_below (pR HO_5.out) hb); replace HO_8 := Aside0.mk (Kd.R_below (pR HO_8.out) hb); replace HO203 := Aside0.mk (Kd.R_below (pR HO203.out) hb); replace HO206 := Aside0.mk (Kd.R_below (pR HO206.out) hb); replace HR211 := Aside0.mk (Kd.C_below (by repeat (first | (with_reducible exact HR211.out) | (with_reducible refine Kd.C_alloc ?_ _) | (with_reducible refine Kd.C_drewN ?_ _) | (with_reducible refine Kd.C_drew ?_) | exact HR211.out)) hb); replace HB := Aside0.mk (below_step (pB HB.out) hb); (try clear hb); (try clear hb2); (try clear hk); (try clear hi)))
           go_ret
           exact ⟨by first | rfl | (simp [errW_none, errW_some] <;> rfl) | (simp [*, errW_none, errW_some] <;> rfl), by repeat (first | (with_reducible first | exact HB.out | apply below_alloc | apply pw_below_drewN | apply below_drew1) | exact HB.out)⟩
      rw [if_pos c9] at H
      have c9b0 : decide (x6_2 < (l0.length : Int)) = true := decide_eq_true c9
      clear c9
      have HC10 := Aside0.mk H
      clear H
      go_upto_region 9 with (fail)
      go_cut [39] (fun v39 wc => ∃ (kq : Nat) (x39_9 : Bool), v39 = .bool x39_9 ∧ Aside0 (gazetteerlaw5_SpanCuts.j2 kq l0 a1 x5_2 x6_2 x39_9 = some r) ∧ Aside0 (kq ≤ k2) ∧ Aside0 (Kd.R Kd.string 9 wc w.heap.size (fun _ => True) u5 x5_2) ∧ Aside0 (Below w.heap.size w wc))
      case first =>
       have H := HC10.out
       clear HC10
       by_cases c11 : 0 ≤ x6_2
       rotate_left
       · rw [if_neg c11] at H
         exact absurd H (by simp)
       rw [if_pos c11] at H
       have c11b0 : decide (0 ≤ x6_2) = true := decide_eq_true c11
       clear c11
       (first | rw [c11b0] | (simp only [i64_w, i32_w]; rw [c11b0]) | skip)
       by_cases c12 : ((rdOf ByteArray.empty l0 x6_2).size : Int) > 300
       ·
        rw [if_pos c12] at H
        have c12b0 : decide (300 < ((rdOf ByteArray.empty l0 x6_2).size : Int)) = true := decide_eq_true c12
        have c12b1 : decide (300 < (rdOf ByteArray.empty l0 x6_2).size) = true := decide_eq_true (by omega)
        clear c12
        have H' := Aside0.mk H
        clear H
        have p129 : 0 ≤ (x6_2 : Int) := of_decide_eq_true (by first | (with_reducible assumption) | assumption)
        have q129 : x6_2 < (l0.length : Int) := of_decide_eq_true (by first | (with_reducible assumption) | assumption)
        obtain ⟨ad129, e129, hx129_0⟩ := Kd.at_string HR0.out x6_2 p129 q129
        cases e129
        replace hx129_0 := (HB.out.cell (World.block_lt_of_cell? w _ hx129_0)).trans hx129_0
        replace p129 := eq_true p129
        replace q129 := eq_true q129
        go_wp2
        go_meet
        case rel => exact ⟨_, (true), (by first | rfl | (simp; done) | (simp [*]; done)), H', ⟨by have := HJ4.out; have := HK2.out; first | omega | exact Nat.le_refl _⟩, ⟨by (with_reducible repeat (first | apply Kd.R_alloc | apply Kd.R_drewN | apply Kd.R_drew)); exact HO_5.out⟩, ⟨by repeat (first | (with_reducible first | exact HB.out | apply below_alloc | apply pw_below_drewN | apply below_drew1) | exact HB.out)⟩⟩
       rw [if_neg c12] at H
       have c12b0 : decide (300 < ((rdOf ByteArray.empty l0 x6_2).size : Int)) = false := decide_eq_false c12
       have c12b1 : decide (300 < (rdOf ByteArray.empty l0 x6_2).size) = false := decide_eq_false (by omega)
       clear c12
       have H' := Aside0.mk H
       clear H
       have p129 : 0 ≤ (x6_2 : Int) := of_decide_eq_true (by first | (with_reducible assumption) | assumption)
       have q129 : x6_2 < (l0.length : Int) := of_decide_eq_true (by first | (with_reducible assumption) | assumption)
       obtain ⟨ad129, e129, hx129_0⟩ := Kd.at_string HR0.out x6_2 p129 q129
       cases e129
       replace hx129_0 := (HB.out.cell (World.block_lt_of_cell? w _ hx129_0)).trans hx129_0
       replace p129 := eq_true p129
       replace q129 := eq_true q129
       have p130 : 0 ≤ (x6_2 : Int) := of_decide_eq_true (by first | (with_reducible assumption) | assumption)
       have q130 : x6_2 < (l0.length : Int) := of_decide_eq_true (by first | (with_reducible assumption) | assumption)
       obtain ⟨ad130, e130, hx130_0⟩ := Kd.at_string HR0.out x6_2 p130 q130
       obtain rfl : ad129 = ad130 := (by injection e130)
       replace hx130_0 := (HB.out.cell (World.block_lt_of_cell? w _ hx130_0)).trans hx130_0
       replace p130 := eq_true p130
       replace q130 := eq_true q130
       go_wp2
       go_meet
       case rel => exact ⟨_, (((rdOf ByteArray.empty l0 x6_2).toList == ([] : List UInt8))), (by first | rfl | (simp; done) | (simp [*]; done)), H', ⟨by have := HJ4.out; have := HK2.out; first | omega | exact Nat.le_refl _⟩, ⟨by (with_reducible repeat (first | apply Kd.R_alloc | apply Kd.R_drewN | apply Kd.R_drew)); exact HO_5.out⟩, ⟨by repeat (first | (with_reducible first | exact HB.out | apply below_alloc | apply pw_below_drewN | apply below_drew1) | exact HB.out)⟩⟩
      case rest =>
       clear HC10
       try clear c1
       try clear p1
       try clear q1
       try clear hx1
       try clear p2
       try clear c4
       try clear c5
       try clear c7
       try clear c7b0
       try clear c7b1
       try clear c8
       try clear c9
       try clear c9b0
       try clear c11
       try clear c11b0
       try clear c12
       try clear c12b0
       try clear c12b1
       try clear p12
       try clear q12
       try clear hx12
       try clear hx129_0
       try clear hx130_0
       try clear p129
       try clear p130
       try clear p2
       try clear q129
       try clear q130
       obtain ⟨kq, x39_9, rfl, HA, HJ9, HO_5, HB⟩ := hcut
       cases kq with
       | zero => exact absurd HA.out (by simp [gazetteerlaw5_SpanCuts.j2])
       | succ kj9 =>
        have H := HA.out
        clear HA
        simp only [gazetteerlaw5_SpanCuts.j2] at H
        by_cases c13 : x39_9 = true
        ·
         subst c13
         have H1 : (some true) = some r := by rw [if_pos rfl] at H; exact H
         clear H
         have H := H1
         clear H1
         obtain rfl := Option.some.inj H
         go_wp2
         go_ret
         exact ⟨by first | rfl | (simp [errW_none, errW_some] <;> rfl) | (simp [*, errW_none, errW_some] <;> rfl), by repeat (first | (with_reducible first | exact HB.out | apply below_alloc | apply pw_below_drewN | apply below_drew1) | exact HB.out)⟩
        replace c13 := Bool.eq_false_iff.mpr c13
        subst c13
        have H1 : (gazetteerlaw5_SpanCuts.l1 kj9 l0 a1 x5_2 x6_2 0) = some r := by rw [if_neg (show ¬ (false = true) by decide)] at H; exact H
        clear H
        have H := H1
        clear H1
        have H' := Aside0.mk H
        clear H
        go_wp2
        go_loopg [7] kj9 (fun kq v7 w' => ∃ (x7_4 : Int), v7 = .int .i64 x7_4 ∧ Aside0 (gazetteerlaw5_SpanCuts.l1 kq l0 a1 x5_2 x6_2 x7_4 = some r) ∧ Aside0 (kq ≤ kj9) ∧ Aside0 (Kd.R Kd.string 9 w' w.heap.size (fun _ => True) u5 x5_2) ∧ Aside0 (Below w.heap.size w w'))
        case atStart => exact ⟨(0), (by first | rfl | (simp; done) | (simp [*]; done)), H', ⟨Nat.le_refl _⟩, ⟨by (with_reducible repeat (first | apply Kd.R_alloc | apply Kd.R_drewN | apply Kd.R_drew)); exact HO_5.out⟩, ⟨by repeat (first | (with_reducible first | exact HB.out | apply below_alloc | apply pw_below_drewN | apply below_drew1) | exact HB.out)⟩⟩
        case round =>
         clear H'
         try clear c1
         try clear p1
         try clear q1
         try clear hx1
         try clear p2
         try clear c4
         try clear c5
         try clear c7
         try clear c7b0
         try clear c7b1
         try clear c8
         try clear c9
         try clear c9b0
         try clear c11
         try clear c11b0
         try clear c12
         try clear c12b0
         try clear c12b1
         try clear p12
         try clear q12
         try clear hx12
         try clear c13
         try clear p13
         try clear q13
         try clear hx13
         try clear hx129_0
         try clear hx130_0
         try clear p1
         try clear p12
         try clear p129
         try clear p130
         try clear p2
         try clear q1
         try clear q12
         try clear q129
         try clear q130
         obtain ⟨x7_4, rfl, HA, HK4, HO_5, HB⟩ := hrel
         cases gk with
         | zero => exact absurd HA.out (by simp [gazetteerlaw5_SpanCuts.l1])
         | succ k4 =>
          have H := HA.out
          clear HA
          simp only [gazetteerlaw5_SpanCuts.l1] at H
          by_cases c14 : x7_4 < (x5_2.length : Int)
          · have H := ipos c14 H
            by_cases c15 : 0 ≤ x7_4
            case neg => have H := ineg c15 H; cases H
            replace H := ipos c15 H
            by_cases c16 : 0 ≤ x6_2
            case neg => have H := ineg c16 H; cases H
            replace H := ipos c16 H
            by_cases c17 : x6_2 < (l0.length : Int)
            case neg => have H := ineg c17 H; cases H
            replace H := ipos c17 H
            obtain ⟨s1, hs1⟩ : ∃ s, s = rdOf ByteArray.empty x5_2 x7_4 := ⟨_, rfl⟩
            obtain ⟨s2, hs2⟩ : ∃ s, s = rdOf ByteArray.empty l0 x6_2 := ⟨_, rfl⟩
            rw [← hs1, ← hs2] at H
            obtain ⟨A5, c5, e5, hcap5, _⟩ := Kd.R_reads HO_5.out
            subst e5
            obtain ⟨ad5, q5, hx5⟩ := Kd.at_string (Kd.R_reads' HO_5.out).2.2 x7_4 c15 c14
            subst q5
            obtain ⟨ad0, q0, hx0⟩ := Kd.at_string HR0.out x6_2 c16 c17
            cases q0
            have hx0 := cell_keep HB.out hx0
            rw [← hs1] at hx5
            have C5 := Aside0.mk hx5
            clear hx5
            rw [← hs2] at hx0
            have C0 := Aside0.mk hx0
            have HO5 := HO_5
            have HCAP := Aside0.mk hcap5
            have HBS : Aside0 (w.heap.size ≤ wr.heap.size) := ⟨HB.out.size⟩
            clear hx0 hcap5
            clear hs1 hs2
            by_cases c18 : Op.bytesLess s1.toList s2.toList = true
            · have H' := Aside0.mk (ipos c18 H)
              clear H
              have r7 : (x7_4 < (x5_2.length : Int)) = True := eq_true c14
              have r15 : ((0 : Int) ≤ x7_4) = True := eq_true c15
              have r16 : ((0 : Int) ≤ x6_2) = True := eq_true c16
              have r17 : (x6_2 < (l0.length : Int)) = True := eq_true c17
              go_wp2_with fail
              refine wp_region_steps 15 rfl rfl (by kernel_rfl) (fun LL a wx => ∃ ua : Nat → Value, Aside0 (a = { tmps := List.toArray (.slice (some ad0) l0.length c0 :: .string a1 :: undef :: undef :: u4 :: .slice (some ad5) x5_2.length c5 :: .int .i64 x6_2 :: .int .i64 x7_4 :: undef :: undef :: undef :: u11 :: u12 :: u13 :: u14 :: u15 :: u16 :: u17 :: u18 :: u19 :: .bool false :: u21 :: u22 :: u23 :: u24 :: u25 :: u26 :: u27 :: u28 :: u29 :: u30 :: u31 :: u32 :: u33 :: u34 :: u35 :: u36 :: u37 :: u38 :: .bool false :: ua 40 :: ua 41 :: ua 42 :: ua 43 :: ua 44 :: ua 45 :: ua 46 :: ua 47 :: ua 48 :: ua 49 :: ua 50 :: ua 51 :: ua 52 :: ua 53 :: ua 54 :: u55 :: u56 :: u57 :: u58 :: u59 :: u60 :: u61 :: u62 :: u63 :: u64 :: u65 :: u66 :: u67 :: u68 :: u69 :: u70 :: u71 :: u72 :: u73 :: u74 :: u75 :: u76 :: u77 :: u78 :: u79 :: u80 :: u81 :: u82 :: u83 :: u84 :: u85 :: u86 :: u87 :: u88 :: u89 :: u90 :: u91 :: u92 :: u93 :: u94 :: u95 :: u96 :: u97 :: u98 :: u99 :: u100 :: u101 :: u102 :: u103 :: u104 :: u105 :: u106 :: u107 :: u108 :: u109 :: u110 :: u111 :: u112 :: u113 :: u114 :: u115 :: u116 :: u117 :: u118 :: u119 :: u120 :: u121 :: u122 :: u123 :: u124 :: u125 :: u126 :: u127 :: u128 :: u129 :: u130 :: u131 :: u132 :: u133 :: u134 :: u135 :: u136 :: u137 :: u138 :: u139 :: u140 :: u141 :: u142 :: u143 :: []), defers := [] } ∧ Tab LL ua [(0, 40, .int .i64 x7_4), (1, 41, .slice (some ad5) x5_2.length c5), (2, 42, .int .i64 (x5_2.length : Int)), (3, 43, .bool true), (4, 44, .bool true), (5, 45, .slice (some ad5) x5_2.length c5), (6, 46, .int .i64 x7_4), (7, 47, .pointer (some (ad5.add (x7_4).toNat))), (8, 48, .string s1), (9, 49, .slice (some ad0) l0.length c0), (10, 50, .int .i64 x6_2), (11, 51, .pointer (some (ad0.add (x6_2).toNat))), (12, 52, .string s2), (13, 53, .bool true), (14, 54, .bool true)] ∧ Aside0 (Below wr.heap.size wr wx))) ?_ ?_ ?_
              · exact ⟨(put1 (put1 (put1 (put1 (put1 (put1 (put1 (put1 (put1 (put1 (put1 (put1 (put1 (put1 (put1 (fun _ => undef) 40 (u40)) 41 (u41)) 42 (u42)) 43 (u43)) 44 (u44)) 45 (u45)) 46 (u46)) 47 (u47)) 48 (u48)) 49 (u49)) 50 (u50)) 51 (u51)) 52 (u52)) 53 (u53)) 54 (u54)), ⟨rfl, Tab.start 15 rfl rfl, ⟨below_drew (Below.refl _ _)⟩⟩⟩
              · refine Steps.cons ?_ (Steps.cons ?_ (Steps.cons ?_ (Steps.cons ?_ (Steps.cons ?_ (Steps.cons ?_ (Steps.cons ?_ (Steps.cons ?_ (Steps.cons ?_ (Steps.cons ?_ (Steps.cons ?_ (Steps.cons ?_ (Steps.cons ?_ (Steps.cons ?_ (Steps.cons ?_ (Steps.nil)))))))))))))))
                · intro LL a wx hI hLk hd K' hK
                  obtain ⟨ua, hI⟩ := hI
                  obtain rfl := hI.out.1
                  rw [if_pos (by rfl)]
                  go_simp
                  exact hK.out _ _ ⟨(put1 ua 40 (.int .i64 x7_4)), ⟨rfl, hI.out.2.1.upd 0 rfl rfl rfl rfl, hI.out.2.2⟩⟩
                · intro LL a wx hI hLk hd K' hK
                  obtain ⟨ua, hI⟩ := hI
                  obtain rfl := hI.out.1
                  rw [if_pos (by rfl)]
                  go_simp
                  exact hK.out _ _ ⟨(put1 ua 41 (.slice (some ad5) x5_2.length c5)), ⟨rfl, hI.out.2.1.upd 1 rfl rfl rfl rfl, hI.out.2.2⟩⟩
                · intro LL a wx hI hLk hd K' hK
                  obtain ⟨ua, hI⟩ := hI
                  obtain rfl := hI.out.1
                  have e1 := hI.out.2.1.at 1 rfl (hd 1 rfl)
                  rw [if_pos (by rfl)]
                  go_simp
                  exact hK.out _ _ ⟨(put1 (put1 ua 41 (.slice (some ad5) x5_2.length c5)) 42 (.int .i64 (x5_2.length : Int))), ⟨rfl, (hI.out.2.1.same (s := 41) (v := .slice (some ad5) x5_2.length c5) e1).upd 2 rfl rfl rfl rfl, hI.out.2.2⟩⟩
                · intro LL a wx hI hLk hd K' hK
                  obtain ⟨ua, hI⟩ := hI
                  obtain rfl := hI.out.1
                  have e0 := hI.out.2.1.at 0 rfl (hd 0 rfl)
                  have e2 := hI.out.2.1.at 2 rfl (hd 2 rfl)
                  rw [if_pos (by rfl)]
                  go_simp
                  exact hK.out _ _ ⟨(put1 (put1 (put1 ua 40 (.int .i64 x7_4)) 42 (.int .i64 (x5_2.length : Int))) 43 (.bool true)), ⟨rfl, ((hI.out.2.1.same (s := 40) (v := .int .i64 x7_4) e0).same (s := 42) (v := .int .i64 (x5_2.length : Int)) e2).upd 3 rfl rfl rfl rfl, hI.out.2.2⟩⟩
                · intro LL a wx hI hLk hd K' hK
                  obtain ⟨ua, hI⟩ := hI
                  obtain rfl := hI.out.1
                  have e3 := hI.out.2.1.at 3 rfl (hd 3 rfl)
                  rw [if_pos (by rfl)]
                  go_simp
                  exact hK.out _ _ ⟨(put1 (put1 ua 43 (.bool true)) 44 (.bool true)), ⟨rfl, (hI.out.2.1.same (s := 43) (v := .bool true) e3).upd 4 rfl rfl rfl rfl, hI.out.2.2⟩⟩
                · intro LL a wx hI hLk hd K' hK
                  obtain ⟨ua, hI⟩ := hI
                  obtain rfl := hI.out.1
                  have eg := hI.out.2.1.at 4 rfl (hd 4 rfl)
                  rw [eg]
                  rw [if_pos (by rfl)]
                  go_simp
                  exact hK.out _ _ ⟨(put1 (put1 ua 44 (.bool true)) 45 (.slice (some ad5) x5_2.length c5)), ⟨rfl, (hI.out.2.1.same (s := 44) (v := .bool true) eg).upd 5 rfl rfl rfl rfl, hI.out.2.2⟩⟩
                · intro LL a wx hI hLk hd K' hK
                  obtain ⟨ua, hI⟩ := hI
                  obtain rfl := hI.out.1
                  have eg := hI.out.2.1.at 4 rfl (hd 4 rfl)
                  rw [eg]
                  rw [if_pos (by rfl)]
                  go_simp
                  exact hK.out _ _ ⟨(put1 (put1 ua 44 (.bool true)) 46 (.int .i64 x7_4)), ⟨rfl, (hI.out.2.1.same (s := 44) (v := .bool true) eg).upd 6 rfl rfl rfl rfl, hI.out.2.2⟩⟩
                · intro LL a wx hI hLk hd K' hK
                  obtain ⟨ua, hI⟩ := hI
                  obtain rfl := hI.out.1
                  have e5 := hI.out.2.1.at 5 rfl (hd 5 rfl)
                  have e6 := hI.out.2.1.at 6 rfl (hd 6 rfl)
                  have eg := hI.out.2.1.at 4 rfl (hd 4 rfl)
                  rw [eg]
                  rw [if_pos (by rfl)]
                  go_simp
                  exact hK.out _ _ ⟨(put1 (put1 (put1 (put1 ua 45 (.slice (some ad5) x5_2.length c5)) 46 (.int .i64 x7_4)) 44 (.bool true)) 47 (.pointer (some (ad5.add (x7_4).toNat)))), ⟨rfl, (((hI.out.2.1.same (s := 45) (v := .slice (some ad5) x5_2.length c5) e5).same (s := 46) (v := .int .i64 x7_4) e6).same (s := 44) (v := .bool true) eg).upd 7 rfl rfl rfl rfl, hI.out.2.2⟩⟩
                · intro LL a wx hI hLk hd K' hK
                  obtain ⟨ua, hI⟩ := hI
                  obtain rfl := hI.out.1
                  have e7 := hI.out.2.1.at 7 rfl (hd 7 rfl)
                  have hb := hI.out.2.2
                  have h5 := cell_keep hb.out C5.out
                  have eg := hI.out.2.1.at 4 rfl (hd 4 rfl)
                  rw [eg]
                  rw [if_pos (by rfl)]
                  go_simp
                  exact hK.out _ _ ⟨(put1 (put1 (put1 ua 47 (.pointer (some (ad5.add (x7_4).toNat)))) 44 (.bool true)) 48 (.string s1)), ⟨rfl, ((hI.out.2.1.same (s := 47) (v := .pointer (some (ad5.add (x7_4).toNat))) e7).same (s := 44) (v := .bool true) eg).upd 8 rfl rfl rfl rfl, hI.out.2.2⟩⟩
                · intro LL a wx hI hLk hd K' hK
                  obtain ⟨ua, hI⟩ := hI
                  obtain rfl := hI.out.1
                  have eg := hI.out.2.1.at 4 rfl (hd 4 rfl)
                  rw [eg]
                  rw [if_pos (by rfl)]
                  go_simp
                  exact hK.out _ _ ⟨(put1 (put1 ua 44 (.bool true)) 49 (.slice (some ad0) l0.length c0)), ⟨rfl, (hI.out.2.1.same (s := 44) (v := .bool true) eg).upd 9 rfl rfl rfl rfl, hI.out.2.2⟩⟩
                · intro LL a wx hI hLk hd K' hK
                  obtain ⟨ua, hI⟩ := hI
                  obtain rfl := hI.out.1
                  have eg := hI.out.2.1.at 4 rfl (hd 4 rfl)
                  rw [eg]
                  rw [if_pos (by rfl)]
                  go_simp
                  exact hK.out _ _ ⟨(put1 (put1 ua 44 (.bool true)) 50 (.int .i64 x6_2)), ⟨rfl, (hI.out.2.1.same (s := 44) (v := .bool true) eg).upd 10 rfl rfl rfl rfl, hI.out.2.2⟩⟩
                · intro LL a wx hI hLk hd K' hK
                  obtain ⟨ua, hI⟩ := hI
                  obtain rfl := hI.out.1
                  have e9 := hI.out.2.1.at 9 rfl (hd 9 rfl)
                  have e10 := hI.out.2.1.at 10 rfl (hd 10 rfl)
                  have eg := hI.out.2.1.at 4 rfl (hd 4 rfl)
                  rw [eg]
                  rw [if_pos (by rfl)]
                  go_simp
                  exact hK.out _ _ ⟨(put1 (put1 (put1 (put1 ua 49 (.slice (some ad0) l0.length c0)) 50 (.int .i64 x6_2)) 44 (.bool true)) 51 (.pointer (some (ad0.add (x6_2).toNat)))), ⟨rfl, (((hI.out.2.1.same (s := 49) (v := .slice (some ad0) l0.length c0) e9).same (s := 50) (v := .int .i64 x6_2) e10).same (s := 44) (v := .bool true) eg).upd 11 rfl rfl rfl rfl, hI.out.2.2⟩⟩
                · intro LL a wx hI hLk hd K' hK
                  obtain ⟨ua, hI⟩ := hI
                  obtain rfl := hI.out.1
                  have e11 := hI.out.2.1.at 11 rfl (hd 11 rfl)
                  have hb := hI.out.2.2
                  have h0 := cell_keep hb.out C0.out
                  have eg := hI.out.2.1.at 4 rfl (hd 4 rfl)
                  rw [eg]
                  rw [if_pos (by rfl)]
                  go_simp
                  exact hK.out _ _ ⟨(put1 (put1 (put1 ua 51 (.pointer (some (ad0.add (x6_2).toNat)))) 44 (.bool true)) 52 (.string s2)), ⟨rfl, ((hI.out.2.1.same (s := 51) (v := .pointer (some (ad0.add (x6_2).toNat))) e11).same (s := 44) (v := .bool true) eg).upd 12 rfl rfl rfl rfl, hI.out.2.2⟩⟩
                · intro LL a wx hI hLk hd K' hK
                  obtain ⟨ua, hI⟩ := hI
                  obtain rfl := hI.out.1
                  have e8 := hI.out.2.1.at 8 rfl (hd 8 rfl)
                  have e12 := hI.out.2.1.at 12 rfl (hd 12 rfl)
                  have eg := hI.out.2.1.at 4 rfl (hd 4 rfl)
                  rw [eg]
                  rw [if_pos (by rfl)]
                  go_simp
                  exact hK.out _ _ ⟨(put1 (put1 (put1 (put1 ua 48 (.string s1)) 52 (.string s2)) 44 (.bool true)) 53 (.bool true)), ⟨rfl, (((hI.out.2.1.same (s := 48) (v := .string s1) e8).same (s := 52) (v := .string s2) e12).same (s := 44) (v := .bool true) eg).upd 13 rfl rfl rfl rfl, hI.out.2.2⟩⟩
                · intro LL a wx hI hLk hd K' hK
                  obtain ⟨ua, hI⟩ := hI
                  obtain rfl := hI.out.1
                  have e4 := hI.out.2.1.at 4 rfl (hd 4 rfl)
                  have e13 := hI.out.2.1.at 13 rfl (hd 13 rfl)
                  rw [if_pos (by rfl)]
                  go_simp
                  exact hK.out _ _ ⟨(put1 (put1 (put1 ua 44 (.bool true)) 53 (.bool true)) 54 (.bool true)), ⟨rfl, ((hI.out.2.1.same (s := 44) (v := .bool true) e4).same (s := 53) (v := .bool true) e13).upd 14 rfl rfl rfl rfl, hI.out.2.2⟩⟩
              · intro LL a wa hall hI
                obtain ⟨ua, hI⟩ := hI
                obtain rfl := hI.out.1
                have hb := hI.out.2.2
                have e14 := hI.out.2.1.at 14 rfl (hall 14 (by decide))
                rw [e14]
                have HBw_ua := Aside0.mk hb.out
                clear hI hb e14
                go_wp2
                go_roundg k4
                case measure => have := HJ4.out; have := HK2.out; have := HJ9.out; have := HK4.out; omega
                case rel => exact ⟨(wrap64 (x7_4 + 1)), (by first | rfl | (simp; done) | (simp [*]; done)), H', ⟨by have := HJ4.out; have := HK2.out; have := HJ9.out; have := HK4.out; omega⟩, ⟨Kd.R_below HO_5.out HBw_ua.out⟩, ⟨below_step (HB.out) HBw_ua.out⟩⟩
            replace H := ineg c18 H
            have r18 : Op.bytesLess s1.toList s2.toList = false := by simpa using c18
            by_cases c21 : s1.toList = s2.toList
            · have H' := Aside0.mk (ipos c21 H)
              clear H
              have r21 : (s1.toList == s2.toList) = true := beq_iff_eq.mpr c21
              clear c21
              have r7 : (x7_4 < (x5_2.length : Int)) = True := eq_true c14
              have r15 : ((0 : Int) ≤ x7_4) = True := eq_true c15
              have r16 : ((0 : Int) ≤ x6_2) = True := eq_true c16
              have r17 : (x6_2 < (l0.length : Int)) = True := eq_true c17
              go_wp2_with fail
              refine wp_region_steps 15 rfl rfl (by kernel_rfl) (fun LL a wx => ∃ ua : Nat → Value, Aside0 (a = { tmps := List.toArray (.slice (some ad0) l0.length c0 :: .string a1 :: undef :: undef :: u4 :: .slice (some ad5) x5_2.length c5 :: .int .i64 x6_2 :: .int .i64 x7_4 :: undef :: undef :: undef :: u11 :: u12 :: u13 :: u14 :: u15 :: u16 :: u17 :: u18 :: u19 :: .bool false :: u21 :: u22 :: u23 :: u24 :: u25 :: u26 :: u27 :: u28 :: u29 :: u30 :: u31 :: u32 :: u33 :: u34 :: u35 :: u36 :: u37 :: u38 :: .bool false :: ua 40 :: ua 41 :: ua 42 :: ua 43 :: ua 44 :: ua 45 :: ua 46 :: ua 47 :: ua 48 :: ua 49 :: ua 50 :: ua 51 :: ua 52 :: ua 53 :: ua 54 :: u55 :: u56 :: u57 :: u58 :: u59 :: u60 :: u61 :: u62 :: u63 :: u64 :: u65 :: u66 :: u67 :: u68 :: u69 :: u70 :: u71 :: u72 :: u73 :: u74 :: u75 :: u76 :: u77 :: u78 :: u79 :: u80 :: u81 :: u82 :: u83 :: u84 :: u85 :: u86 :: u87 :: u88 :: u89 :: u90 :: u91 :: u92 :: u93 :: u94 :: u95 :: u96 :: u97 :: u98 :: u99 :: u100 :: u101 :: u102 :: u103 :: u104 :: u105 :: u106 :: u107 :: u108 :: u109 :: u110 :: u111 :: u112 :: u113 :: u114 :: u115 :: u116 :: u117 :: u118 :: u119 :: u120 :: u121 :: u122 :: u123 :: u124 :: u125 :: u126 :: u127 :: u128 :: u129 :: u130 :: u131 :: u132 :: u133 :: u134 :: u135 :: u136 :: u137 :: u138 :: u139 :: u140 :: u141 :: u142 :: u143 :: []), defers := [] } ∧ Tab LL ua [(0, 40, .int .i64 x7_4), (1, 41, .slice (some ad5) x5_2.length c5), (2, 42, .int .i64 (x5_2.length : Int)), (3, 43, .bool true), (4, 44, .bool true), (5, 45, .slice (some ad5) x5_2.length c5), (6, 46, .int .i64 x7_4), (7, 47, .pointer (some (ad5.add (x7_4).toNat))), (8, 48, .string s1), (9, 49, .slice (some ad0) l0.length c0), (10, 50, .int .i64 x6_2), (11, 51, .pointer (some (ad0.add (x6_2).toNat))), (12, 52, .string s2), (13, 53, .bool false), (14, 54, .bool false)] ∧ Aside0 (Below wr.heap.size wr wx))) ?_ ?_ ?_
              · exact ⟨(put1 (put1 (put1 (put1 (put1 (put1 (put1 (put1 (put1 (put1 (put1 (put1 (put1 (put1 (put1 (fun _ => undef) 40 (u40)) 41 (u41)) 42 (u42)) 43 (u43)) 44 (u44)) 45 (u45)) 46 (u46)) 47 (u47)) 48 (u48)) 49 (u49)) 50 (u50)) 51 (u51)) 52 (u52)) 53 (u53)) 54 (u54)), ⟨rfl, Tab.start 15 rfl rfl, ⟨below_drew (Below.refl _ _)⟩⟩⟩
              · refine Steps.cons ?_ (Steps.cons ?_ (Steps.cons ?_ (Steps.cons ?_ (Steps.cons ?_ (Steps.cons ?_ (Steps.cons ?_ (Steps.cons ?_ (Steps.cons ?_ (Steps.cons ?_ (Steps.cons ?_ (Steps.cons ?_ (Steps.cons ?_ (Steps.cons ?_ (Steps.cons ?_ (Steps.nil)))))))))))))))
                · intro LL a wx hI hLk hd K' hK
                  obtain ⟨ua, hI⟩ := hI
                  obtain rfl := hI.out.1
                  rw [if_pos (by rfl)]
                  go_simp
                  exact hK.out _ _ ⟨(put1 ua 40 (.int .i64 x7_4)), ⟨rfl, hI.out.2.1.upd 0 rfl rfl rfl rfl, hI.out.2.2⟩⟩
                · intro LL a wx hI hLk hd K' hK
                  obtain ⟨ua, hI⟩ := hI
                  obtain rfl := hI.out.1
                  rw [if_pos (by rfl)]
                  go_simp
                  exact hK.out _ _ ⟨(put1 ua 41 (.slice (some ad5) x5_2.length c5)), ⟨rfl, hI.out.2.1.upd 1 rfl rfl rfl rfl, hI.out.2.2⟩⟩
                · intro LL a wx hI hLk hd K' hK
                  obtain ⟨ua, hI⟩ := hI
                  obtain rfl := hI.out.1
                  have e1 := hI.out.2.1.at 1 rfl (hd 1 rfl)
                  rw [if_pos (by rfl)]
                  go_simp
                  exact hK.out _ _ ⟨(put1 (put1 ua 41 (.slice (some ad5) x5_2.length c5)) 42 (.int .i64 (x5_2.length : Int))), ⟨rfl, (hI.out.2.1.same (s := 41) (v := .slice (some ad5) x5_2.length c5) e1).upd 2 rfl rfl rfl rfl, hI.out.2.2⟩⟩
                · intro LL a wx hI hLk hd K' hK
                  obtain ⟨ua, hI⟩ := hI
                  obtain rfl := hI.out.1
                  have e0 := hI.out.2.1.at 0 rfl (hd 0 rfl)
                  have e2 := hI.out.2.1.at 2 rfl (hd 2 rfl)
                  rw [if_pos (by rfl)]
                  go_simp
                  exact hK.out _ _ ⟨(put1 (put1 (put1 ua 40 (.int .i64 x7_4)) 42 (.int .i64 (x5_2.length : Int))) 43 (.bool true)), ⟨rfl, ((hI.out.2.1.same (s := 40) (v := .int .i64 x7_4) e0).same (s := 42) (v := .int .i64 (x5_2.length : Int)) e2).upd 3 rfl rfl rfl rfl, hI.out.2.2⟩⟩
                · intro LL a wx hI hLk hd K' hK
                  obtain ⟨ua, hI⟩ := hI
                  obtain rfl := hI.out.1
                  have e3 := hI.out.2.1.at 3 rfl (hd 3 rfl)
                  rw [if_pos (by rfl)]
                  go_simp
                  exact hK.out _ _ ⟨(put1 (put1 ua 43 (.bool true)) 44 (.bool true)), ⟨rfl, (hI.out.2.1.same (s := 43) (v := .bool true) e3).upd 4 rfl rfl rfl rfl, hI.out.2.2⟩⟩
                · intro LL a wx hI hLk hd K' hK
                  obtain ⟨ua, hI⟩ := hI
                  obtain rfl := hI.out.1
                  have eg := hI.out.2.1.at 4 rfl (hd 4 rfl)
                  rw [eg]
                  rw [if_pos (by rfl)]
                  go_simp
                  exact hK.out _ _ ⟨(put1 (put1 ua 44 (.bool true)) 45 (.slice (some ad5) x5_2.length c5)), ⟨rfl, (hI.out.2.1.same (s := 44) (v := .bool true) eg).upd 5 rfl rfl rfl rfl, hI.out.2.2⟩⟩
                · intro LL a wx hI hLk hd K' hK
                  obtain ⟨ua, hI⟩ := hI
                  obtain rfl := hI.out.1
                  have eg := hI.out.2.1.at 4 rfl (hd 4 rfl)
                  rw [eg]
                  rw [if_pos (by rfl)]
                  go_simp
                  exact hK.out _ _ ⟨(put1 (put1 ua 44 (.bool true)) 46 (.int .i64 x7_4)), ⟨rfl, (hI.out.2.1.same (s := 44) (v := .bool true) eg).upd 6 rfl rfl rfl rfl, hI.out.2.2⟩⟩
                · intro LL a wx hI hLk hd K' hK
                  obtain ⟨ua, hI⟩ := hI
                  obtain rfl := hI.out.1
                  have e5 := hI.out.2.1.at 5 rfl (hd 5 rfl)
                  have e6 := hI.out.2.1.at 6 rfl (hd 6 rfl)
                  have eg := hI.out.2.1.at 4 rfl (hd 4 rfl)
                  rw [eg]
                  rw [if_pos (by rfl)]
                  go_simp
                  exact hK.out _ _ ⟨(put1 (put1 (put1 (put1 ua 45 (.slice (some ad5) x5_2.length c5)) 46 (.int .i64 x7_4)) 44 (.bool true)) 47 (.pointer (some (ad5.add (x7_4).toNat)))), ⟨rfl, (((hI.out.2.1.same (s := 45) (v := .slice (some ad5) x5_2.length c5) e5).same (s := 46) (v := .int .i64 x7_4) e6).same (s := 44) (v := .bool true) eg).upd 7 rfl rfl rfl rfl, hI.out.2.2⟩⟩
                · intro LL a wx hI hLk hd K' hK
                  obtain ⟨ua, hI⟩ := hI
                  obtain rfl := hI.out.1
                  have e7 := hI.out.2.1.at 7 rfl (hd 7 rfl)
                  have hb := hI.out.2.2
                  have h5 := cell_keep hb.out C5.out
                  have eg := hI.out.2.1.at 4 rfl (hd 4 rfl)
                  rw [eg]
                  rw [if_pos (by rfl)]
                  go_simp
                  exact hK.out _ _ ⟨(put1 (put1 (put1 ua 47 (.pointer (some (ad5.add (x7_4).toNat)))) 44 (.bool true)) 48 (.string s1)), ⟨rfl, ((hI.out.2.1.same (s := 47) (v := .pointer (some (ad5.add (x7_4).toNat))) e7).same (s := 44) (v := .bool true) eg).upd 8 rfl rfl rfl rfl, hI.out.2.2⟩⟩
                · intro LL a wx hI hLk hd K' hK
                  obtain ⟨ua, hI⟩ := hI
                  obtain rfl := hI.out.1
                  have eg := hI.out.2.1.at 4 rfl (hd 4 rfl)
                  rw [eg]
                  rw [if_pos (by rfl)]
                  go_simp
                  exact hK.out _ _ ⟨(put1 (put1 ua 44 (.bool true)) 49 (.slice (some ad0) l0.length c0)), ⟨rfl, (hI.out.2.1.same (s := 44) (v := .bool true) eg).upd 9 rfl rfl rfl rfl, hI.out.2.2⟩⟩
                · intro LL a wx hI hLk hd K' hK
                  obtain ⟨ua, hI⟩ := hI
                  obtain rfl := hI.out.1
                  have eg := hI.out.2.1.at 4 rfl (hd 4 rfl)
                  rw [eg]
                  rw [if_pos (by rfl)]
                  go_simp
                  exact hK.out _ _ ⟨(put1 (put1 ua 44 (.bool true)) 50 (.int .i64 x6_2)), ⟨rfl, (hI.out.2.1.same (s := 44) (v := .bool true) eg).upd 10 rfl rfl rfl rfl, hI.out.2.2⟩⟩
                · intro LL a wx hI hLk hd K' hK
                  obtain ⟨ua, hI⟩ := hI
                  obtain rfl := hI.out.1
                  have e9 := hI.out.2.1.at 9 rfl (hd 9 rfl)
                  have e10 := hI.out.2.1.at 10 rfl (hd 10 rfl)
                  have eg := hI.out.2.1.at 4 rfl (hd 4 rfl)
                  rw [eg]
                  rw [if_pos (by rfl)]
                  go_simp
                  exact hK.out _ _ ⟨(put1 (put1 (put1 (put1 ua 49 (.slice (some ad0) l0.length c0)) 50 (.int .i64 x6_2)) 44 (.bool true)) 51 (.pointer (some (ad0.add (x6_2).toNat)))), ⟨rfl, (((hI.out.2.1.same (s := 49) (v := .slice (some ad0) l0.length c0) e9).same (s := 50) (v := .int .i64 x6_2) e10).same (s := 44) (v := .bool true) eg).upd 11 rfl rfl rfl rfl, hI.out.2.2⟩⟩
                · intro LL a wx hI hLk hd K' hK
                  obtain ⟨ua, hI⟩ := hI
                  obtain rfl := hI.out.1
                  have e11 := hI.out.2.1.at 11 rfl (hd 11 rfl)
                  have hb := hI.out.2.2
                  have h0 := cell_keep hb.out C0.out
                  have eg := hI.out.2.1.at 4 rfl (hd 4 rfl)
                  rw [eg]
                  rw [if_pos (by rfl)]
                  go_simp
                  exact hK.out _ _ ⟨(put1 (put1 (put1 ua 51 (.pointer (some (ad0.add (x6_2).toNat)))) 44 (.bool true)) 52 (.string s2)), ⟨rfl, ((hI.out.2.1.same (s := 51) (v := .pointer (some (ad0.add (x6_2).toNat))) e11).same (s := 44) (v := .bool true) eg).upd 12 rfl rfl rfl rfl, hI.out.2.2⟩⟩
                · intro LL a wx hI hLk hd K' hK
                  obtain ⟨ua, hI⟩ := hI
                  obtain rfl := hI.out.1
                  have e8 := hI.out.2.1.at 8 rfl (hd 8 rfl)
                  have e12 := hI.out.2.1.at 12 rfl (hd 12 rfl)
                  have eg := hI.out.2.1.at 4 rfl (hd 4 rfl)
                  rw [eg]
                  rw [if_pos (by rfl)]
                  go_simp
                  exact hK.out _ _ ⟨(put1 (put1 (put1 (put1 ua 48 (.string s1)) 52 (.string s2)) 44 (.bool true)) 53 (.bool false)), ⟨rfl, (((hI.out.2.1.same (s := 48) (v := .string s1) e8).same (s := 52) (v := .string s2) e12).same (s := 44) (v := .bool true) eg).upd 13 rfl rfl rfl rfl, hI.out.2.2⟩⟩
                · intro LL a wx hI hLk hd K' hK
                  obtain ⟨ua, hI⟩ := hI
                  obtain rfl := hI.out.1
                  have e4 := hI.out.2.1.at 4 rfl (hd 4 rfl)
                  have e13 := hI.out.2.1.at 13 rfl (hd 13 rfl)
                  rw [if_pos (by rfl)]
                  go_simp
                  exact hK.out _ _ ⟨(put1 (put1 (put1 ua 44 (.bool true)) 53 (.bool false)) 54 (.bool false)), ⟨rfl, ((hI.out.2.1.same (s := 44) (v := .bool true) e4).same (s := 53) (v := .bool false) e13).upd 14 rfl rfl rfl rfl, hI.out.2.2⟩⟩
              · intro LL a wa hall hI
                obtain ⟨ua, hI⟩ := hI
                obtain rfl := hI.out.1
                have hb := hI.out.2.2
                have e14 := hI.out.2.1.at 14 rfl (hall 14 (by decide))
                rw [e14]
                have HBw_ua := Aside0.mk hb.out
                clear hI hb e14
                go_wp2_with fail
                have C5 := Aside0.mk (cell_keep HBw_ua.out C5.out)
                have C0 := Aside0.mk (cell_keep HBw_ua.out C0.out)
                refine wp_region_steps 15 rfl rfl (by kernel_rfl) (fun LL a wx => ∃ ub : Nat → Value, Aside0 (a = { tmps := List.toArray (.slice (some ad0) l0.length c0 :: .string a1 :: undef :: undef :: u4 :: .slice (some ad5) x5_2.length c5 :: .int .i64 x6_2 :: .int .i64 x7_4 :: undef :: undef :: undef :: u11 :: u12 :: u13 :: u14 :: u15 :: u16 :: u17 :: u18 :: u19 :: .bool false :: u21 :: u22 :: u23 :: u24 :: u25 :: u26 :: u27 :: u28 :: u29 :: u30 :: u31 :: u32 :: u33 :: u34 :: u35 :: u36 :: u37 :: u38 :: .bool false :: ua 40 :: ua 41 :: ua 42 :: ua 43 :: ua 44 :: ua 45 :: ua 46 :: ua 47 :: ua 48 :: ua 49 :: ua 50 :: ua 51 :: ua 52 :: ua 53 :: .bool false :: u55 :: u56 :: ub 57 :: ub 58 :: ub 59 :: ub 60 :: ub 61 :: ub 62 :: ub 63 :: ub 64 :: ub 65 :: ub 66 :: ub 67 :: ub 68 :: ub 69 :: ub 70 :: ub 71 :: u72 :: u73 :: u74 :: u75 :: u76 :: u77 :: u78 :: u79 :: u80 :: u81 :: u82 :: u83 :: u84 :: u85 :: u86 :: u87 :: u88 :: u89 :: u90 :: u91 :: u92 :: u93 :: u94 :: u95 :: u96 :: u97 :: u98 :: u99 :: u100 :: u101 :: u102 :: u103 :: u104 :: u105 :: u106 :: u107 :: u108 :: u109 :: u110 :: u111 :: u112 :: u113 :: u114 :: u115 :: u116 :: u117 :: u118 :: u119 :: u120 :: u121 :: u122 :: u123 :: u124 :: u125 :: u126 :: u127 :: u128 :: u129 :: u130 :: u131 :: u132 :: u133 :: u134 :: u135 :: u136 :: u137 :: u138 :: u139 :: u140 :: u141 :: u142 :: u143 :: []), defers := [] } ∧ Tab LL ub [(0, 57, .int .i64 x7_4), (1, 58, .slice (some ad5) x5_2.length c5), (2, 59, .int .i64 (x5_2.length : Int)), (3, 60, .bool true), (4, 61, .bool true), (5, 62, .slice (some ad5) x5_2.length c5), (6, 63, .int .i64 x7_4), (7, 64, .pointer (some (ad5.add (x7_4).toNat))), (8, 65, .string s1), (9, 66, .slice (some ad0) l0.length c0), (10, 67, .int .i64 x6_2), (11, 68, .pointer (some (ad0.add (x6_2).toNat))), (12, 69, .string s2), (13, 70, .bool true), (14, 71, .bool true)] ∧ Aside0 (Below wa.heap.size wa wx))) ?_ ?_ ?_
                · exact ⟨(put1 (put1 (put1 (put1 (put1 (put1 (put1 (put1 (put1 (put1 (put1 (put1 (put1 (put1 (put1 (fun _ => undef) 57 (u57)) 58 (u58)) 59 (u59)) 60 (u60)) 61 (u61)) 62 (u62)) 63 (u63)) 64 (u64)) 65 (u65)) 66 (u66)) 67 (u67)) 68 (u68)) 69 (u69)) 70 (u70)) 71 (u71)), ⟨rfl, Tab.start 15 rfl rfl, ⟨below_drew (Below.refl _ _)⟩⟩⟩
                · refine Steps.cons ?_ (Steps.cons ?_ (Steps.cons ?_ (Steps.cons ?_ (Steps.cons ?_ (Steps.cons ?_ (Steps.cons ?_ (Steps.cons ?_ (Steps.cons ?_ (Steps.cons ?_ (Steps.cons ?_ (Steps.cons ?_ (Steps.cons ?_ (Steps.cons ?_ (Steps.cons ?_ (Steps.nil)))))))))))))))
                  · intro LL a wx hI hLk hd K' hK
                    obtain ⟨ub, hI⟩ := hI
                    obtain rfl := hI.out.1
                    rw [if_pos (by rfl)]
                    go_simp
                    exact hK.out _ _ ⟨(put1 ub 57 (.int .i64 x7_4)), ⟨rfl, hI.out.2.1.upd 0 rfl rfl rfl rfl, hI.out.2.2⟩⟩
                  · intro LL a wx hI hLk hd K' hK
                    obtain ⟨ub, hI⟩ := hI
                    obtain rfl := hI.out.1
                    rw [if_pos (by rfl)]
                    go_simp
                    exact hK.out _ _ ⟨(put1 ub 58 (.slice (some ad5) x5_2.length c5)), ⟨rfl, hI.out.2.1.upd 1 rfl rfl rfl rfl, hI.out.2.2⟩⟩
                  · intro LL a wx hI hLk hd K' hK
                    obtain ⟨ub, hI⟩ := hI
                    obtain rfl := hI.out.1
                    have e1 := hI.out.2.1.at 1 rfl (hd 1 rfl)
                    rw [if_pos (by rfl)]
                    go_simp
                    exact hK.out _ _ ⟨(put1 (put1 ub 58 (.slice (some ad5) x5_2.length c5)) 59 (.int .i64 (x5_2.length : Int))), ⟨rfl, (hI.out.2.1.same (s := 58) (v := .slice (some ad5) x5_2.length c5) e1).upd 2 rfl rfl rfl rfl, hI.out.2.2⟩⟩
                  · intro LL a wx hI hLk hd K' hK
                    obtain ⟨ub, hI⟩ := hI
                    obtain rfl := hI.out.1
                    have e0 := hI.out.2.1.at 0 rfl (hd 0 rfl)
                    have e2 := hI.out.2.1.at 2 rfl (hd 2 rfl)
                    rw [if_pos (by rfl)]
                    go_simp
                    exact hK.out _ _ ⟨(put1 (put1 (put1 ub 57 (.int .i64 x7_4)) 59 (.int .i64 (x5_2.length : Int))) 60 (.bool true)), ⟨rfl, ((hI.out.2.1.same (s := 57) (v := .int .i64 x7_4) e0).same (s := 59) (v := .int .i64 (x5_2.length : Int)) e2).upd 3 rfl rfl rfl rfl, hI.out.2.2⟩⟩
                  · intro LL a wx hI hLk hd K' hK
                    obtain ⟨ub, hI⟩ := hI
                    obtain rfl := hI.out.1
                    have e3 := hI.out.2.1.at 3 rfl (hd 3 rfl)
                    rw [if_pos (by rfl)]
                    go_simp
                    exact hK.out _ _ ⟨(put1 (put1 ub 60 (.bool true)) 61 (.bool true)), ⟨rfl, (hI.out.2.1.same (s := 60) (v := .bool true) e3).upd 4 rfl rfl rfl rfl, hI.out.2.2⟩⟩
                  · intro LL a wx hI hLk hd K' hK
                    obtain ⟨ub, hI⟩ := hI
                    obtain rfl := hI.out.1
                    have eg := hI.out.2.1.at 4 rfl (hd 4 rfl)
                    rw [eg]
                    rw [if_pos (by rfl)]
                    go_simp
                    exact hK.out _ _ ⟨(put1 (put1 ub 61 (.bool true)) 62 (.slice (some ad5) x5_2.length c5)), ⟨rfl, (hI.out.2.1.same (s := 61) (v := .bool true) eg).upd 5 rfl rfl rfl rfl, hI.out.2.2⟩⟩
                  · intro LL a wx hI hLk hd K' hK
                    obtain ⟨ub, hI⟩ := hI
                    obtain rfl := hI.out.1
                    have eg := hI.out.2.1.at 4 rfl (hd 4 rfl)
                    rw [eg]
                    rw [if_pos (by rfl)]
                    go_simp
                    exact hK.out _ _ ⟨(put1 (put1 ub 61 (.bool true)) 63 (.int .i64 x7_4)), ⟨rfl, (hI.out.2.1.same (s := 61) (v := .bool true) eg).upd 6 rfl rfl rfl rfl, hI.out.2.2⟩⟩
                  · intro LL a wx hI hLk hd K' hK
                    obtain ⟨ub, hI⟩ := hI
                    obtain rfl := hI.out.1
                    have e5 := hI.out.2.1.at 5 rfl (hd 5 rfl)
                    have e6 := hI.out.2.1.at 6 rfl (hd 6 rfl)
                    have eg := hI.out.2.1.at 4 rfl (hd 4 rfl)
                    rw [eg]
                    rw [if_pos (by rfl)]
                    go_simp
                    exact hK.out _ _ ⟨(put1 (put1 (put1 (put1 ub 62 (.slice (some ad5) x5_2.length c5)) 63 (.int .i64 x7_4)) 61 (.bool true)) 64 (.pointer (some (ad5.add (x7_4).toNat)))), ⟨rfl, (((hI.out.2.1.same (s := 62) (v := .slice (some ad5) x5_2.length c5) e5).same (s := 63) (v := .int .i64 x7_4) e6).same (s := 61) (v := .bool true) eg).upd 7 rfl rfl rfl rfl, hI.out.2.2⟩⟩
                  · intro LL a wx hI hLk hd K' hK
                    obtain ⟨ub, hI⟩ := hI
                    obtain rfl := hI.out.1
                    have e7 := hI.out.2.1.at 7 rfl (hd 7 rfl)
                    have hb := hI.out.2.2
                    have h5 := cell_keep hb.out C5.out
                    have eg := hI.out.2.1.at 4 rfl (hd 4 rfl)
                    rw [eg]
                    rw [if_pos (by rfl)]
                    go_simp
                    exact hK.out _ _ ⟨(put1 (put1 (put1 ub 64 (.pointer (some (ad5.add (x7_4).toNat)))) 61 (.bool true)) 65 (.string s1)), ⟨rfl, ((hI.out.2.1.same (s := 64) (v := .pointer (some (ad5.add (x7_4).toNat))) e7).same (s := 61) (v := .bool true) eg).upd 8 rfl rfl rfl rfl, hI.out.2.2⟩⟩
                  · intro LL a wx hI hLk hd K' hK
                    obtain ⟨ub, hI⟩ := hI
                    obtain rfl := hI.out.1
                    have eg := hI.out.2.1.at 4 rfl (hd 4 rfl)
                    rw [eg]
                    rw [if_pos (by rfl)]
                    go_simp
                    exact hK.out _ _ ⟨(put1 (put1 ub 61 (.bool true)) 66 (.slice (some ad0) l0.length c0)), ⟨rfl, (hI.out.2.1.same (s := 61) (v := .bool true) eg).upd 9 rfl rfl rfl rfl, hI.out.2.2⟩⟩
                  · intro LL a wx hI hLk hd K' hK
                    obtain ⟨ub, hI⟩ := hI
                    obtain rfl := hI.out.1
                    have eg := hI.out.2.1.at 4 rfl (hd 4 rfl)
                    rw [eg]
                    rw [if_pos (by rfl)]
                    go_simp
                    exact hK.out _ _ ⟨(put1 (put1 ub 61 (.bool true)) 67 (.int .i64 x6_2)), ⟨rfl, (hI.out.2.1.same (s := 61) (v := .bool true) eg).upd 10 rfl rfl rfl rfl, hI.out.2.2⟩⟩
                  · intro LL a wx hI hLk hd K' hK
                    obtain ⟨ub, hI⟩ := hI
                    obtain rfl := hI.out.1
                    have e9 := hI.out.2.1.at 9 rfl (hd 9 rfl)
                    have e10 := hI.out.2.1.at 10 rfl (hd 10 rfl)
                    have eg := hI.out.2.1.at 4 rfl (hd 4 rfl)
                    rw [eg]
                    rw [if_pos (by rfl)]
                    go_simp
                    exact hK.out _ _ ⟨(put1 (put1 (put1 (put1 ub 66 (.slice (some ad0) l0.length c0)) 67 (.int .i64 x6_2)) 61 (.bool true)) 68 (.pointer (some (ad0.add (x6_2).toNat)))), ⟨rfl, (((hI.out.2.1.same (s := 66) (v := .slice (some ad0) l0.length c0) e9).same (s := 67) (v := .int .i64 x6_2) e10).same (s := 61) (v := .bool true) eg).upd 11 rfl rfl rfl rfl, hI.out.2.2⟩⟩
                  · intro LL a wx hI hLk hd K' hK
                    obtain ⟨ub, hI⟩ := hI
                    obtain rfl := hI.out.1
                    have e11 := hI.out.2.1.at 11 rfl (hd 11 rfl)
                    have hb := hI.out.2.2
                    have h0 := cell_keep hb.out C0.out
                    have eg := hI.out.2.1.at 4 rfl (hd 4 rfl)
                    rw [eg]
                    rw [if_pos (by rfl)]
                    go_simp
                    exact hK.out _ _ ⟨(put1 (put1 (put1 ub 68 (.pointer (some (ad0.add (x6_2).toNat)))) 61 (.bool true)) 69 (.string s2)), ⟨rfl, ((hI.out.2.1.same (s := 68) (v := .pointer (some (ad0.add (x6_2).toNat))) e11).same (s := 61) (v := .bool true) eg).upd 12 rfl rfl rfl rfl, hI.out.2.2⟩⟩
                  · intro LL a wx hI hLk hd K' hK
                    obtain ⟨ub, hI⟩ := hI
                    obtain rfl := hI.out.1
                    have e8 := hI.out.2.1.at 8 rfl (hd 8 rfl)
                    have e12 := hI.out.2.1.at 12 rfl (hd 12 rfl)
                    have eg := hI.out.2.1.at 4 rfl (hd 4 rfl)
                    rw [eg]
                    rw [if_pos (by rfl)]
                    go_simp
                    exact hK.out _ _ ⟨(put1 (put1 (put1 (put1 ub 65 (.string s1)) 69 (.string s2)) 61 (.bool true)) 70 (.bool true)), ⟨rfl, (((hI.out.2.1.same (s := 65) (v := .string s1) e8).same (s := 69) (v := .string s2) e12).same (s := 61) (v := .bool true) eg).upd 13 rfl rfl rfl rfl, hI.out.2.2⟩⟩
                  · intro LL a wx hI hLk hd K' hK
                    obtain ⟨ub, hI⟩ := hI
                    obtain rfl := hI.out.1
                    have e4 := hI.out.2.1.at 4 rfl (hd 4 rfl)
                    have e13 := hI.out.2.1.at 13 rfl (hd 13 rfl)
                    rw [if_pos (by rfl)]
                    go_simp
                    exact hK.out _ _ ⟨(put1 (put1 (put1 ub 61 (.bool true)) 70 (.bool true)) 71 (.bool true)), ⟨rfl, ((hI.out.2.1.same (s := 61) (v := .bool true) e4).same (s := 70) (v := .bool true) e13).upd 14 rfl rfl rfl rfl, hI.out.2.2⟩⟩
                · intro LL a wb hall hI
                  obtain ⟨ub, hI⟩ := hI
                  obtain rfl := hI.out.1
                  have hb := hI.out.2.2
                  have e14 := hI.out.2.1.at 14 rfl (hall 14 (by decide))
                  rw [e14]
                  have HBw_ub := Aside0.mk hb.out
                  clear hI hb e14
                  go_wp2
                  go_roundg k4
                  case measure => have := HJ4.out; have := HK2.out; have := HJ9.out; have := HK4.out; omega
                  case rel => exact ⟨(x5_2), (wrap64 (x6_2 + 1)), (by first | rfl | (simp; done) | (simp [*]; done)), H', ⟨by have := HJ4.out; have := HK2.out; have := HJ9.out; have := HK4.out; omega⟩, ⟨Kd.R_below (Kd.R_below HO_5.out HBw_ua.out) HBw_ub.out⟩, ⟨below_step (below_step (HB.out) HBw_ua.out) HBw_ub.out⟩⟩
            replace H := bsome (ineg c21 H)
            try dsimp only at H
            have c26 : x7_4 ≤ (x5_2.length : Int) := by omega
            replace H := bsome (ipos c26 H)
            try dsimp only at H
            by_cases y1 : ([] : List ByteArray).length + (x5_2.take (x7_4).toNat).length < 8796093022208
            case neg => have H := ineg y1 H; cases H
            replace H := ipos y1 H
            replace H := bsome H
            try dsimp only at H
            replace H := bsome H
            try dsimp only at H
            by_cases y2 : ([] ++ (x5_2.take (x7_4).toNat)).length + [s2].length < 8796093022208
            case neg => have H := ineg y2 H; cases H
            replace H := ipos y2 H
            replace H := bsome H
            try dsimp only at H
            by_cases y3 : (([] ++ (x5_2.take (x7_4).toNat)) ++ [s2]).length + (x5_2.drop (x7_4).toNat).length < 8796093022208
            case neg => have H := ineg y3 H; cases H
            replace H := ipos y3 H
            have H' := Aside0.mk H
            clear H
            have r21 : (s1.toList == s2.toList) = false := beq_eq_false_iff_ne.mpr c21
            clear c21
            have r7 : (x7_4 < (x5_2.length : Int)) = True := eq_true c14
            have r15 : ((0 : Int) ≤ x7_4) = True := eq_true c15
            have r16 : ((0 : Int) ≤ x6_2) = True := eq_true c16
            have r17 : (x6_2 < (l0.length : Int)) = True := eq_true c17
            obtain ⟨i9, hi9, _, hsz9, _⟩ := info_parts info9
            have HCT := Aside0.mk (cut_to (P := Try.prog) 33 9 .i64 Try.underlying33 hi9 (some ad5) x5_2.length c5 x7_4 c15 c26 HCAP.out)
            have HCF0 := cut_from (P := Try.prog) 33 9 .i64 Try.underlying33 hi9 1 hsz9 (some ad5) x5_2.length c5 x7_4 c15 c26
            obtain ⟨A85, hA85⟩ : ∃ A : Option Addr, A = (if c5 = (x7_4).toNat then (some ad5) else ((some ad5) : Option Addr).map (·.add ((x7_4).toNat * 1))) := ⟨_, rfl⟩
            obtain ⟨n85, hn85⟩ : ∃ n : Nat, n = x5_2.length - (x7_4).toNat := ⟨_, rfl⟩
            obtain ⟨m85, hm85⟩ : ∃ n : Nat, n = c5 - (x7_4).toNat := ⟨_, rfl⟩
            have HCD : Aside0 (∀ wx, Kd.R Kd.string 9 wx w.heap.size (fun _ => True) (.slice (some ad5) x5_2.length c5) x5_2 → Kd.C Kd.string wx A85 n85 (x5_2.drop (x7_4).toNat)) := ⟨fun wx hr => by have := Kd.C_drop (m := (x7_4).toNat) (c := c5) (Kd.R_reads' hr).2.2 (by omega) HCAP.out; rw [List.length_drop] at this; rw [hA85, hn85]; exact this⟩
            have HCK : Aside0 (∀ wx, Kd.R Kd.string 9 wx w.heap.size (fun _ => True) (.slice (some ad5) x5_2.length c5) x5_2 → Kd.C Kd.string wx (some ad5) (x7_4).toNat (x5_2.take (x7_4).toNat)) := ⟨fun wx hr => by have := Kd.C_take (m := (x7_4).toNat) (Kd.R_reads' hr).2.2 (by omega); rw [List.length_take, Nat.min_eq_left (by omega)] at this; exact this⟩
            rw [← hA85, ← hn85, ← hm85] at HCF0
            have HCF := Aside0.mk HCF0
            have HLN : Aside0 ((([] : List ByteArray).length + (x7_4).toNat) * 16 ≤ 140737488355328 ∧ (([] ++ (x5_2.take (x7_4).toNat)).length + 1) * 16 ≤ 140737488355328 ∧ ((([] ++ (x5_2.take (x7_4).toNat)) ++ [s2]).length + n85) * 16 ≤ 140737488355328) := ⟨by have h1 := y1; have h2 := y2; have h3 := y3; simp only [List.length_append, List.length_take, List.length_drop, List.length_nil, List.length_cons] at h1 h2 h3 ⊢; omega⟩
            clear HCF0 hA85 hn85 hm85 hi9 hsz9 y1 y2 y3 c26
            go_wp2_with fail
            refine wp_region_steps 15 rfl rfl (by kernel_rfl) (fun LL a wx => ∃ ua : Nat → Value, Aside0 (a = { tmps := List.toArray (.slice (some ad0) l0.length c0 :: .string a1 :: undef :: undef :: u4 :: .slice (some ad5) x5_2.length c5 :: .int .i64 x6_2 :: .int .i64 x7_4 :: undef :: undef :: undef :: u11 :: u12 :: u13 :: u14 :: u15 :: u16 :: u17 :: u18 :: u19 :: .bool false :: u21 :: u22 :: u23 :: u24 :: u25 :: u26 :: u27 :: u28 :: u29 :: u30 :: u31 :: u32 :: u33 :: u34 :: u35 :: u36 :: u37 :: u38 :: .bool false :: ua 40 :: ua 41 :: ua 42 :: ua 43 :: ua 44 :: ua 45 :: ua 46 :: ua 47 :: ua 48 :: ua 49 :: ua 50 :: ua 51 :: ua 52 :: ua 53 :: ua 54 :: u55 :: u56 :: u57 :: u58 :: u59 :: u60 :: u61 :: u62 :: u63 :: u64 :: u65 :: u66 :: u67 :: u68 :: u69 :: u70 :: u71 :: u72 :: u73 :: u74 :: u75 :: u76 :: u77 :: u78 :: u79 :: u80 :: u81 :: u82 :: u83 :: u84 :: u85 :: u86 :: u87 :: u88 :: u89 :: u90 :: u91 :: u92 :: u93 :: u94 :: u95 :: u96 :: u97 :: u98 :: u99 :: u100 :: u101 :: u102 :: u103 :: u104 :: u105 :: u106 :: u107 :: u108 :: u109 :: u110 :: u111 :: u112 :: u113 :: u114 :: u115 :: u116 :: u117 :: u118 :: u119 :: u120 :: u121 :: u122 :: u123 :: u124 :: u125 :: u126 :: u127 :: u128 :: u129 :: u130 :: u131 :: u132 :: u133 :: u134 :: u135 :: u136 :: u137 :: u138 :: u139 :: u140 :: u141 :: u142 :: u143 :: []), defers := [] } ∧ Tab LL ua [(0, 40, .int .i64 x7_4), (1, 41, .slice (some ad5) x5_2.length c5), (2, 42, .int .i64 (x5_2.length : Int)), (3, 43, .bool true), (4, 44, .bool true), (5, 45, .slice (some ad5) x5_2.length c5), (6, 46, .int .i64 x7_4), (7, 47, .pointer (some (ad5.add (x7_4).toNat))), (8, 48, .string s1), (9, 49, .slice (some ad0) l0.length c0), (10, 50, .int .i64 x6_2), (11, 51, .pointer (some (ad0.add (x6_2).toNat))), (12, 52, .string s2), (13, 53, .bool false), (14, 54, .bool false)] ∧ Aside0 (Below wr.heap.size wr wx))) ?_ ?_ ?_
            · exact ⟨(put1 (put1 (put1 (put1 (put1 (put1 (put1 (put1 (put1 (put1 (put1 (put1 (put1 (put1 (put1 (fun _ => undef) 40 (u40)) 41 (u41)) 42 (u42)) 43 (u43)) 44 (u44)) 45 (u45)) 46 (u46)) 47 (u47)) 48 (u48)) 49 (u49)) 50 (u50)) 51 (u51)) 52 (u52)) 53 (u53)) 54 (u54)), ⟨rfl, Tab.start 15 rfl rfl, ⟨below_drew (Below.refl _ _)⟩⟩⟩
            · refine Steps.cons ?_ (Steps.cons ?_ (Steps.cons ?_ (Steps.cons ?_ (Steps.cons ?_ (Steps.cons ?_ (Steps.cons ?_ (Steps.cons ?_ (Steps.cons ?_ (Steps.cons ?_ (Steps.cons ?_ (Steps.cons ?_ (Steps.cons ?_ (Steps.cons ?_ (Steps.cons ?_ (Steps.nil)))))))))))))))
              · intro LL a wx hI hLk hd K' hK
                obtain ⟨ua, hI⟩ := hI
                obtain rfl := hI.out.1
                rw [if_pos (by rfl)]
                go_simp
                exact hK.out _ _ ⟨(put1 ua 40 (.int .i64 x7_4)), ⟨rfl, hI.out.2.1.upd 0 rfl rfl rfl rfl, hI.out.2.2⟩⟩
              · intro LL a wx hI hLk hd K' hK
                obtain ⟨ua, hI⟩ := hI
                obtain rfl := hI.out.1
                rw [if_pos (by rfl)]
                go_simp
                exact hK.out _ _ ⟨(put1 ua 41 (.slice (some ad5) x5_2.length c5)), ⟨rfl, hI.out.2.1.upd 1 rfl rfl rfl rfl, hI.out.2.2⟩⟩
              · intro LL a wx hI hLk hd K' hK
                obtain ⟨ua, hI⟩ := hI
                obtain rfl := hI.out.1
                have e1 := hI.out.2.1.at 1 rfl (hd 1 rfl)
                rw [if_pos (by rfl)]
                go_simp
                exact hK.out _ _ ⟨(put1 (put1 ua 41 (.slice (some ad5) x5_2.length c5)) 42 (.int .i64 (x5_2.length : Int))), ⟨rfl, (hI.out.2.1.same (s := 41) (v := .slice (some ad5) x5_2.length c5) e1).upd 2 rfl rfl rfl rfl, hI.out.2.2⟩⟩
              · intro LL a wx hI hLk hd K' hK
                obtain ⟨ua, hI⟩ := hI
                obtain rfl := hI.out.1
                have e0 := hI.out.2.1.at 0 rfl (hd 0 rfl)
                have e2 := hI.out.2.1.at 2 rfl (hd 2 rfl)
                rw [if_pos (by rfl)]
                go_simp
                exact hK.out _ _ ⟨(put1 (put1 (put1 ua 40 (.int .i64 x7_4)) 42 (.int .i64 (x5_2.length : Int))) 43 (.bool true)), ⟨rfl, ((hI.out.2.1.same (s := 40) (v := .int .i64 x7_4) e0).same (s := 42) (v := .int .i64 (x5_2.length : Int)) e2).upd 3 rfl rfl rfl rfl, hI.out.2.2⟩⟩
              · intro LL a wx hI hLk hd K' hK
                obtain ⟨ua, hI⟩ := hI
                obtain rfl := hI.out.1
                have e3 := hI.out.2.1.at 3 rfl (hd 3 rfl)
                rw [if_pos (by rfl)]
                go_simp
                exact hK.out _ _ ⟨(put1 (put1 ua 43 (.bool true)) 44 (.bool true)), ⟨rfl, (hI.out.2.1.same (s := 43) (v := .bool true) e3).upd 4 rfl rfl rfl rfl, hI.out.2.2⟩⟩
              · intro LL a wx hI hLk hd K' hK
                obtain ⟨ua, hI⟩ := hI
                obtain rfl := hI.out.1
                have eg := hI.out.2.1.at 4 rfl (hd 4 rfl)
                rw [eg]
                rw [if_pos (by rfl)]
                go_simp
                exact hK.out _ _ ⟨(put1 (put1 ua 44 (.bool true)) 45 (.slice (some ad5) x5_2.length c5)), ⟨rfl, (hI.out.2.1.same (s := 44) (v := .bool true) eg).upd 5 rfl rfl rfl rfl, hI.out.2.2⟩⟩
              · intro LL a wx hI hLk hd K' hK
                obtain ⟨ua, hI⟩ := hI
                obtain rfl := hI.out.1
                have eg := hI.out.2.1.at 4 rfl (hd 4 rfl)
                rw [eg]
                rw [if_pos (by rfl)]
                go_simp
                exact hK.out _ _ ⟨(put1 (put1 ua 44 (.bool true)) 46 (.int .i64 x7_4)), ⟨rfl, (hI.out.2.1.same (s := 44) (v := .bool true) eg).upd 6 rfl rfl rfl rfl, hI.out.2.2⟩⟩
              · intro LL a wx hI hLk hd K' hK
                obtain ⟨ua, hI⟩ := hI
                obtain rfl := hI.out.1
                have e5 := hI.out.2.1.at 5 rfl (hd 5 rfl)
                have e6 := hI.out.2.1.at 6 rfl (hd 6 rfl)
                have eg := hI.out.2.1.at 4 rfl (hd 4 rfl)
                rw [eg]
                rw [if_pos (by rfl)]
                go_simp
                exact hK.out _ _ ⟨(put1 (put1 (put1 (put1 ua 45 (.slice (some ad5) x5_2.length c5)) 46 (.int .i64 x7_4)) 44 (.bool true)) 47 (.pointer (some (ad5.add (x7_4).toNat)))), ⟨rfl, (((hI.out.2.1.same (s := 45) (v := .slice (some ad5) x5_2.length c5) e5).same (s := 46) (v := .int .i64 x7_4) e6).same (s := 44) (v := .bool true) eg).upd 7 rfl rfl rfl rfl, hI.out.2.2⟩⟩
              · intro LL a wx hI hLk hd K' hK
                obtain ⟨ua, hI⟩ := hI
                obtain rfl := hI.out.1
                have e7 := hI.out.2.1.at 7 rfl (hd 7 rfl)
                have hb := hI.out.2.2
                have h5 := cell_keep hb.out C5.out
                have eg := hI.out.2.1.at 4 rfl (hd 4 rfl)
                rw [eg]
                rw [if_pos (by rfl)]
                go_simp
                exact hK.out _ _ ⟨(put1 (put1 (put1 ua 47 (.pointer (some (ad5.add (x7_4).toNat)))) 44 (.bool true)) 48 (.string s1)), ⟨rfl, ((hI.out.2.1.same (s := 47) (v := .pointer (some (ad5.add (x7_4).toNat))) e7).same (s := 44) (v := .bool true) eg).upd 8 rfl rfl rfl rfl, hI.out.2.2⟩⟩
              · intro LL a wx hI hLk hd K' hK
                obtain ⟨ua, hI⟩ := hI
                obtain rfl := hI.out.1
                have eg := hI.out.2.1.at 4 rfl (hd 4 rfl)
                rw [eg]
                rw [if_pos (by rfl)]
                go_simp
                exact hK.out _ _ ⟨(put1 (put1 ua 44 (.bool true)) 49 (.slice (some ad0) l0.length c0)), ⟨rfl, (hI.out.2.1.same (s := 44) (v := .bool true) eg).upd 9 rfl rfl rfl rfl, hI.out.2.2⟩⟩
              · intro LL a wx hI hLk hd K' hK
                obtain ⟨ua, hI⟩ := hI
                obtain rfl := hI.out.1
                have eg := hI.out.2.1.at 4 rfl (hd 4 rfl)
                rw [eg]
                rw [if_pos (by rfl)]
                go_simp
                exact hK.out _ _ ⟨(put1 (put1 ua 44 (.bool true)) 50 (.int .i64 x6_2)), ⟨rfl, (hI.out.2.1.same (s := 44) (v := .bool true) eg).upd 10 rfl rfl rfl rfl, hI.out.2.2⟩⟩
              · intro LL a wx hI hLk hd K' hK
                obtain ⟨ua, hI⟩ := hI
                obtain rfl := hI.out.1
                have e9 := hI.out.2.1.at 9 rfl (hd 9 rfl)
                have e10 := hI.out.2.1.at 10 rfl (hd 10 rfl)
                have eg := hI.out.2.1.at 4 rfl (hd 4 rfl)
                rw [eg]
                rw [if_pos (by rfl)]
                go_simp
                exact hK.out _ _ ⟨(put1 (put1 (put1 (put1 ua 49 (.slice (some ad0) l0.length c0)) 50 (.int .i64 x6_2)) 44 (.bool true)) 51 (.pointer (some (ad0.add (x6_2).toNat)))), ⟨rfl, (((hI.out.2.1.same (s := 49) (v := .slice (some ad0) l0.length c0) e9).same (s := 50) (v := .int .i64 x6_2) e10).same (s := 44) (v := .bool true) eg).upd 11 rfl rfl rfl rfl, hI.out.2.2⟩⟩
              · intro LL a wx hI hLk hd K' hK
                obtain ⟨ua, hI⟩ := hI
                obtain rfl := hI.out.1
                have e11 := hI.out.2.1.at 11 rfl (hd 11 rfl)
                have hb := hI.out.2.2
                have h0 := cell_keep hb.out C0.out
                have eg := hI.out.2.1.at 4 rfl (hd 4 rfl)
                rw [eg]
                rw [if_pos (by rfl)]
                go_simp
                exact hK.out _ _ ⟨(put1 (put1 (put1 ua 51 (.pointer (some (ad0.add (x6_2).toNat)))) 44 (.bool true)) 52 (.string s2)), ⟨rfl, ((hI.out.2.1.same (s := 51) (v := .pointer (some (ad0.add (x6_2).toNat))) e11).same (s := 44) (v := .bool true) eg).upd 12 rfl rfl rfl rfl, hI.out.2.2⟩⟩
              · intro LL a wx hI hLk hd K' hK
                obtain ⟨ua, hI⟩ := hI
                obtain rfl := hI.out.1
                have e8 := hI.out.2.1.at 8 rfl (hd 8 rfl)
                have e12 := hI.out.2.1.at 12 rfl (hd 12 rfl)
                have eg := hI.out.2.1.at 4 rfl (hd 4 rfl)
                rw [eg]
                rw [if_pos (by rfl)]
                go_simp
                exact hK.out _ _ ⟨(put1 (put1 (put1 (put1 ua 48 (.string s1)) 52 (.string s2)) 44 (.bool true)) 53 (.bool false)), ⟨rfl, (((hI.out.2.1.same (s := 48) (v := .string s1) e8).same (s := 52) (v := .string s2) e12).same (s := 44) (v := .bool true) eg).upd 13 rfl rfl rfl rfl, hI.out.2.2⟩⟩
              · intro LL a wx hI hLk hd K' hK
                obtain ⟨ua, hI⟩ := hI
                obtain rfl := hI.out.1
                have e4 := hI.out.2.1.at 4 rfl (hd 4 rfl)
                have e13 := hI.out.2.1.at 13 rfl (hd 13 rfl)
                rw [if_pos (by rfl)]
                go_simp
                exact hK.out _ _ ⟨(put1 (put1 (put1 ua 44 (.bool true)) 53 (.bool false)) 54 (.bool false)), ⟨rfl, ((hI.out.2.1.same (s := 44) (v := .bool true) e4).same (s := 53) (v := .bool false) e13).upd 14 rfl rfl rfl rfl, hI.out.2.2⟩⟩
            · intro LL a wa hall hI
              obtain ⟨ua, hI⟩ := hI
              obtain rfl := hI.out.1
              have hb := hI.out.2.2
              have e14 := hI.out.2.1.at 14 rfl (hall 14 (by decide))
              rw [e14]
              have HBw_ua := Aside0.mk hb.out
              clear hI hb e14
              go_wp2_with fail
              have C5 := Aside0.mk (cell_keep HBw_ua.out C5.out)
              have C0 := Aside0.mk (cell_keep HBw_ua.out C0.out)
              refine wp_region_steps 15 rfl rfl (by kernel_rfl) (fun LL a wx => ∃ ub : Nat → Value, Aside0 (a = { tmps := List.toArray (.slice (some ad0) l0.length c0 :: .string a1 :: undef :: undef :: u4 :: .slice (some ad5) x5_2.length c5 :: .int .i64 x6_2 :: .int .i64 x7_4 :: undef :: undef :: undef :: u11 :: u12 :: u13 :: u14 :: u15 :: u16 :: u17 :: u18 :: u19 :: .bool false :: u21 :: u22 :: u23 :: u24 :: u25 :: u26 :: u27 :: u28 :: u29 :: u30 :: u31 :: u32 :: u33 :: u34 :: u35 :: u36 :: u37 :: u38 :: .bool false :: ua 40 :: ua 41 :: ua 42 :: ua 43 :: ua 44 :: ua 45 :: ua 46 :: ua 47 :: ua 48 :: ua 49 :: ua 50 :: ua 51 :: ua 52 :: ua 53 :: .bool false :: u55 :: u56 :: ub 57 :: ub 58 :: ub 59 :: ub 60 :: ub 61 :: ub 62 :: ub 63 :: ub 64 :: ub 65 :: ub 66 :: ub 67 :: ub 68 :: ub 69 :: ub 70 :: ub 71 :: u72 :: u73 :: u74 :: u75 :: u76 :: u77 :: u78 :: u79 :: u80 :: u81 :: u82 :: u83 :: u84 :: u85 :: u86 :: u87 :: u88 :: u89 :: u90 :: u91 :: u92 :: u93 :: u94 :: u95 :: u96 :: u97 :: u98 :: u99 :: u100 :: u101 :: u102 :: u103 :: u104 :: u105 :: u106 :: u107 :: u108 :: u109 :: u110 :: u111 :: u112 :: u113 :: u114 :: u115 :: u116 :: u117 :: u118 :: u119 :: u120 :: u121 :: u122 :: u123 :: u124 :: u125 :: u126 :: u127 :: u128 :: u129 :: u130 :: u131 :: u132 :: u133 :: u134 :: u135 :: u136 :: u137 :: u138 :: u139 :: u140 :: u141 :: u142 :: u143 :: []), defers := [] } ∧ Tab LL ub [(0, 57, .int .i64 x7_4), (1, 58, .slice (some ad5) x5_2.length c5), (2, 59, .int .i64 (x5_2.length : Int)), (3, 60, .bool true), (4, 61, .bool true), (5, 62, .slice (some ad5) x5_2.length c5), (6, 63, .int .i64 x7_4), (7, 64, .pointer (some (ad5.add (x7_4).toNat))), (8, 65, .string s1), (9, 66, .slice (some ad0) l0.length c0), (10, 67, .int .i64 x6_2), (11, 68, .pointer (some (ad0.add (x6_2).toNat))), (12, 69, .string s2), (13, 70, .bool false), (14, 71, .bool false)] ∧ Aside0 (Below wa.heap.size wa wx))) ?_ ?_ ?_
              · exact ⟨(put1 (put1 (put1 (put1 (put1 (put1 (put1 (put1 (put1 (put1 (put1 (put1 (put1 (put1 (put1 (fun _ => undef) 57 (u57)) 58 (u58)) 59 (u59)) 60 (u60)) 61 (u61)) 62 (u62)) 63 (u63)) 64 (u64)) 65 (u65)) 66 (u66)) 67 (u67)) 68 (u68)) 69 (u69)) 70 (u70)) 71 (u71)), ⟨rfl, Tab.start 15 rfl rfl, ⟨below_drew (Below.refl _ _)⟩⟩⟩
              · refine Steps.cons ?_ (Steps.cons ?_ (Steps.cons ?_ (Steps.cons ?_ (Steps.cons ?_ (Steps.cons ?_ (Steps.cons ?_ (Steps.cons ?_ (Steps.cons ?_ (Steps.cons ?_ (Steps.cons ?_ (Steps.cons ?_ (Steps.cons ?_ (Steps.cons ?_ (Steps.cons ?_ (Steps.nil)))))))))))))))
                · intro LL a wx hI hLk hd K' hK
                  obtain ⟨ub, hI⟩ := hI
                  obtain rfl := hI.out.1
                  rw [if_pos (by rfl)]
                  go_simp
                  exact hK.out _ _ ⟨(put1 ub 57 (.int .i64 x7_4)), ⟨rfl, hI.out.2.1.upd 0 rfl rfl rfl rfl, hI.out.2.2⟩⟩
                · intro LL a wx hI hLk hd K' hK
                  obtain ⟨ub, hI⟩ := hI
                  obtain rfl := hI.out.1
                  rw [if_pos (by rfl)]
                  go_simp
                  exact hK.out _ _ ⟨(put1 ub 58 (.slice (some ad5) x5_2.length c5)), ⟨rfl, hI.out.2.1.upd 1 rfl rfl rfl rfl, hI.out.2.2⟩⟩
                · intro LL a wx hI hLk hd K' hK
                  obtain ⟨ub, hI⟩ := hI
                  obtain rfl := hI.out.1
                  have e1 := hI.out.2.1.at 1 rfl (hd 1 rfl)
                  rw [if_pos (by rfl)]
                  go_simp
                  exact hK.out _ _ ⟨(put1 (put1 ub 58 (.slice (some ad5) x5_2.length c5)) 59 (.int .i64 (x5_2.length : Int))), ⟨rfl, (hI.out.2.1.same (s := 58) (v := .slice (some ad5) x5_2.length c5) e1).upd 2 rfl rfl rfl rfl, hI.out.2.2⟩⟩
                · intro LL a wx hI hLk hd K' hK
                  obtain ⟨ub, hI⟩ := hI
                  obtain rfl := hI.out.1
                  have e0 := hI.out.2.1.at 0 rfl (hd 0 rfl)
                  have e2 := hI.out.2.1.at 2 rfl (hd 2 rfl)
                  rw [if_pos (by rfl)]
                  go_simp
                  exact hK.out _ _ ⟨(put1 (put1 (put1 ub 57 (.int .i64 x7_4)) 59 (.int .i64 (x5_2.length : Int))) 60 (.bool true)), ⟨rfl, ((hI.out.2.1.same (s := 57) (v := .int .i64 x7_4) e0).same (s := 59) (v := .int .i64 (x5_2.length : Int)) e2).upd 3 rfl rfl rfl rfl, hI.out.2.2⟩⟩
                · intro LL a wx hI hLk hd K' hK
                  obtain ⟨ub, hI⟩ := hI
                  obtain rfl := hI.out.1
                  have e3 := hI.out.2.1.at 3 rfl (hd 3 rfl)
                  rw [if_pos (by rfl)]
                  go_simp
                  exact hK.out _ _ ⟨(put1 (put1 ub 60 (.bool true)) 61 (.bool true)), ⟨rfl, (hI.out.2.1.same (s := 60) (v := .bool true) e3).upd 4 rfl rfl rfl rfl, hI.out.2.2⟩⟩
                · intro LL a wx hI hLk hd K' hK
                  obtain ⟨ub, hI⟩ := hI
                  obtain rfl := hI.out.1
                  have eg := hI.out.2.1.at 4 rfl (hd 4 rfl)
                  rw [eg]
                  rw [if_pos (by rfl)]
                  go_simp
                  exact hK.out _ _ ⟨(put1 (put1 ub 61 (.bool true)) 62 (.slice (some ad5) x5_2.length c5)), ⟨rfl, (hI.out.2.1.same (s := 61) (v := .bool true) eg).upd 5 rfl rfl rfl rfl, hI.out.2.2⟩⟩
                · intro LL a wx hI hLk hd K' hK
                  obtain ⟨ub, hI⟩ := hI
                  obtain rfl := hI.out.1
                  have eg := hI.out.2.1.at 4 rfl (hd 4 rfl)
                  rw [eg]
                  rw [if_pos (by rfl)]
                  go_simp
                  exact hK.out _ _ ⟨(put1 (put1 ub 61 (.bool true)) 63 (.int .i64 x7_4)), ⟨rfl, (hI.out.2.1.same (s := 61) (v := .bool true) eg).upd 6 rfl rfl rfl rfl, hI.out.2.2⟩⟩
                · intro LL a wx hI hLk hd K' hK
                  obtain ⟨ub, hI⟩ := hI
                  obtain rfl := hI.out.1
                  have e5 := hI.out.2.1.at 5 rfl (hd 5 rfl)
                  have e6 := hI.out.2.1.at 6 rfl (hd 6 rfl)
                  have eg := hI.out.2.1.at 4 rfl (hd 4 rfl)
                  rw [eg]
                  rw [if_pos (by rfl)]
                  go_simp
                  exact hK.out _ _ ⟨(put1 (put1 (put1 (put1 ub 62 (.slice (some ad5) x5_2.length c5)) 63 (.int .i64 x7_4)) 61 (.bool true)) 64 (.pointer (some (ad5.add (x7_4).toNat)))), ⟨rfl, (((hI.out.2.1.same (s := 62) (v := .slice (some ad5) x5_2.length c5) e5).same (s := 63) (v := .int .i64 x7_4) e6).same (s := 61) (v := .bool true) eg).upd 7 rfl rfl rfl rfl, hI.out.2.2⟩⟩
                · intro LL a wx hI hLk hd K' hK
                  obtain ⟨ub, hI⟩ := hI
                  obtain rfl := hI.out.1
                  have e7 := hI.out.2.1.at 7 rfl (hd 7 rfl)
                  have hb := hI.out.2.2
                  have h5 := cell_keep hb.out C5.out
                  have eg := hI.out.2.1.at 4 rfl (hd 4 rfl)
                  rw [eg]
                  rw [if_pos (by rfl)]
                  go_simp
                  exact hK.out _ _ ⟨(put1 (put1 (put1 ub 64 (.pointer (some (ad5.add (x7_4).toNat)))) 61 (.bool true)) 65 (.string s1)), ⟨rfl, ((hI.out.2.1.same (s := 64) (v := .pointer (some (ad5.add (x7_4).toNat))) e7).same (s := 61) (v := .bool true) eg).upd 8 rfl rfl rfl rfl, hI.out.2.2⟩⟩
                · intro LL a wx hI hLk hd K' hK
                  obtain ⟨ub, hI⟩ := hI
                  obtain rfl := hI.out.1
                  have eg := hI.out.2.1.at 4 rfl (hd 4 rfl)
                  rw [eg]
                  rw [if_pos (by rfl)]
                  go_simp
                  exact hK.out _ _ ⟨(put1 (put1 ub 61 (.bool true)) 66 (.slice (some ad0) l0.length c0)), ⟨rfl, (hI.out.2.1.same (s := 61) (v := .bool true) eg).upd 9 rfl rfl rfl rfl, hI.out.2.2⟩⟩
                · intro LL a wx hI hLk hd K' hK
                  obtain ⟨ub, hI⟩ := hI
                  obtain rfl := hI.out.1
                  have eg := hI.out.2.1.at 4 rfl (hd 4 rfl)
                  rw [eg]
                  rw [if_pos (by rfl)]
                  go_simp
                  exact hK.out _ _ ⟨(put1 (put1 ub 61 (.bool true)) 67 (.int .i64 x6_2)), ⟨rfl, (hI.out.2.1.same (s := 61) (v := .bool true) eg).upd 10 rfl rfl rfl rfl, hI.out.2.2⟩⟩
                · intro LL a wx hI hLk hd K' hK
                  obtain ⟨ub, hI⟩ := hI
                  obtain rfl := hI.out.1
                  have e9 := hI.out.2.1.at 9 rfl (hd 9 rfl)
                  have e10 := hI.out.2.1.at 10 rfl (hd 10 rfl)
                  have eg := hI.out.2.1.at 4 rfl (hd 4 rfl)
                  rw [eg]
                  rw [if_pos (by rfl)]
                  go_simp
                  exact hK.out _ _ ⟨(put1 (put1 (put1 (put1 ub 66 (.slice (some ad0) l0.length c0)) 67 (.int .i64 x6_2)) 61 (.bool true)) 68 (.pointer (some (ad0.add (x6_2).toNat)))), ⟨rfl, (((hI.out.2.1.same (s := 66) (v := .slice (some ad0) l0.length c0) e9).same (s := 67) (v := .int .i64 x6_2) e10).same (s := 61) (v := .bool true) eg).upd 11 rfl rfl rfl rfl, hI.out.2.2⟩⟩
                · intro LL a wx hI hLk hd K' hK
                  obtain ⟨ub, hI⟩ := hI
                  obtain rfl := hI.out.1
                  have e11 := hI.out.2.1.at 11 rfl (hd 11 rfl)
                  have hb := hI.out.2.2
                  have h0 := cell_keep hb.out C0.out
                  have eg := hI.out.2.1.at 4 rfl (hd 4 rfl)
                  rw [eg]
                  rw [if_pos (by rfl)]
                  go_simp
                  exact hK.out _ _ ⟨(put1 (put1 (put1 ub 68 (.pointer (some (ad0.add (x6_2).toNat)))) 61 (.bool true)) 69 (.string s2)), ⟨rfl, ((hI.out.2.1.same (s := 68) (v := .pointer (some (ad0.add (x6_2).toNat))) e11).same (s := 61) (v := .bool true) eg).upd 12 rfl rfl rfl rfl, hI.out.2.2⟩⟩
                · intro LL a wx hI hLk hd K' hK
                  obtain ⟨ub, hI⟩ := hI
                  obtain rfl := hI.out.1
                  have e8 := hI.out.2.1.at 8 rfl (hd 8 rfl)
                  have e12 := hI.out.2.1.at 12 rfl (hd 12 rfl)
                  have eg := hI.out.2.1.at 4 rfl (hd 4 rfl)
                  rw [eg]
                  rw [if_pos (by rfl)]
                  go_simp
                  exact hK.out _ _ ⟨(put1 (put1 (put1 (put1 ub 65 (.string s1)) 69 (.string s2)) 61 (.bool true)) 70 (.bool false)), ⟨rfl, (((hI.out.2.1.same (s := 65) (v := .string s1) e8).same (s := 69) (v := .string s2) e12).same (s := 61) (v := .bool true) eg).upd 13 rfl rfl rfl rfl, hI.out.2.2⟩⟩
                · intro LL a wx hI hLk hd K' hK
                  obtain ⟨ub, hI⟩ := hI
                  obtain rfl := hI.out.1
                  have e4 := hI.out.2.1.at 4 rfl (hd 4 rfl)
                  have e13 := hI.out.2.1.at 13 rfl (hd 13 rfl)
                  rw [if_pos (by rfl)]
                  go_simp
                  exact hK.out _ _ ⟨(put1 (put1 (put1 ub 61 (.bool true)) 70 (.bool false)) 71 (.bool false)), ⟨rfl, ((hI.out.2.1.same (s := 61) (v := .bool true) e4).same (s := 70) (v := .bool false) e13).upd 14 rfl rfl rfl rfl, hI.out.2.2⟩⟩
              · intro LL a wb hall hI
                obtain ⟨ub, hI⟩ := hI
                obtain rfl := hI.out.1
                have hb := hI.out.2.2
                have e14 := hI.out.2.1.at 14 rfl (hall 14 (by decide))
                rw [e14]
                have HBw_ub := Aside0.mk hb.out
                clear hI hb e14
                go_wp2_with fail
                have C0 := Aside0.mk (cell_keep HBw_ub.out C0.out)
                have HO5 := Aside0.mk (Kd.R_below (Kd.R_below HO5.out HBw_ua.out) HBw_ub.out)
                have HBS : Aside0 (w.heap.size ≤ wb.heap.size) := ⟨Nat.le_trans HBS.out (Nat.le_trans HBw_ua.out.size HBw_ub.out.size)⟩
                refine wp_region_steps 16 rfl rfl (by kernel_rfl) (fun LL a wx => ∃ x72 : Value, ∃ x76 : Value, ∃ x82 : Value, ∃ x86 : Value, ∃ cur : Value, ∃ x5 : Value, ∃ g81 : Nat, ∃ uc : Nat → Value, Aside0 (a = { tmps := List.toArray (.slice (some ad0) l0.length c0 :: .string a1 :: undef :: undef :: u4 :: uc 5 :: .int .i64 x6_2 :: .int .i64 x7_4 :: undef :: undef :: undef :: u11 :: u12 :: u13 :: u14 :: u15 :: u16 :: u17 :: u18 :: u19 :: .bool false :: u21 :: u22 :: u23 :: u24 :: u25 :: u26 :: u27 :: u28 :: u29 :: u30 :: u31 :: u32 :: u33 :: u34 :: u35 :: u36 :: u37 :: u38 :: .bool false :: ua 40 :: ua 41 :: ua 42 :: ua 43 :: ua 44 :: ua 45 :: ua 46 :: ua 47 :: ua 48 :: ua 49 :: ua 50 :: ua 51 :: ua 52 :: ua 53 :: .bool false :: u55 :: u56 :: ub 57 :: ub 58 :: ub 59 :: ub 60 :: ub 61 :: ub 62 :: ub 63 :: ub 64 :: ub 65 :: ub 66 :: ub 67 :: ub 68 :: ub 69 :: ub 70 :: .bool false :: uc 72 :: uc 73 :: uc 74 :: uc 75 :: uc 76 :: uc 77 :: uc 78 :: uc 79 :: uc 80 :: uc 81 :: uc 82 :: uc 83 :: uc 84 :: uc 85 :: uc 86 :: u87 :: u88 :: u89 :: u90 :: u91 :: u92 :: u93 :: u94 :: u95 :: u96 :: u97 :: u98 :: u99 :: u100 :: u101 :: u102 :: u103 :: u104 :: u105 :: u106 :: u107 :: u108 :: u109 :: u110 :: u111 :: u112 :: u113 :: u114 :: u115 :: u116 :: u117 :: u118 :: u119 :: u120 :: u121 :: u122 :: u123 :: u124 :: u125 :: u126 :: u127 :: u128 :: u129 :: u130 :: u131 :: u132 :: u133 :: u134 :: u135 :: u136 :: u137 :: u138 :: u139 :: u140 :: u141 :: u142 :: u143 :: []), defers := [] } ∧ Tab LL uc [(0, 72, x72), (1, 73, .slice (some ad5) x5_2.length c5), (2, 74, .int .i64 x7_4), (3, 75, .slice (some ad5) (x7_4).toNat c5), (4, 76, x76), (5, 77, .slice (some ad0) l0.length c0), (6, 78, .int .i64 x6_2), (7, 79, .pointer (some (ad0.add (x6_2).toNat))), (8, 80, .string s2), (9, 81, .slice (some ⟨g81, 0, none⟩) 1 1), (10, 82, x82), (11, 83, .slice (some ad5) x5_2.length c5), (12, 84, .int .i64 x7_4), (13, 85, .slice A85 n85 m85), (14, 86, x86), (15, 5, x5)] ∧ Aside0 (Below wb.heap.size wb wx) ∧ Aside0 (LL 15 = false → uc 5 = .slice (some ad5) x5_2.length c5) ∧ Aside0 (LL 15 = true → LL 1 = true ∧ LL 11 = true) ∧ Aside0 (LL 4 = true → LL 0 = true) ∧ Aside0 (LL 10 = true → LL 4 = true) ∧ Aside0 (LL 14 = true → LL 10 = true) ∧ Aside0 (LL 10 = true → LL 9 = true) ∧ Aside0 (LL 0 = true → LL 4 = false → cur = x72 ∧ Kd.R Kd.string 9 wx wb.heap.size (fun _ => True) cur []) ∧ Aside0 (LL 4 = true → LL 10 = false → cur = x76 ∧ Kd.R Kd.string 9 wx wb.heap.size (fun _ => True) cur ([] ++ (x5_2.take (x7_4).toNat))) ∧ Aside0 (LL 10 = true → LL 14 = false → cur = x82 ∧ Kd.R Kd.string 9 wx wb.heap.size (fun _ => True) cur (([] ++ (x5_2.take (x7_4).toNat)) ++ [s2])) ∧ Aside0 (LL 14 = true → cur = x86 ∧ Kd.R Kd.string 9 wx wb.heap.size (fun _ => True) cur ((([] ++ (x5_2.take (x7_4).toNat)) ++ [s2]) ++ (x5_2.drop (x7_4).toNat))) ∧ Aside0 (LL 0 = true → ∀ k, cur.ownBlock = some k → k < wx.heap.size) ∧ Aside0 (LL 9 = true → wx.heap[g81]? = some (.cells #[.string s2] 9 (0, 0)) ∧ (LL 0 = true → cur.ownBlock ≠ some g81)) ∧ Aside0 (LL 15 = true → LL 14 = true ∧ x5 = x86))) ?_ ?_ ?_
                · exact ⟨undef, undef, undef, undef, undef, undef, 0, (put1 (put1 (put1 (put1 (put1 (put1 (put1 (put1 (put1 (put1 (put1 (put1 (put1 (put1 (put1 (put1 (fun _ => undef) 5 (.slice (some ad5) x5_2.length c5)) 72 (u72)) 73 (u73)) 74 (u74)) 75 (u75)) 76 (u76)) 77 (u77)) 78 (u78)) 79 (u79)) 80 (u80)) 81 (u81)) 82 (u82)) 83 (u83)) 84 (u84)) 85 (u85)) 86 (u86)), ⟨rfl, Tab.start 16 rfl rfl, ⟨below_drew (Below.refl _ _)⟩, ⟨fun _ => rfl⟩, ⟨fun h => absurd h (by decide)⟩, ⟨fun h => absurd h (by decide)⟩, ⟨fun h => absurd h (by decide)⟩, ⟨fun h => absurd h (by decide)⟩, ⟨fun h => absurd h (by decide)⟩, ⟨fun h => absurd h (by decide)⟩, ⟨fun h => absurd h (by decide)⟩, ⟨fun h => absurd h (by decide)⟩, ⟨fun h => absurd h (by decide)⟩, ⟨fun h => absurd h (by decide)⟩, ⟨fun h => absurd h (by decide)⟩, ⟨fun h => absurd h (by decide)⟩⟩⟩
                · refine Steps.cons ?_ (Steps.cons ?_ (Steps.cons ?_ (Steps.cons ?_ (Steps.cons ?_ (Steps.cons ?_ (Steps.cons ?_ (Steps.cons ?_ (Steps.cons ?_ (Steps.cons ?_ (Steps.cons ?_ (Steps.cons ?_ (Steps.cons ?_ (Steps.cons ?_ (Steps.cons ?_ (Steps.cons ?_ (Steps.nil))))))))))))))))
                  · intro LL a wx hI hLk hd K' hK
                    obtain ⟨x72, x76, x82, x86, cur, x5, g81, uc, hI⟩ := hI
                    obtain rfl := hI.out.1
                    have hb := hI.out.2.2.1
                    have p4 := hI.out.2.2.2.2.2.1
                    have p10 := hI.out.2.2.2.2.2.2.1
                    have p14 := hI.out.2.2.2.2.2.2.2.1
                    have h81 := hI.out.2.2.2.2.2.2.2.2.2.2.2.2.2.2.1
                    have hb0 := hb.out
                    refine Kd.R_lit_step Kd.string (w0 := wx) wx.heap.size 9 (by rfl) (N := 72) rfl (xs := ([] : List ByteArray)) (inner := []) (ok := fun _ => True) (okp := fun _ => True) (by first | (go_simp; done) | (go_simp; rfl)) (Reps.none _ _) (fun _ hk => hk) trivial (Below.refl _ _) (Nat.le_refl _) (by simp) ?_
                    intro x' w3 ho hb1 hg1 hn1
                    exact hK.out _ _ ⟨x', x76, x82, x86, x', x5, g81, (put1 uc 72 x'), ⟨rfl, hI.out.2.1.upd 0 rfl rfl rfl rfl, ⟨hb.out.grown hg1 hb.out.size (fun q e => by cases e)⟩, hI.out.2.2.2.1, hI.out.2.2.2.2.1, ⟨fun _ => rfl⟩, hI.out.2.2.2.2.2.2.1, hI.out.2.2.2.2.2.2.2.1, hI.out.2.2.2.2.2.2.2.2.1, ⟨fun _ _ => ⟨rfl, Kd.R_lower ho hb.out.size⟩⟩, ⟨fun a => absurd (p4.out a) (by rw [hLk]; decide)⟩, ⟨fun a => absurd (p4.out (p10.out a)) (by rw [hLk]; decide)⟩, ⟨fun a => absurd (p4.out (p10.out (p14.out a))) (by rw [hLk]; decide)⟩, ⟨fun _ => Kd.R_lt ho⟩, ⟨fun h9 => ⟨(hg1.block g81 (blk_lt (h81.out h9).1) (fun e => by cases e)).trans (h81.out h9).1, fun _ e => by have h1 := Kd.R_base ho g81 e; have h2 := blk_lt (h81.out h9).1; omega⟩⟩, hI.out.2.2.2.2.2.2.2.2.2.2.2.2.2.2.2⟩⟩
                  · intro LL a wx hI hLk hd K' hK
                    obtain ⟨x72, x76, x82, x86, cur, x5, g81, uc, hI⟩ := hI
                    obtain rfl := hI.out.1
                    have h5 := hI.out.2.2.2.1
                    have hz := hI.out.2.2.2.2.1
                    have hu : uc 5 = .slice (some ad5) x5_2.length c5 := h5.out (flag_off (fun h => (hz.out h).1) hLk)
                    rw [if_pos (by rfl)]
                    go_simp
                    exact hK.out _ _ ⟨x72, x76, x82, x86, cur, x5, g81, (put1 (put1 uc 5 (.slice (some ad5) x5_2.length c5)) 73 (.slice (some ad5) x5_2.length c5)), ⟨rfl, (hI.out.2.1.same (s := 5) (v := .slice (some ad5) x5_2.length c5) hu).upd 1 rfl rfl rfl rfl, hI.out.2.2.1, ⟨fun _ => rfl⟩, ⟨fun h => ⟨rfl, upd_old (hz.out h).2⟩⟩, hI.out.2.2.2.2.2.1, hI.out.2.2.2.2.2.2.1, hI.out.2.2.2.2.2.2.2.1, hI.out.2.2.2.2.2.2.2.2.1, hI.out.2.2.2.2.2.2.2.2.2.1, hI.out.2.2.2.2.2.2.2.2.2.2.1, hI.out.2.2.2.2.2.2.2.2.2.2.2.1, hI.out.2.2.2.2.2.2.2.2.2.2.2.2.1, hI.out.2.2.2.2.2.2.2.2.2.2.2.2.2.1, hI.out.2.2.2.2.2.2.2.2.2.2.2.2.2.2.1, hI.out.2.2.2.2.2.2.2.2.2.2.2.2.2.2.2⟩⟩
                  · intro LL a wx hI hLk hd K' hK
                    obtain ⟨x72, x76, x82, x86, cur, x5, g81, uc, hI⟩ := hI
                    obtain rfl := hI.out.1
                    rw [if_pos (by rfl)]
                    go_simp
                    exact hK.out _ _ ⟨x72, x76, x82, x86, cur, x5, g81, (put1 uc 74 (.int .i64 x7_4)), ⟨rfl, hI.out.2.1.upd 2 rfl rfl rfl rfl, hI.out.2.2.1, hI.out.2.2.2.1, hI.out.2.2.2.2.1, hI.out.2.2.2.2.2.1, hI.out.2.2.2.2.2.2.1, hI.out.2.2.2.2.2.2.2.1, hI.out.2.2.2.2.2.2.2.2.1, hI.out.2.2.2.2.2.2.2.2.2.1, hI.out.2.2.2.2.2.2.2.2.2.2.1, hI.out.2.2.2.2.2.2.2.2.2.2.2.1, hI.out.2.2.2.2.2.2.2.2.2.2.2.2.1, hI.out.2.2.2.2.2.2.2.2.2.2.2.2.2.1, hI.out.2.2.2.2.2.2.2.2.2.2.2.2.2.2.1, hI.out.2.2.2.2.2.2.2.2.2.2.2.2.2.2.2⟩⟩
                  · intro LL a wx hI hLk hd K' hK
                    obtain ⟨x72, x76, x82, x86, cur, x5, g81, uc, hI⟩ := hI
                    obtain rfl := hI.out.1
                    have e1 := hI.out.2.1.at 1 rfl (hd 1 rfl)
                    have e2 := hI.out.2.1.at 2 rfl (hd 2 rfl)
                    have hcut := HCT.out
                    rw [if_pos (by rfl)]
                    go_simp
                    exact hK.out _ _ ⟨x72, x76, x82, x86, cur, x5, g81, (put1 (put1 (put1 uc 73 (.slice (some ad5) x5_2.length c5)) 74 (.int .i64 x7_4)) 75 (.slice (some ad5) (x7_4).toNat c5)), ⟨rfl, ((hI.out.2.1.same (s := 73) (v := .slice (some ad5) x5_2.length c5) e1).same (s := 74) (v := .int .i64 x7_4) e2).upd 3 rfl rfl rfl rfl, hI.out.2.2.1, hI.out.2.2.2.1, hI.out.2.2.2.2.1, hI.out.2.2.2.2.2.1, hI.out.2.2.2.2.2.2.1, hI.out.2.2.2.2.2.2.2.1, hI.out.2.2.2.2.2.2.2.2.1, hI.out.2.2.2.2.2.2.2.2.2.1, hI.out.2.2.2.2.2.2.2.2.2.2.1, hI.out.2.2.2.2.2.2.2.2.2.2.2.1, hI.out.2.2.2.2.2.2.2.2.2.2.2.2.1, hI.out.2.2.2.2.2.2.2.2.2.2.2.2.2.1, hI.out.2.2.2.2.2.2.2.2.2.2.2.2.2.2.1, hI.out.2.2.2.2.2.2.2.2.2.2.2.2.2.2.2⟩⟩
                  · intro LL a wx hI hLk hd K' hK
                    obtain ⟨x72, x76, x82, x86, cur, x5, g81, uc, hI⟩ := hI
                    obtain rfl := hI.out.1
                    have e0 := hI.out.2.1.at 0 rfl (hd 0 rfl)
                    have e3 := hI.out.2.1.at 3 rfl (hd 3 rfl)
                    have hb := hI.out.2.2.1
                    have h5 := hI.out.2.2.2.1
                    have p10 := hI.out.2.2.2.2.2.2.1
                    have p14 := hI.out.2.2.2.2.2.2.2.1
                    have h0 := hI.out.2.2.2.2.2.2.2.2.2.1
                    have h4 := hI.out.2.2.2.2.2.2.2.2.2.2.1
                    have hlt := hI.out.2.2.2.2.2.2.2.2.2.2.2.2.2.1
                    have h81 := hI.out.2.2.2.2.2.2.2.2.2.2.2.2.2.2.1
                    have hr0 := h0.out (hd 0 rfl) hLk
                    have hq := Kd.R_base hr0.2
                    have hcx := hlt.out (hd 0 rfl)
                    refine Kd.R_append_rows_step Kd.string (Rr := Kd.K Kd.string wx) (w0 := wx) wb.heap.size (by rfl) (.tmp 72) (.tmp 75) 33 9 (.string ⟨#[]⟩) 16 rfl Try.underlying33 info9 rfl (by decide) (by omega) cur [] (x5_2.take (x7_4).toNat) (some ad5) (x7_4).toNat c5 (fun _ => True) (fun _ => False) (e0.trans hr0.1.symm) e3 (hr0.2) (HCK.out _ (Kd.R_below HO5.out hb.out)) (fun _ _ h => h) (fun _ h => h.elim) (fun _ _ => trivial) (Below.refl _ _) hb.out.size HLN.out.1 ?_
                    intro x' w3 ho hb1 hg1 hat1
                    exact hK.out _ _ ⟨x72, x', x82, x86, x', x5, g81, (put1 uc 76 x'), ⟨rfl, hI.out.2.1.upd 4 rfl rfl rfl rfl, ⟨hb.out.grown hg1 hb.out.size (fun q e => hq q e)⟩, hI.out.2.2.2.1, hI.out.2.2.2.2.1, ⟨fun _ => hd 0 rfl⟩, ⟨fun _ => rfl⟩, hI.out.2.2.2.2.2.2.2.1, hI.out.2.2.2.2.2.2.2.2.1, ⟨fun _ b => Bool.noConfusion (show true = false from b)⟩, ⟨fun _ _ => ⟨rfl, ho⟩⟩, ⟨fun a => absurd (p10.out a) (by rw [hLk]; decide)⟩, ⟨fun a => absurd (p10.out (p14.out a)) (by rw [hLk]; decide)⟩, ⟨fun _ => Kd.R_lt ho⟩, ⟨fun h9 => ⟨(hg1.block g81 (blk_lt (h81.out h9).1) (fun e => (h81.out h9).2 (hd 0 rfl) e.symm)).trans (h81.out h9).1, fun _ e => by rcases hat1 with h2 | ⟨b, h2, h3⟩; exact (h81.out h9).2 (hd 0 rfl) (h2.symm.trans e); have h4 := h2.symm.trans e; injection h4 with h4; have h5 := blk_lt (h81.out h9).1; omega⟩⟩, hI.out.2.2.2.2.2.2.2.2.2.2.2.2.2.2.2⟩⟩
                  · intro LL a wx hI hLk hd K' hK
                    obtain ⟨x72, x76, x82, x86, cur, x5, g81, uc, hI⟩ := hI
                    obtain rfl := hI.out.1
                    rw [if_pos (by rfl)]
                    go_simp
                    exact hK.out _ _ ⟨x72, x76, x82, x86, cur, x5, g81, (put1 uc 77 (.slice (some ad0) l0.length c0)), ⟨rfl, hI.out.2.1.upd 5 rfl rfl rfl rfl, hI.out.2.2.1, hI.out.2.2.2.1, hI.out.2.2.2.2.1, hI.out.2.2.2.2.2.1, hI.out.2.2.2.2.2.2.1, hI.out.2.2.2.2.2.2.2.1, hI.out.2.2.2.2.2.2.2.2.1, hI.out.2.2.2.2.2.2.2.2.2.1, hI.out.2.2.2.2.2.2.2.2.2.2.1, hI.out.2.2.2.2.2.2.2.2.2.2.2.1, hI.out.2.2.2.2.2.2.2.2.2.2.2.2.1, hI.out.2.2.2.2.2.2.2.2.2.2.2.2.2.1, hI.out.2.2.2.2.2.2.2.2.2.2.2.2.2.2.1, hI.out.2.2.2.2.2.2.2.2.2.2.2.2.2.2.2⟩⟩
                  · intro LL a wx hI hLk hd K' hK
                    obtain ⟨x72, x76, x82, x86, cur, x5, g81, uc, hI⟩ := hI
                    obtain rfl := hI.out.1
                    rw [if_pos (by rfl)]
                    go_simp
                    exact hK.out _ _ ⟨x72, x76, x82, x86, cur, x5, g81, (put1 uc 78 (.int .i64 x6_2)), ⟨rfl, hI.out.2.1.upd 6 rfl rfl rfl rfl, hI.out.2.2.1, hI.out.2.2.2.1, hI.out.2.2.2.2.1, hI.out.2.2.2.2.2.1, hI.out.2.2.2.2.2.2.1, hI.out.2.2.2.2.2.2.2.1, hI.out.2.2.2.2.2.2.2.2.1, hI.out.2.2.2.2.2.2.2.2.2.1, hI.out.2.2.2.2.2.2.2.2.2.2.1, hI.out.2.2.2.2.2.2.2.2.2.2.2.1, hI.out.2.2.2.2.2.2.2.2.2.2.2.2.1, hI.out.2.2.2.2.2.2.2.2.2.2.2.2.2.1, hI.out.2.2.2.2.2.2.2.2.2.2.2.2.2.2.1, hI.out.2.2.2.2.2.2.2.2.2.2.2.2.2.2.2⟩⟩
                  · intro LL a wx hI hLk hd K' hK
                    obtain ⟨x72, x76, x82, x86, cur, x5, g81, uc, hI⟩ := hI
                    obtain rfl := hI.out.1
                    have e5 := hI.out.2.1.at 5 rfl (hd 5 rfl)
                    have e6 := hI.out.2.1.at 6 rfl (hd 6 rfl)
                    rw [if_pos (by rfl)]
                    go_simp
                    exact hK.out _ _ ⟨x72, x76, x82, x86, cur, x5, g81, (put1 (put1 (put1 uc 77 (.slice (some ad0) l0.length c0)) 78 (.int .i64 x6_2)) 79 (.pointer (some (ad0.add (x6_2).toNat)))), ⟨rfl, ((hI.out.2.1.same (s := 77) (v := .slice (some ad0) l0.length c0) e5).same (s := 78) (v := .int .i64 x6_2) e6).upd 7 rfl rfl rfl rfl, hI.out.2.2.1, hI.out.2.2.2.1, hI.out.2.2.2.2.1, hI.out.2.2.2.2.2.1, hI.out.2.2.2.2.2.2.1, hI.out.2.2.2.2.2.2.2.1, hI.out.2.2.2.2.2.2.2.2.1, hI.out.2.2.2.2.2.2.2.2.2.1, hI.out.2.2.2.2.2.2.2.2.2.2.1, hI.out.2.2.2.2.2.2.2.2.2.2.2.1, hI.out.2.2.2.2.2.2.2.2.2.2.2.2.1, hI.out.2.2.2.2.2.2.2.2.2.2.2.2.2.1, hI.out.2.2.2.2.2.2.2.2.2.2.2.2.2.2.1, hI.out.2.2.2.2.2.2.2.2.2.2.2.2.2.2.2⟩⟩
                  · intro LL a wx hI hLk hd K' hK
                    obtain ⟨x72, x76, x82, x86, cur, x5, g81, uc, hI⟩ := hI
                    obtain rfl := hI.out.1
                    have e7 := hI.out.2.1.at 7 rfl (hd 7 rfl)
                    have hb := hI.out.2.2.1
                    have h0c := cell_keep hb.out C0.out
                    rw [if_pos (by rfl)]
                    go_simp
                    exact hK.out _ _ ⟨x72, x76, x82, x86, cur, x5, g81, (put1 (put1 uc 79 (.pointer (some (ad0.add (x6_2).toNat)))) 80 (.string s2)), ⟨rfl, (hI.out.2.1.same (s := 79) (v := .pointer (some (ad0.add (x6_2).toNat))) e7).upd 8 rfl rfl rfl rfl, hI.out.2.2.1, hI.out.2.2.2.1, hI.out.2.2.2.2.1, hI.out.2.2.2.2.2.1, hI.out.2.2.2.2.2.2.1, hI.out.2.2.2.2.2.2.2.1, hI.out.2.2.2.2.2.2.2.2.1, hI.out.2.2.2.2.2.2.2.2.2.1, hI.out.2.2.2.2.2.2.2.2.2.2.1, hI.out.2.2.2.2.2.2.2.2.2.2.2.1, hI.out.2.2.2.2.2.2.2.2.2.2.2.2.1, hI.out.2.2.2.2.2.2.2.2.2.2.2.2.2.1, hI.out.2.2.2.2.2.2.2.2.2.2.2.2.2.2.1, hI.out.2.2.2.2.2.2.2.2.2.2.2.2.2.2.2⟩⟩
                  · intro LL a wx hI hLk hd K' hK
                    obtain ⟨x72, x76, x82, x86, cur, x5, g81, uc, hI⟩ := hI
                    obtain rfl := hI.out.1
                    have e8 := hI.out.2.1.at 8 rfl (hd 8 rfl)
                    have hb := hI.out.2.2.1
                    have p14 := hI.out.2.2.2.2.2.2.2.1
                    have q10 := hI.out.2.2.2.2.2.2.2.2.1
                    have h0 := hI.out.2.2.2.2.2.2.2.2.2.1
                    have h4 := hI.out.2.2.2.2.2.2.2.2.2.2.1
                    have hlt := hI.out.2.2.2.2.2.2.2.2.2.2.2.2.2.1
                    rw [if_pos (by rfl)]
                    go_simp
                    exact hK.out _ _ ⟨x72, x76, x82, x86, cur, x5, wx.heap.size, (put1 (put1 uc 80 (.string s2)) 81 (.slice (some ⟨wx.heap.size, 0, none⟩) 1 1)), ⟨rfl, (hI.out.2.1.same (s := 80) (v := .string s2) e8).upd 9 rfl rfl rfl rfl, ⟨below_alloc hb.out _⟩, hI.out.2.2.2.1, hI.out.2.2.2.2.1, hI.out.2.2.2.2.2.1, hI.out.2.2.2.2.2.2.1, hI.out.2.2.2.2.2.2.2.1, ⟨fun _ => rfl⟩, ⟨fun a b => ⟨(h0.out a b).1, Kd.R_alloc (h0.out a b).2 _⟩⟩, ⟨fun a b => ⟨(h4.out a b).1, Kd.R_alloc (h4.out a b).2 _⟩⟩, ⟨fun a => absurd (q10.out a) (by rw [hLk]; decide)⟩, ⟨fun a => absurd (q10.out (p14.out a)) (by rw [hLk]; decide)⟩, ⟨fun a k e => Nat.lt_of_lt_of_le (hlt.out a k e) (below_alloc (Below.refl wx.heap.size wx) _).size⟩, ⟨fun _ => ⟨by simpa using heap_alloc_new wx _, fun a e => Nat.lt_irrefl _ (hlt.out a _ e)⟩⟩, hI.out.2.2.2.2.2.2.2.2.2.2.2.2.2.2.2⟩⟩
                  · intro LL a wx hI hLk hd K' hK
                    obtain ⟨x72, x76, x82, x86, cur, x5, g81, uc, hI⟩ := hI
                    obtain rfl := hI.out.1
                    have e4 := hI.out.2.1.at 4 rfl (hd 4 rfl)
                    have e9 := hI.out.2.1.at 9 rfl (hd 9 rfl)
                    have hb := hI.out.2.2.1
                    have h5 := hI.out.2.2.2.1
                    have p4 := hI.out.2.2.2.2.2.1
                    have p14 := hI.out.2.2.2.2.2.2.2.1
                    have h4 := hI.out.2.2.2.2.2.2.2.2.2.2.1
                    have hlt := hI.out.2.2.2.2.2.2.2.2.2.2.2.2.2.1
                    have h81 := hI.out.2.2.2.2.2.2.2.2.2.2.2.2.2.2.1
                    have hr0 := h4.out (hd 4 rfl) hLk
                    have hq := Kd.R_base hr0.2
                    have hcx := hlt.out (p4.out (hd 4 rfl))
                    refine Kd.R_append_rows_step Kd.string (Rr := Kd.K Kd.string wx) (w0 := wx) wb.heap.size (by rfl) (.tmp 76) (.tmp 81) 33 9 (.string ⟨#[]⟩) 16 rfl Try.underlying33 info9 rfl (by decide) (by omega) cur ([] ++ (x5_2.take (x7_4).toNat)) [s2] (some ⟨g81, 0, none⟩) 1 1 (fun _ => True) (fun _ => False) (e4.trans hr0.1.symm) e9 (hr0.2) (row1 (h81.out (hd 9 rfl)).1) (fun _ _ h => h) (fun _ h => h.elim) (fun _ _ => trivial) (Below.refl _ _) hb.out.size HLN.out.2.1 ?_
                    intro x' w3 ho hb1 hg1 hat1
                    exact hK.out _ _ ⟨x72, x76, x', x86, x', x5, g81, (put1 uc 82 x'), ⟨rfl, hI.out.2.1.upd 10 rfl rfl rfl rfl, ⟨hb.out.grown hg1 hb.out.size (fun q e => hq q e)⟩, hI.out.2.2.2.1, hI.out.2.2.2.2.1, hI.out.2.2.2.2.2.1, ⟨fun _ => hd 4 rfl⟩, ⟨fun _ => rfl⟩, ⟨fun _ => hd 9 rfl⟩, ⟨fun _ b => absurd (hd 4 rfl) (by rw [show LL 4 = false from b]; decide)⟩, ⟨fun _ b => Bool.noConfusion (show true = false from b)⟩, ⟨fun _ _ => ⟨rfl, ho⟩⟩, ⟨fun a => absurd (p14.out a) (by rw [hLk]; decide)⟩, ⟨fun _ => Kd.R_lt ho⟩, ⟨fun h9 => ⟨(hg1.block g81 (blk_lt (h81.out h9).1) (fun e => (h81.out h9).2 (p4.out (hd 4 rfl)) e.symm)).trans (h81.out h9).1, fun _ e => by rcases hat1 with h2 | ⟨b, h2, h3⟩; exact (h81.out h9).2 (p4.out (hd 4 rfl)) (h2.symm.trans e); have h4 := h2.symm.trans e; injection h4 with h4; have h5 := blk_lt (h81.out h9).1; omega⟩⟩, hI.out.2.2.2.2.2.2.2.2.2.2.2.2.2.2.2⟩⟩
                  · intro LL a wx hI hLk hd K' hK
                    obtain ⟨x72, x76, x82, x86, cur, x5, g81, uc, hI⟩ := hI
                    obtain rfl := hI.out.1
                    have h5 := hI.out.2.2.2.1
                    have hz := hI.out.2.2.2.2.1
                    have hu : uc 5 = .slice (some ad5) x5_2.length c5 := h5.out (flag_off (fun h => (hz.out h).2) hLk)
                    rw [if_pos (by rfl)]
                    go_simp
                    exact hK.out _ _ ⟨x72, x76, x82, x86, cur, x5, g81, (put1 (put1 uc 5 (.slice (some ad5) x5_2.length c5)) 83 (.slice (some ad5) x5_2.length c5)), ⟨rfl, (hI.out.2.1.same (s := 5) (v := .slice (some ad5) x5_2.length c5) hu).upd 11 rfl rfl rfl rfl, hI.out.2.2.1, ⟨fun _ => rfl⟩, ⟨fun h => ⟨upd_old (hz.out h).1, rfl⟩⟩, hI.out.2.2.2.2.2.1, hI.out.2.2.2.2.2.2.1, hI.out.2.2.2.2.2.2.2.1, hI.out.2.2.2.2.2.2.2.2.1, hI.out.2.2.2.2.2.2.2.2.2.1, hI.out.2.2.2.2.2.2.2.2.2.2.1, hI.out.2.2.2.2.2.2.2.2.2.2.2.1, hI.out.2.2.2.2.2.2.2.2.2.2.2.2.1, hI.out.2.2.2.2.2.2.2.2.2.2.2.2.2.1, hI.out.2.2.2.2.2.2.2.2.2.2.2.2.2.2.1, hI.out.2.2.2.2.2.2.2.2.2.2.2.2.2.2.2⟩⟩
                  · intro LL a wx hI hLk hd K' hK
                    obtain ⟨x72, x76, x82, x86, cur, x5, g81, uc, hI⟩ := hI
                    obtain rfl := hI.out.1
                    rw [if_pos (by rfl)]
                    go_simp
                    exact hK.out _ _ ⟨x72, x76, x82, x86, cur, x5, g81, (put1 uc 84 (.int .i64 x7_4)), ⟨rfl, hI.out.2.1.upd 12 rfl rfl rfl rfl, hI.out.2.2.1, hI.out.2.2.2.1, hI.out.2.2.2.2.1, hI.out.2.2.2.2.2.1, hI.out.2.2.2.2.2.2.1, hI.out.2.2.2.2.2.2.2.1, hI.out.2.2.2.2.2.2.2.2.1, hI.out.2.2.2.2.2.2.2.2.2.1, hI.out.2.2.2.2.2.2.2.2.2.2.1, hI.out.2.2.2.2.2.2.2.2.2.2.2.1, hI.out.2.2.2.2.2.2.2.2.2.2.2.2.1, hI.out.2.2.2.2.2.2.2.2.2.2.2.2.2.1, hI.out.2.2.2.2.2.2.2.2.2.2.2.2.2.2.1, hI.out.2.2.2.2.2.2.2.2.2.2.2.2.2.2.2⟩⟩
                  · intro LL a wx hI hLk hd K' hK
                    obtain ⟨x72, x76, x82, x86, cur, x5, g81, uc, hI⟩ := hI
                    obtain rfl := hI.out.1
                    have e11 := hI.out.2.1.at 11 rfl (hd 11 rfl)
                    have e12 := hI.out.2.1.at 12 rfl (hd 12 rfl)
                    have hcut := HCF.out
                    rw [if_pos (by rfl)]
                    go_simp
                    exact hK.out _ _ ⟨x72, x76, x82, x86, cur, x5, g81, (put1 (put1 (put1 uc 83 (.slice (some ad5) x5_2.length c5)) 84 (.int .i64 x7_4)) 85 (.slice A85 n85 m85)), ⟨rfl, ((hI.out.2.1.same (s := 83) (v := .slice (some ad5) x5_2.length c5) e11).same (s := 84) (v := .int .i64 x7_4) e12).upd 13 rfl rfl rfl rfl, hI.out.2.2.1, hI.out.2.2.2.1, hI.out.2.2.2.2.1, hI.out.2.2.2.2.2.1, hI.out.2.2.2.2.2.2.1, hI.out.2.2.2.2.2.2.2.1, hI.out.2.2.2.2.2.2.2.2.1, hI.out.2.2.2.2.2.2.2.2.2.1, hI.out.2.2.2.2.2.2.2.2.2.2.1, hI.out.2.2.2.2.2.2.2.2.2.2.2.1, hI.out.2.2.2.2.2.2.2.2.2.2.2.2.1, hI.out.2.2.2.2.2.2.2.2.2.2.2.2.2.1, hI.out.2.2.2.2.2.2.2.2.2.2.2.2.2.2.1, hI.out.2.2.2.2.2.2.2.2.2.2.2.2.2.2.2⟩⟩
                  · intro LL a wx hI hLk hd K' hK
                    obtain ⟨x72, x76, x82, x86, cur, x5, g81, uc, hI⟩ := hI
                    obtain rfl := hI.out.1
                    have e10 := hI.out.2.1.at 10 rfl (hd 10 rfl)
                    have e13 := hI.out.2.1.at 13 rfl (hd 13 rfl)
                    have hb := hI.out.2.2.1
                    have h5 := hI.out.2.2.2.1
                    have p4 := hI.out.2.2.2.2.2.1
                    have p10 := hI.out.2.2.2.2.2.2.1
                    have h4 := hI.out.2.2.2.2.2.2.2.2.2.2.1
                    have h10 := hI.out.2.2.2.2.2.2.2.2.2.2.2.1
                    have hlt := hI.out.2.2.2.2.2.2.2.2.2.2.2.2.2.1
                    have h81 := hI.out.2.2.2.2.2.2.2.2.2.2.2.2.2.2.1
                    have h15 := hI.out.2.2.2.2.2.2.2.2.2.2.2.2.2.2.2
                    have hr0 := h10.out (hd 10 rfl) hLk
                    have hq := Kd.R_base hr0.2
                    have hcx := hlt.out (p4.out (p10.out (hd 10 rfl)))
                    refine Kd.R_append_rows_step Kd.string (Rr := Kd.K Kd.string wx) (w0 := wx) wb.heap.size (by rfl) (.tmp 82) (.tmp 85) 33 9 (.string ⟨#[]⟩) 16 rfl Try.underlying33 info9 rfl (by decide) (by omega) cur (([] ++ (x5_2.take (x7_4).toNat)) ++ [s2]) (x5_2.drop (x7_4).toNat) A85 n85 m85 (fun _ => True) (fun _ => False) (e10.trans hr0.1.symm) e13 (hr0.2) (HCD.out _ (Kd.R_below HO5.out hb.out)) (fun _ _ h => h) (fun _ h => h.elim) (fun _ _ => trivial) (Below.refl _ _) hb.out.size HLN.out.2.2 ?_
                    intro x' w3 ho hb1 hg1 hat1
                    exact hK.out _ _ ⟨x72, x76, x82, x', x', x5, g81, (put1 uc 86 x'), ⟨rfl, hI.out.2.1.upd 14 rfl rfl rfl rfl, ⟨hb.out.grown hg1 hb.out.size (fun q e => hq q e)⟩, hI.out.2.2.2.1, hI.out.2.2.2.2.1, hI.out.2.2.2.2.2.1, hI.out.2.2.2.2.2.2.1, ⟨fun _ => hd 10 rfl⟩, hI.out.2.2.2.2.2.2.2.2.1, ⟨fun _ b => absurd (p10.out (hd 10 rfl)) (by rw [show LL 4 = false from b]; decide)⟩, ⟨fun _ b => absurd (hd 10 rfl) (by rw [show LL 10 = false from b]; decide)⟩, ⟨fun _ b => Bool.noConfusion (show true = false from b)⟩, ⟨fun _ => ⟨rfl, ho⟩⟩, ⟨fun _ => Kd.R_lt ho⟩, ⟨fun h9 => ⟨(hg1.block g81 (blk_lt (h81.out h9).1) (fun e => (h81.out h9).2 (p4.out (p10.out (hd 10 rfl))) e.symm)).trans (h81.out h9).1, fun _ e => by rcases hat1 with h2 | ⟨b, h2, h3⟩; exact (h81.out h9).2 (p4.out (p10.out (hd 10 rfl))) (h2.symm.trans e); have h4 := h2.symm.trans e; injection h4 with h4; have h5 := blk_lt (h81.out h9).1; omega⟩⟩, ⟨fun a => absurd (h15.out a).1 (by rw [hLk]; decide)⟩⟩⟩
                  · intro LL a wx hI hLk hd K' hK
                    obtain ⟨x72, x76, x82, x86, cur, x5, g81, uc, hI⟩ := hI
                    obtain rfl := hI.out.1
                    have e14 := hI.out.2.1.at 14 rfl (hd 14 rfl)
                    rw [if_pos (by rfl)]
                    go_simp
                    exact hK.out _ _ ⟨x72, x76, x82, x86, cur, x86, g81, (put1 (put1 uc 86 (x86)) 5 (x86)), ⟨rfl, (hI.out.2.1.same (s := 86) (v := x86) e14).upd 15 rfl rfl rfl rfl, hI.out.2.2.1, ⟨fun b => Bool.noConfusion (show true = false from b)⟩, ⟨fun _ => ⟨hd 1 rfl, hd 11 rfl⟩⟩, hI.out.2.2.2.2.2.1, hI.out.2.2.2.2.2.2.1, hI.out.2.2.2.2.2.2.2.1, hI.out.2.2.2.2.2.2.2.2.1, hI.out.2.2.2.2.2.2.2.2.2.1, hI.out.2.2.2.2.2.2.2.2.2.2.1, hI.out.2.2.2.2.2.2.2.2.2.2.2.1, hI.out.2.2.2.2.2.2.2.2.2.2.2.2.1, hI.out.2.2.2.2.2.2.2.2.2.2.2.2.2.1, hI.out.2.2.2.2.2.2.2.2.2.2.2.2.2.2.1, ⟨fun _ => ⟨hd 14 rfl, rfl⟩⟩⟩⟩
                · intro LL a wc_ hall hI
                  obtain ⟨x72, x76, x82, x86, cur, x5, g81, uc, hI⟩ := hI
                  obtain rfl := hI.out.1
                  have hb := hI.out.2.2.1
                  have h5 := hI.out.2.2.2.1
                  have hz := hI.out.2.2.2.2.1
                  have p4 := hI.out.2.2.2.2.2.1
                  have p10 := hI.out.2.2.2.2.2.2.1
                  have p14 := hI.out.2.2.2.2.2.2.2.1
                  have q10 := hI.out.2.2.2.2.2.2.2.2.1
                  have h0 := hI.out.2.2.2.2.2.2.2.2.2.1
                  have h4 := hI.out.2.2.2.2.2.2.2.2.2.2.1
                  have h10 := hI.out.2.2.2.2.2.2.2.2.2.2.2.1
                  have h14 := hI.out.2.2.2.2.2.2.2.2.2.2.2.2.1
                  have hlt := hI.out.2.2.2.2.2.2.2.2.2.2.2.2.2.1
                  have h81 := hI.out.2.2.2.2.2.2.2.2.2.2.2.2.2.2.1
                  have h15 := hI.out.2.2.2.2.2.2.2.2.2.2.2.2.2.2.2
                  have e15 := hI.out.2.1.at 15 rfl (hall 15 (by decide))
                  rw [e15]
                  have HO6 : Aside0 (Kd.R Kd.string 9 wc_ w.heap.size (fun _ => True) x5 ((([] ++ (x5_2.take (x7_4).toNat)) ++ [s2]) ++ (x5_2.drop (x7_4).toNat))) := ⟨by rw [(h15.out (hall 15 (by decide))).2, ← (h14.out (hall 14 (by decide))).1]; exact Kd.R_lower (h14.out (hall 14 (by decide))).2 HBS.out⟩
                  have HBw_uc := Aside0.mk hb.out
                  clear hI e15 hb h5 hz p4 p10 p14 q10 h0 h4 h10 h14 hlt h81 h15
                  go_wp2
                  go_roundg k4
                  case measure => have := HJ4.out; have := HK2.out; have := HJ9.out; have := HK4.out; omega
                  case rel => exact ⟨((([] ++ (x5_2.take (x7_4).toNat)) ++ [s2]) ++ (x5_2.drop (x7_4).toNat)), (wrap64 (x6_2 + 1)), (by first | rfl | (simp; done) | (simp [*]; done)), H', ⟨by have := HJ4.out; have := HK2.out; have := HJ9.out; have := HK4.out; omega⟩, HO6, ⟨below_step (below_step (below_step (HB.out) HBw_ua.out) HBw_ub.out) HBw_uc.out⟩⟩
          · have H := bsome (ineg c14 H)
            try dsimp only at H
            by_cases c15 : 0 ≤ x7_4
            case neg => have H := ineg c15 H; cases H
            replace H := ipos c15 H
            by_cases c26 : x7_4 ≤ (x5_2.length : Int)
            case neg => have H := ineg c26 H; cases H
            replace H := ipos c26 H
            replace H := bsome H
            try dsimp only at H
            by_cases y1 : ([] : List ByteArray).length + (x5_2.take (x7_4).toNat).length < 8796093022208
            case neg => have H := ineg y1 H; cases H
            replace H := bsome (ipos y1 H)
            try dsimp only at H
            by_cases c16 : 0 ≤ x6_2
            case neg => have H := ineg c16 H; cases H
            replace H := ipos c16 H
            by_cases c17 : x6_2 < (l0.length : Int)
            case neg => have H := ineg c17 H; cases H
            replace H := ipos c17 H
            obtain ⟨s2, hs2⟩ : ∃ s, s = rdOf ByteArray.empty l0 x6_2 := ⟨_, rfl⟩
            rw [← hs2] at H
            replace H := bsome H
            try dsimp only at H
            by_cases y2 : ([] ++ (x5_2.take (x7_4).toNat)).length + [s2].length < 8796093022208
            case neg => have H := ineg y2 H; cases H
            replace H := ipos y2 H
            replace H := bsome H
            try dsimp only at H
            replace H := bsome H
            try dsimp only at H
            by_cases y3 : (([] ++ (x5_2.take (x7_4).toNat)) ++ [s2]).length + (x5_2.drop (x7_4).toNat).length < 8796093022208
            case neg => have H := ineg y3 H; cases H
            replace H := ipos y3 H
            have H' := Aside0.mk H
            clear H
            obtain ⟨A5, c5, e5, hcap5, _⟩ := Kd.R_reads HO_5.out
            subst e5
            obtain ⟨ad0, q0, hx0⟩ := Kd.at_string HR0.out x6_2 c16 c17
            cases q0
            have hx0 := cell_keep HB.out hx0
            rw [← hs2] at hx0
            have C0 := Aside0.mk hx0
            have HO5 := HO_5
            have HCAP := Aside0.mk hcap5
            have HBS : Aside0 (w.heap.size ≤ wr.heap.size) := ⟨HB.out.size⟩
            clear hx0 hcap5
            clear hs2
            have r7 : (x7_4 < (x5_2.length : Int)) = False := eq_false c14
            have r16 : ((0 : Int) ≤ x6_2) = True := eq_true c16
            have r17 : (x6_2 < (l0.length : Int)) = True := eq_true c17
            obtain ⟨i9, hi9, _, hsz9, _⟩ := info_parts info9
            have HCT := Aside0.mk (cut_to (P := Try.prog) 33 9 .i64 Try.underlying33 hi9 A5 x5_2.length c5 x7_4 c15 c26 HCAP.out)
            have HCF0 := cut_from (P := Try.prog) 33 9 .i64 Try.underlying33 hi9 1 hsz9 A5 x5_2.length c5 x7_4 c15 c26
            obtain ⟨A85, hA85⟩ : ∃ A : Option Addr, A = (if c5 = (x7_4).toNat then A5 else (A5 : Option Addr).map (·.add ((x7_4).toNat * 1))) := ⟨_, rfl⟩
            obtain ⟨n85, hn85⟩ : ∃ n : Nat, n = x5_2.length - (x7_4).toNat := ⟨_, rfl⟩
            obtain ⟨m85, hm85⟩ : ∃ n : Nat, n = c5 - (x7_4).toNat := ⟨_, rfl⟩
            have HCD : Aside0 (∀ wx, Kd.R Kd.string 9 wx w.heap.size (fun _ => True) (.slice A5 x5_2.length c5) x5_2 → Kd.C Kd.string wx A85 n85 (x5_2.drop (x7_4).toNat)) := ⟨fun wx hr => by have := Kd.C_drop (m := (x7_4).toNat) (c := c5) (Kd.R_reads' hr).2.2 (by omega) HCAP.out; rw [List.length_drop] at this; rw [hA85, hn85]; exact this⟩
            have HCK : Aside0 (∀ wx, Kd.R Kd.string 9 wx w.heap.size (fun _ => True) (.slice A5 x5_2.length c5) x5_2 → Kd.C Kd.string wx A5 (x7_4).toNat (x5_2.take (x7_4).toNat)) := ⟨fun wx hr => by have := Kd.C_take (m := (x7_4).toNat) (Kd.R_reads' hr).2.2 (by omega); rw [List.length_take, Nat.min_eq_left (by omega)] at this; exact this⟩
            rw [← hA85, ← hn85, ← hm85] at HCF0
            have HCF := Aside0.mk HCF0
            have HLN : Aside0 ((([] : List ByteArray).length + (x7_4).toNat) * 16 ≤ 140737488355328 ∧ (([] ++ (x5_2.take (x7_4).toNat)).length + 1) * 16 ≤ 140737488355328 ∧ ((([] ++ (x5_2.take (x7_4).toNat)) ++ [s2]).length + n85) * 16 ≤ 140737488355328) := ⟨by have h1 := y1; have h2 := y2; have h3 := y3; simp only [List.length_append, List.length_take, List.length_drop, List.length_nil, List.length_cons] at h1 h2 h3 ⊢; omega⟩
            clear HCF0 hA85 hn85 hm85 hi9 hsz9 y1 y2 y3 c26
            go_wp2_with fail
            refine wp_region_steps 15 rfl rfl (by kernel_rfl) (fun LL a wx => ∃ ua : Nat → Value, Aside0 (a = { tmps := List.toArray (.slice (some ad0) l0.length c0 :: .string a1 :: undef :: undef :: u4 :: .slice A5 x5_2.length c5 :: .int .i64 x6_2 :: .int .i64 x7_4 :: undef :: undef :: undef :: u11 :: u12 :: u13 :: u14 :: u15 :: u16 :: u17 :: u18 :: u19 :: .bool false :: u21 :: u22 :: u23 :: u24 :: u25 :: u26 :: u27 :: u28 :: u29 :: u30 :: u31 :: u32 :: u33 :: u34 :: u35 :: u36 :: u37 :: u38 :: .bool false :: ua 40 :: ua 41 :: ua 42 :: ua 43 :: ua 44 :: ua 45 :: ua 46 :: ua 47 :: ua 48 :: ua 49 :: ua 50 :: ua 51 :: ua 52 :: ua 53 :: ua 54 :: u55 :: u56 :: u57 :: u58 :: u59 :: u60 :: u61 :: u62 :: u63 :: u64 :: u65 :: u66 :: u67 :: u68 :: u69 :: u70 :: u71 :: u72 :: u73 :: u74 :: u75 :: u76 :: u77 :: u78 :: u79 :: u80 :: u81 :: u82 :: u83 :: u84 :: u85 :: u86 :: u87 :: u88 :: u89 :: u90 :: u91 :: u92 :: u93 :: u94 :: u95 :: u96 :: u97 :: u98 :: u99 :: u100 :: u101 :: u102 :: u103 :: u104 :: u105 :: u106 :: u107 :: u108 :: u109 :: u110 :: u111 :: u112 :: u113 :: u114 :: u115 :: u116 :: u117 :: u118 :: u119 :: u120 :: u121 :: u122 :: u123 :: u124 :: u125 :: u126 :: u127 :: u128 :: u129 :: u130 :: u131 :: u132 :: u133 :: u134 :: u135 :: u136 :: u137 :: u138 :: u139 :: u140 :: u141 :: u142 :: u143 :: []), defers := [] } ∧ Tab LL ua [(0, 40, .int .i64 x7_4), (1, 41, .slice A5 x5_2.length c5), (2, 42, .int .i64 (x5_2.length : Int)), (3, 43, .bool false), (4, 44, .bool false), (5, 45, undef), (6, 46, undef), (7, 47, undef), (8, 48, undef), (9, 49, undef), (10, 50, undef), (11, 51, undef), (12, 52, undef), (13, 53, undef), (14, 54, .bool false)] ∧ Aside0 (Below wr.heap.size wr wx))) ?_ ?_ ?_
            · exact ⟨(put1 (put1 (put1 (put1 (put1 (put1 (put1 (put1 (put1 (put1 (put1 (put1 (put1 (put1 (put1 (fun _ => undef) 40 (u40)) 41 (u41)) 42 (u42)) 43 (u43)) 44 (u44)) 45 (u45)) 46 (u46)) 47 (u47)) 48 (u48)) 49 (u49)) 50 (u50)) 51 (u51)) 52 (u52)) 53 (u53)) 54 (u54)), ⟨rfl, Tab.start 15 rfl rfl, ⟨below_drew (Below.refl _ _)⟩⟩⟩
            · refine Steps.cons ?_ (Steps.cons ?_ (Steps.cons ?_ (Steps.cons ?_ (Steps.cons ?_ (Steps.cons ?_ (Steps.cons ?_ (Steps.cons ?_ (Steps.cons ?_ (Steps.cons ?_ (Steps.cons ?_ (Steps.cons ?_ (Steps.cons ?_ (Steps.cons ?_ (Steps.cons ?_ (Steps.nil)))))))))))))))
              · intro LL a wx hI hLk hd K' hK
                obtain ⟨ua, hI⟩ := hI
                obtain rfl := hI.out.1
                rw [if_pos (by rfl)]
                go_simp
                exact hK.out _ _ ⟨(put1 ua 40 (.int .i64 x7_4)), ⟨rfl, hI.out.2.1.upd 0 rfl rfl rfl rfl, hI.out.2.2⟩⟩
              · intro LL a wx hI hLk hd K' hK
                obtain ⟨ua, hI⟩ := hI
                obtain rfl := hI.out.1
                rw [if_pos (by rfl)]
                go_simp
                exact hK.out _ _ ⟨(put1 ua 41 (.slice A5 x5_2.length c5)), ⟨rfl, hI.out.2.1.upd 1 rfl rfl rfl rfl, hI.out.2.2⟩⟩
              · intro LL a wx hI hLk hd K' hK
                obtain ⟨ua, hI⟩ := hI
                obtain rfl := hI.out.1
                have e1 := hI.out.2.1.at 1 rfl (hd 1 rfl)
                rw [if_pos (by rfl)]
                go_simp
                exact hK.out _ _ ⟨(put1 (put1 ua 41 (.slice A5 x5_2.length c5)) 42 (.int .i64 (x5_2.length : Int))), ⟨rfl, (hI.out.2.1.same (s := 41) (v := .slice A5 x5_2.length c5) e1).upd 2 rfl rfl rfl rfl, hI.out.2.2⟩⟩
              · intro LL a wx hI hLk hd K' hK
                obtain ⟨ua, hI⟩ := hI
                obtain rfl := hI.out.1
                have e0 := hI.out.2.1.at 0 rfl (hd 0 rfl)
                have e2 := hI.out.2.1.at 2 rfl (hd 2 rfl)
                rw [if_pos (by rfl)]
                go_simp
                exact hK.out _ _ ⟨(put1 (put1 (put1 ua 40 (.int .i64 x7_4)) 42 (.int .i64 (x5_2.length : Int))) 43 (.bool false)), ⟨rfl, ((hI.out.2.1.same (s := 40) (v := .int .i64 x7_4) e0).same (s := 42) (v := .int .i64 (x5_2.length : Int)) e2).upd 3 rfl rfl rfl rfl, hI.out.2.2⟩⟩
              · intro LL a wx hI hLk hd K' hK
                obtain ⟨ua, hI⟩ := hI
                obtain rfl := hI.out.1
                have e3 := hI.out.2.1.at 3 rfl (hd 3 rfl)
                rw [if_pos (by rfl)]
                go_simp
                exact hK.out _ _ ⟨(put1 (put1 ua 43 (.bool false)) 44 (.bool false)), ⟨rfl, (hI.out.2.1.same (s := 43) (v := .bool false) e3).upd 4 rfl rfl rfl rfl, hI.out.2.2⟩⟩
              · intro LL a wx hI hLk hd K' hK
                obtain ⟨ua, hI⟩ := hI
                obtain rfl := hI.out.1
                have eg := hI.out.2.1.at 4 rfl (hd 4 rfl)
                rw [eg]
                refine unwanted (by rfl) ?_
                exact hK.out _ _ ⟨(put1 (put1 ua 44 (.bool false)) 45 (undef)), ⟨rfl, (hI.out.2.1.same (s := 44) (v := .bool false) eg).upd 5 rfl rfl rfl rfl, hI.out.2.2⟩⟩
              · intro LL a wx hI hLk hd K' hK
                obtain ⟨ua, hI⟩ := hI
                obtain rfl := hI.out.1
                have eg := hI.out.2.1.at 4 rfl (hd 4 rfl)
                rw [eg]
                refine unwanted (by rfl) ?_
                exact hK.out _ _ ⟨(put1 (put1 ua 44 (.bool false)) 46 (undef)), ⟨rfl, (hI.out.2.1.same (s := 44) (v := .bool false) eg).upd 6 rfl rfl rfl rfl, hI.out.2.2⟩⟩
              · intro LL a wx hI hLk hd K' hK
                obtain ⟨ua, hI⟩ := hI
                obtain rfl := hI.out.1
                have eg := hI.out.2.1.at 4 rfl (hd 4 rfl)
                rw [eg]
                refine unwanted (by rfl) ?_
                exact hK.out _ _ ⟨(put1 (put1 ua 44 (.bool false)) 47 (undef)), ⟨rfl, (hI.out.2.1.same (s := 44) (v := .bool false) eg).upd 7 rfl rfl rfl rfl, hI.out.2.2⟩⟩
              · intro LL a wx hI hLk hd K' hK
                obtain ⟨ua, hI⟩ := hI
                obtain rfl := hI.out.1
                have eg := hI.out.2.1.at 4 rfl (hd 4 rfl)
                rw [eg]
                refine unwanted (by rfl) ?_
                exact hK.out _ _ ⟨(put1 (put1 ua 44 (.bool false)) 48 (undef)), ⟨rfl, (hI.out.2.1.same (s := 44) (v := .bool false) eg).upd 8 rfl rfl rfl rfl, hI.out.2.2⟩⟩
              · intro LL a wx hI hLk hd K' hK
                obtain ⟨ua, hI⟩ := hI
                obtain rfl := hI.out.1
                have eg := hI.out.2.1.at 4 rfl (hd 4 rfl)
                rw [eg]
                refine unwanted (by rfl) ?_
                exact hK.out _ _ ⟨(put1 (put1 ua 44 (.bool false)) 49 (undef)), ⟨rfl, (hI.out.2.1.same (s := 44) (v := .bool false) eg).upd 9 rfl rfl rfl rfl, hI.out.2.2⟩⟩
              · intro LL a wx hI hLk hd K' hK
                obtain ⟨ua, hI⟩ := hI
                obtain rfl := hI.out.1
                have eg := hI.out.2.1.at 4 rfl (hd 4 rfl)
                rw [eg]
                refine unwanted (by rfl) ?_
                exact hK.out _ _ ⟨(put1 (put1 ua 44 (.bool false)) 50 (undef)), ⟨rfl, (hI.out.2.1.same (s := 44) (v := .bool false) eg).upd 10 rfl rfl rfl rfl, hI.out.2.2⟩⟩
              · intro LL a wx hI hLk hd K' hK
                obtain ⟨ua, hI⟩ := hI
                obtain rfl := hI.out.1
                have eg := hI.out.2.1.at 4 rfl (hd 4 rfl)
                rw [eg]
                refine unwanted (by rfl) ?_
                exact hK.out _ _ ⟨(put1 (put1 ua 44 (.bool false)) 51 (undef)), ⟨rfl, (hI.out.2.1.same (s := 44) (v := .bool false) eg).upd 11 rfl rfl rfl rfl, hI.out.2.2⟩⟩
              · intro LL a wx hI hLk hd K' hK
                obtain ⟨ua, hI⟩ := hI
                obtain rfl := hI.out.1
                have eg := hI.out.2.1.at 4 rfl (hd 4 rfl)
                rw [eg]
                refine unwanted (by rfl) ?_
                exact hK.out _ _ ⟨(put1 (put1 ua 44 (.bool false)) 52 (undef)), ⟨rfl, (hI.out.2.1.same (s := 44) (v := .bool false) eg).upd 12 rfl rfl rfl rfl, hI.out.2.2⟩⟩
              · intro LL a wx hI hLk hd K' hK
                obtain ⟨ua, hI⟩ := hI
                obtain rfl := hI.out.1
                have eg := hI.out.2.1.at 4 rfl (hd 4 rfl)
                rw [eg]
                refine unwanted (by rfl) ?_
                exact hK.out _ _ ⟨(put1 (put1 ua 44 (.bool false)) 53 (undef)), ⟨rfl, (hI.out.2.1.same (s := 44) (v := .bool false) eg).upd 13 rfl rfl rfl rfl, hI.out.2.2⟩⟩
              · intro LL a wx hI hLk hd K' hK
                obtain ⟨ua, hI⟩ := hI
                obtain rfl := hI.out.1
                have e4 := hI.out.2.1.at 4 rfl (hd 4 rfl)
                rw [if_pos (by rfl)]
                go_simp
                exact hK.out _ _ ⟨(put1 (put1 ua 44 (.bool false)) 54 (.bool false)), ⟨rfl, (hI.out.2.1.same (s := 44) (v := .bool false) e4).upd 14 rfl rfl rfl rfl, hI.out.2.2⟩⟩
            · intro LL a wa hall hI
              obtain ⟨ua, hI⟩ := hI
              obtain rfl := hI.out.1
              have hb := hI.out.2.2
              have e14 := hI.out.2.1.at 14 rfl (hall 14 (by decide))
              rw [e14]
              have HBw_ua := Aside0.mk hb.out
              clear hI hb e14
              go_wp2_with fail
              have C0 := Aside0.mk (cell_keep HBw_ua.out C0.out)
              refine wp_region_steps 15 rfl rfl (by kernel_rfl) (fun LL a wx => ∃ ub : Nat → Value, Aside0 (a = { tmps := List.toArray (.slice (some ad0) l0.length c0 :: .string a1 :: undef :: undef :: u4 :: .slice A5 x5_2.length c5 :: .int .i64 x6_2 :: .int .i64 x7_4 :: undef :: undef :: undef :: u11 :: u12 :: u13 :: u14 :: u15 :: u16 :: u17 :: u18 :: u19 :: .bool false :: u21 :: u22 :: u23 :: u24 :: u25 :: u26 :: u27 :: u28 :: u29 :: u30 :: u31 :: u32 :: u33 :: u34 :: u35 :: u36 :: u37 :: u38 :: .bool false :: ua 40 :: ua 41 :: ua 42 :: ua 43 :: ua 44 :: ua 45 :: ua 46 :: ua 47 :: ua 48 :: ua 49 :: ua 50 :: ua 51 :: ua 52 :: ua 53 :: .bool false :: u55 :: u56 :: ub 57 :: ub 58 :: ub 59 :: ub 60 :: ub 61 :: ub 62 :: ub 63 :: ub 64 :: ub 65 :: ub 66 :: ub 67 :: ub 68 :: ub 69 :: ub 70 :: ub 71 :: u72 :: u73 :: u74 :: u75 :: u76 :: u77 :: u78 :: u79 :: u80 :: u81 :: u82 :: u83 :: u84 :: u85 :: u86 :: u87 :: u88 :: u89 :: u90 :: u91 :: u92 :: u93 :: u94 :: u95 :: u96 :: u97 :: u98 :: u99 :: u100 :: u101 :: u102 :: u103 :: u104 :: u105 :: u106 :: u107 :: u108 :: u109 :: u110 :: u111 :: u112 :: u113 :: u114 :: u115 :: u116 :: u117 :: u118 :: u119 :: u120 :: u121 :: u122 :: u123 :: u124 :: u125 :: u126 :: u127 :: u128 :: u129 :: u130 :: u131 :: u132 :: u133 :: u134 :: u135 :: u136 :: u137 :: u138 :: u139 :: u140 :: u141 :: u142 :: u143 :: []), defers := [] } ∧ Tab LL ub [(0, 57, .int .i64 x7_4), (1, 58, .slice A5 x5_2.length c5), (2, 59, .int .i64 (x5_2.length : Int)), (3, 60, .bool false), (4, 61, .bool false), (5, 62, undef), (6, 63, undef), (7, 64, undef), (8, 65, undef), (9, 66, undef), (10, 67, undef), (11, 68, undef), (12, 69, undef), (13, 70, undef), (14, 71, .bool false)] ∧ Aside0 (Below wa.heap.size wa wx))) ?_ ?_ ?_
              · exact ⟨(put1 (put1 (put1 (put1 (put1 (put1 (put1 (put1 (put1 (put1 (put1 (put1 (put1 (put1 (put1 (fun _ => undef) 57 (u57)) 58 (u58)) 59 (u59)) 60 (u60)) 61 (u61)) 62 (u62)) 63 (u63)) 64 (u64)) 65 (u65)) 66 (u66)) 67 (u67)) 68 (u68)) 69 (u69)) 70 (u70)) 71 (u71)), ⟨rfl, Tab.start 15 rfl rfl, ⟨below_drew (Below.refl _ _)⟩⟩⟩
              · refine Steps.cons ?_ (Steps.cons ?_ (Steps.cons ?_ (Steps.cons ?_ (Steps.cons ?_ (Steps.cons ?_ (Steps.cons ?_ (Steps.cons ?_ (Steps.cons ?_ (Steps.cons ?_ (Steps.cons ?_ (Steps.cons ?_ (Steps.cons ?_ (Steps.cons ?_ (Steps.cons ?_ (Steps.nil)))))))))))))))
                · intro LL a wx hI hLk hd K' hK
                  obtain ⟨ub, hI⟩ := hI
                  obtain rfl := hI.out.1
                  rw [if_pos (by rfl)]
                  go_simp
                  exact hK.out _ _ ⟨(put1 ub 57 (.int .i64 x7_4)), ⟨rfl, hI.out.2.1.upd 0 rfl rfl rfl rfl, hI.out.2.2⟩⟩
                · intro LL a wx hI hLk hd K' hK
                  obtain ⟨ub, hI⟩ := hI
                  obtain rfl := hI.out.1
                  rw [if_pos (by rfl)]
                  go_simp
                  exact hK.out _ _ ⟨(put1 ub 58 (.slice A5 x5_2.length c5)), ⟨rfl, hI.out.2.1.upd 1 rfl rfl rfl rfl, hI.out.2.2⟩⟩
                · intro LL a wx hI hLk hd K' hK
                  obtain ⟨ub, hI⟩ := hI
                  obtain rfl := hI.out.1
                  have e1 := hI.out.2.1.at 1 rfl (hd 1 rfl)
                  rw [if_pos (by rfl)]
                  go_simp
                  exact hK.out _ _ ⟨(put1 (put1 ub 58 (.slice A5 x5_2.length c5)) 59 (.int .i64 (x5_2.length : Int))), ⟨rfl, (hI.out.2.1.same (s := 58) (v := .slice A5 x5_2.length c5) e1).upd 2 rfl rfl rfl rfl, hI.out.2.2⟩⟩
                · intro LL a wx hI hLk hd K' hK
                  obtain ⟨ub, hI⟩ := hI
                  obtain rfl := hI.out.1
                  have e0 := hI.out.2.1.at 0 rfl (hd 0 rfl)
                  have e2 := hI.out.2.1.at 2 rfl (hd 2 rfl)
                  rw [if_pos (by rfl)]
                  go_simp
                  exact hK.out _ _ ⟨(put1 (put1 (put1 ub 57 (.int .i64 x7_4)) 59 (.int .i64 (x5_2.length : Int))) 60 (.bool false)), ⟨rfl, ((hI.out.2.1.same (s := 57) (v := .int .i64 x7_4) e0).same (s := 59) (v := .int .i64 (x5_2.length : Int)) e2).upd 3 rfl rfl rfl rfl, hI.out.2.2⟩⟩
                · intro LL a wx hI hLk hd K' hK
                  obtain ⟨ub, hI⟩ := hI
                  obtain rfl := hI.out.1
                  have e3 := hI.out.2.1.at 3 rfl (hd 3 rfl)
                  rw [if_pos (by rfl)]
                  go_simp
                  exact hK.out _ _ ⟨(put1 (put1 ub 60 (.bool false)) 61 (.bool false)), ⟨rfl, (hI.out.2.1.same (s := 60) (v := .bool false) e3).upd 4 rfl rfl rfl rfl, hI.out.2.2⟩⟩
                · intro LL a wx hI hLk hd K' hK
                  obtain ⟨ub, hI⟩ := hI
                  obtain rfl := hI.out.1
                  have eg := hI.out.2.1.at 4 rfl (hd 4 rfl)
                  rw [eg]
                  refine unwanted (by rfl) ?_
                  exact hK.out _ _ ⟨(put1 (put1 ub 61 (.bool false)) 62 (undef)), ⟨rfl, (hI.out.2.1.same (s := 61) (v := .bool false) eg).upd 5 rfl rfl rfl rfl, hI.out.2.2⟩⟩
                · intro LL a wx hI hLk hd K' hK
                  obtain ⟨ub, hI⟩ := hI
                  obtain rfl := hI.out.1
                  have eg := hI.out.2.1.at 4 rfl (hd 4 rfl)
                  rw [eg]
                  refine unwanted (by rfl) ?_
                  exact hK.out _ _ ⟨(put1 (put1 ub 61 (.bool false)) 63 (undef)), ⟨rfl, (hI.out.2.1.same (s := 61) (v := .bool false) eg).upd 6 rfl rfl rfl rfl, hI.out.2.2⟩⟩
                · intro LL a wx hI hLk hd K' hK
                  obtain ⟨ub, hI⟩ := hI
                  obtain rfl := hI.out.1
                  have eg := hI.out.2.1.at 4 rfl (hd 4 rfl)
                  rw [eg]
                  refine unwanted (by rfl) ?_
                  exact hK.out _ _ ⟨(put1 (put1 ub 61 (.bool false)) 64 (undef)), ⟨rfl, (hI.out.2.1.same (s := 61) (v := .bool false) eg).upd 7 rfl rfl rfl rfl, hI.out.2.2⟩⟩
                · intro LL a wx hI hLk hd K' hK
                  obtain ⟨ub, hI⟩ := hI
                  obtain rfl := hI.out.1
                  have eg := hI.out.2.1.at 4 rfl (hd 4 rfl)
                  rw [eg]
                  refine unwanted (by rfl) ?_
                  exact hK.out _ _ ⟨(put1 (put1 ub 61 (.bool false)) 65 (undef)), ⟨rfl, (hI.out.2.1.same (s := 61) (v := .bool false) eg).upd 8 rfl rfl rfl rfl, hI.out.2.2⟩⟩
                · intro LL a wx hI hLk hd K' hK
                  obtain ⟨ub, hI⟩ := hI
                  obtain rfl := hI.out.1
                  have eg := hI.out.2.1.at 4 rfl (hd 4 rfl)
                  rw [eg]
                  refine unwanted (by rfl) ?_
                  exact hK.out _ _ ⟨(put1 (put1 ub 61 (.bool false)) 66 (undef)), ⟨rfl, (hI.out.2.1.same (s := 61) (v := .bool false) eg).upd 9 rfl rfl rfl rfl, hI.out.2.2⟩⟩
                · intro LL a wx hI hLk hd K' hK
                  obtain ⟨ub, hI⟩ := hI
                  obtain rfl := hI.out.1
                  have eg := hI.out.2.1.at 4 rfl (hd 4 rfl)
                  rw [eg]
                  refine unwanted (by rfl) ?_
                  exact hK.out _ _ ⟨(put1 (put1 ub 61 (.bool false)) 67 (undef)), ⟨rfl, (hI.out.2.1.same (s := 61) (v := .bool false) eg).upd 10 rfl rfl rfl rfl, hI.out.2.2⟩⟩
                · intro LL a wx hI hLk hd K' hK
                  obtain ⟨ub, hI⟩ := hI
                  obtain rfl := hI.out.1
                  have eg := hI.out.2.1.at 4 rfl (hd 4 rfl)
                  rw [eg]
                  refine unwanted (by rfl) ?_
                  exact hK.out _ _ ⟨(put1 (put1 ub 61 (.bool false)) 68 (undef)), ⟨rfl, (hI.out.2.1.same (s := 61) (v := .bool false) eg).upd 11 rfl rfl rfl rfl, hI.out.2.2⟩⟩
                · intro LL a wx hI hLk hd K' hK
                  obtain ⟨ub, hI⟩ := hI
                  obtain rfl := hI.out.1
                  have eg := hI.out.2.1.at 4 rfl (hd 4 rfl)
                  rw [eg]
                  refine unwanted (by rfl) ?_
                  exact hK.out _ _ ⟨(put1 (put1 ub 61 (.bool false)) 69 (undef)), ⟨rfl, (hI.out.2.1.same (s := 61) (v := .bool false) eg).upd 12 rfl rfl rfl rfl, hI.out.2.2⟩⟩
                · intro LL a wx hI hLk hd K' hK
                  obtain ⟨ub, hI⟩ := hI
                  obtain rfl := hI.out.1
                  have eg := hI.out.2.1.at 4 rfl (hd 4 rfl)
                  rw [eg]
                  refine unwanted (by rfl) ?_
                  exact hK.out _ _ ⟨(put1 (put1 ub 61 (.bool false)) 70 (undef)), ⟨rfl, (hI.out.2.1.same (s := 61) (v := .bool false) eg).upd 13 rfl rfl rfl rfl, hI.out.2.2⟩⟩
                · intro LL a wx hI hLk hd K' hK
                  obtain ⟨ub, hI⟩ := hI
                  obtain rfl := hI.out.1
                  have e4 := hI.out.2.1.at 4 rfl (hd 4 rfl)
                  rw [if_pos (by rfl)]
                  go_simp
                  exact hK.out _ _ ⟨(put1 (put1 ub 61 (.bool false)) 71 (.bool false)), ⟨rfl, (hI.out.2.1.same (s := 61) (v := .bool false) e4).upd 14 rfl rfl rfl rfl, hI.out.2.2⟩⟩
              · intro LL a wb hall hI
                obtain ⟨ub, hI⟩ := hI
                obtain rfl := hI.out.1
                have hb := hI.out.2.2
                have e14 := hI.out.2.1.at 14 rfl (hall 14 (by decide))
                rw [e14]
                have HBw_ub := Aside0.mk hb.out
                clear hI hb e14
                go_wp2_with fail
                have C0 := Aside0.mk (cell_keep HBw_ub.out C0.out)
                have HO5 := Aside0.mk (Kd.R_below (Kd.R_below HO5.out HBw_ua.out) HBw_ub.out)
                have HBS : Aside0 (w.heap.size ≤ wb.heap.size) := ⟨Nat.le_trans HBS.out (Nat.le_trans HBw_ua.out.size HBw_ub.out.size)⟩
                refine wp_region_steps 16 rfl rfl (by kernel_rfl) (fun LL a wx => ∃ x72 : Value, ∃ x76 : Value, ∃ x82 : Value, ∃ x86 : Value, ∃ cur : Value, ∃ x5 : Value, ∃ g81 : Nat, ∃ uc : Nat → Value, Aside0 (a = { tmps := List.toArray (.slice (some ad0) l0.length c0 :: .string a1 :: undef :: undef :: u4 :: uc 5 :: .int .i64 x6_2 :: .int .i64 x7_4 :: undef :: undef :: undef :: u11 :: u12 :: u13 :: u14 :: u15 :: u16 :: u17 :: u18 :: u19 :: .bool false :: u21 :: u22 :: u23 :: u24 :: u25 :: u26 :: u27 :: u28 :: u29 :: u30 :: u31 :: u32 :: u33 :: u34 :: u35 :: u36 :: u37 :: u38 :: .bool false :: ua 40 :: ua 41 :: ua 42 :: ua 43 :: ua 44 :: ua 45 :: ua 46 :: ua 47 :: ua 48 :: ua 49 :: ua 50 :: ua 51 :: ua 52 :: ua 53 :: .bool false :: u55 :: u56 :: ub 57 :: ub 58 :: ub 59 :: ub 60 :: ub 61 :: ub 62 :: ub 63 :: ub 64 :: ub 65 :: ub 66 :: ub 67 :: ub 68 :: ub 69 :: ub 70 :: .bool false :: uc 72 :: uc 73 :: uc 74 :: uc 75 :: uc 76 :: uc 77 :: uc 78 :: uc 79 :: uc 80 :: uc 81 :: uc 82 :: uc 83 :: uc 84 :: uc 85 :: uc 86 :: u87 :: u88 :: u89 :: u90 :: u91 :: u92 :: u93 :: u94 :: u95 :: u96 :: u97 :: u98 :: u99 :: u100 :: u101 :: u102 :: u103 :: u104 :: u105 :: u106 :: u107 :: u108 :: u109 :: u110 :: u111 :: u112 :: u113 :: u114 :: u115 :: u116 :: u117 :: u118 :: u119 :: u120 :: u121 :: u122 :: u123 :: u124 :: u125 :: u126 :: u127 :: u128 :: u129 :: u130 :: u131 :: u132 :: u133 :: u134 :: u135 :: u136 :: u137 :: u138 :: u139 :: u140 :: u141 :: u142 :: u143 :: []), defers := [] } ∧ Tab LL uc [(0, 72, x72), (1, 73, .slice A5 x5_2.length c5), (2, 74, .int .i64 x7_4), (3, 75, .slice A5 (x7_4).toNat c5), (4, 76, x76), (5, 77, .slice (some ad0) l0.length c0), (6, 78, .int .i64 x6_2), (7, 79, .pointer (some (ad0.add (x6_2).toNat))), (8, 80, .string s2), (9, 81, .slice (some ⟨g81, 0, none⟩) 1 1), (10, 82, x82), (11, 83, .slice A5 x5_2.length c5), (12, 84, .int .i64 x7_4), (13, 85, .slice A85 n85 m85), (14, 86, x86), (15, 5, x5)] ∧ Aside0 (Below wb.heap.size wb wx) ∧ Aside0 (LL 15 = false → uc 5 = .slice A5 x5_2.length c5) ∧ Aside0 (LL 15 = true → LL 1 = true ∧ LL 11 = true) ∧ Aside0 (LL 4 = true → LL 0 = true) ∧ Aside0 (LL 10 = true → LL 4 = true) ∧ Aside0 (LL 14 = true → LL 10 = true) ∧ Aside0 (LL 10 = true → LL 9 = true) ∧ Aside0 (LL 0 = true → LL 4 = false → cur = x72 ∧ Kd.R Kd.string 9 wx wb.heap.size (fun _ => True) cur []) ∧ Aside0 (LL 4 = true → LL 10 = false → cur = x76 ∧ Kd.R Kd.string 9 wx wb.heap.size (fun _ => True) cur ([] ++ (x5_2.take (x7_4).toNat))) ∧ Aside0 (LL 10 = true → LL 14 = false → cur = x82 ∧ Kd.R Kd.string 9 wx wb.heap.size (fun _ => True) cur (([] ++ (x5_2.take (x7_4).toNat)) ++ [s2])) ∧ Aside0 (LL 14 = true → cur = x86 ∧ Kd.R Kd.string 9 wx wb.heap.size (fun _ => True) cur ((([] ++ (x5_2.take (x7_4).toNat)) ++ [s2]) ++ (x5_2.drop (x7_4).toNat))) ∧ Aside0 (LL 0 = true → ∀ k, cur.ownBlock = some k → k < wx.heap.size) ∧ Aside0 (LL 9 = true → wx.heap[g81]? = some (.cells #[.string s2] 9 (0, 0)) ∧ (LL 0 = true → cur.ownBlock ≠ some g81)) ∧ Aside0 (LL 15 = true → LL 14 = true ∧ x5 = x86))) ?_ ?_ ?_
                · exact ⟨undef, undef, undef, undef, undef, undef, 0, (put1 (put1 (put1 (put1 (put1 (put1 (put1 (put1 (put1 (put1 (put1 (put1 (put1 (put1 (put1 (put1 (fun _ => undef) 5 (.slice A5 x5_2.length c5)) 72 (u72)) 73 (u73)) 74 (u74)) 75 (u75)) 76 (u76)) 77 (u77)) 78 (u78)) 79 (u79)) 80 (u80)) 81 (u81)) 82 (u82)) 83 (u83)) 84 (u84)) 85 (u85)) 86 (u86)), ⟨rfl, Tab.start 16 rfl rfl, ⟨below_drew (Below.refl _ _)⟩, ⟨fun _ => rfl⟩, ⟨fun h => absurd h (by decide)⟩, ⟨fun h => absurd h (by decide)⟩, ⟨fun h => absurd h (by decide)⟩, ⟨fun h => absurd h (by decide)⟩, ⟨fun h => absurd h (by decide)⟩, ⟨fun h => absurd h (by decide)⟩, ⟨fun h => absurd h (by decide)⟩, ⟨fun h => absurd h (by decide)⟩, ⟨fun h => absurd h (by decide)⟩, ⟨fun h => absurd h (by decide)⟩, ⟨fun h => absurd h (by decide)⟩, ⟨fun h => absurd h (by decide)⟩⟩⟩
                · refine Steps.cons ?_ (Steps.cons ?_ (Steps.cons ?_ (Steps.cons ?_ (Steps.cons ?_ (Steps.cons ?_ (Steps.cons ?_ (Steps.cons ?_ (Steps.cons ?_ (Steps.cons ?_ (Steps.cons ?_ (Steps.cons ?_ (Steps.cons ?_ (Steps.cons ?_ (Steps.cons ?_ (Steps.cons ?_ (Steps.nil))))))))))))))))
                  · intro LL a wx hI hLk hd K' hK
                    obtain ⟨x72, x76, x82, x86, cur, x5, g81, uc, hI⟩ := hI
                    obtain rfl := hI.out.1
                    have hb := hI.out.2.2.1
                    have p4 := hI.out.2.2.2.2.2.1
                    have p10 := hI.out.2.2.2.2.2.2.1
                    have p14 := hI.out.2.2.2.2.2.2.2.1
                    have h81 := hI.out.2.2.2.2.2.2.2.2.2.2.2.2.2.2.1
                    have hb0 := hb.out
                    refine Kd.R_lit_step Kd.string (w0 := wx) wx.heap.size 9 (by rfl) (N := 72) rfl (xs := ([] : List ByteArray)) (inner := []) (ok := fun _ => True) (okp := fun _ => True) (by first | (go_simp; done) | (go_simp; rfl)) (Reps.none _ _) (fun _ hk => hk) trivial (Below.refl _ _) (Nat.le_refl _) (by simp) ?_
                    intro x' w3 ho hb1 hg1 hn1
                    exact hK.out _ _ ⟨x', x76, x82, x86, x', x5, g81, (put1 uc 72 x'), ⟨rfl, hI.out.2.1.upd 0 rfl rfl rfl rfl, ⟨hb.out.grown hg1 hb.out.size (fun q e => by cases e)⟩, hI.out.2.2.2.1, hI.out.2.2.2.2.1, ⟨fun _ => rfl⟩, hI.out.2.2.2.2.2.2.1, hI.out.2.2.2.2.2.2.2.1, hI.out.2.2.2.2.2.2.2.2.1, ⟨fun _ _ => ⟨rfl, Kd.R_lower ho hb.out.size⟩⟩, ⟨fun a => absurd (p4.out a) (by rw [hLk]; decide)⟩, ⟨fun a => absurd (p4.out (p10.out a)) (by rw [hLk]; decide)⟩, ⟨fun a => absurd (p4.out (p10.out (p14.out a))) (by rw [hLk]; decide)⟩, ⟨fun _ => Kd.R_lt ho⟩, ⟨fun h9 => ⟨(hg1.block g81 (blk_lt (h81.out h9).1) (fun e => by cases e)).trans (h81.out h9).1, fun _ e => by have h1 := Kd.R_base ho g81 e; have h2 := blk_lt (h81.out h9).1; omega⟩⟩, hI.out.2.2.2.2.2.2.2.2.2.2.2.2.2.2.2⟩⟩
                  · intro LL a wx hI hLk hd K' hK
                    obtain ⟨x72, x76, x82, x86, cur, x5, g81, uc, hI⟩ := hI
                    obtain rfl := hI.out.1
                    have h5 := hI.out.2.2.2.1
                    have hz := hI.out.2.2.2.2.1
                    have hu : uc 5 = .slice A5 x5_2.length c5 := h5.out (flag_off (fun h => (hz.out h).1) hLk)
                    rw [if_pos (by rfl)]
                    go_simp
                    exact hK.out _ _ ⟨x72, x76, x82, x86, cur, x5, g81, (put1 (put1 uc 5 (.slice A5 x5_2.length c5)) 73 (.slice A5 x5_2.length c5)), ⟨rfl, (hI.out.2.1.same (s := 5) (v := .slice A5 x5_2.length c5) hu).upd 1 rfl rfl rfl rfl, hI.out.2.2.1, ⟨fun _ => rfl⟩, ⟨fun h => ⟨rfl, upd_old (hz.out h).2⟩⟩, hI.out.2.2.2.2.2.1, hI.out.2.2.2.2.2.2.1, hI.out.2.2.2.2.2.2.2.1, hI.out.2.2.2.2.2.2.2.2.1, hI.out.2.2.2.2.2.2.2.2.2.1, hI.out.2.2.2.2.2.2.2.2.2.2.1, hI.out.2.2.2.2.2.2.2.2.2.2.2.1, hI.out.2.2.2.2.2.2.2.2.2.2.2.2.1, hI.out.2.2.2.2.2.2.2.2.2.2.2.2.2.1, hI.out.2.2.2.2.2.2.2.2.2.2.2.2.2.2.1, hI.out.2.2.2.2.2.2.2.2.2.2.2.2.2.2.2⟩⟩
                  · intro LL a wx hI hLk hd K' hK
                    obtain ⟨x72, x76, x82, x86, cur, x5, g81, uc, hI⟩ := hI
                    obtain rfl := hI.out.1
                    rw [if_pos (by rfl)]
                    go_simp
                    exact hK.out _ _ ⟨x72, x76, x82, x86, cur, x5, g81, (put1 uc 74 (.int .i64 x7_4)), ⟨rfl, hI.out.2.1.upd 2 rfl rfl rfl rfl, hI.out.2.2.1, hI.out.2.2.2.1, hI.out.2.2.2.2.1, hI.out.2.2.2.2.2.1, hI.out.2.2.2.2.2.2.1, hI.out.2.2.2.2.2.2.2.1, hI.out.2.2.2.2.2.2.2.2.1, hI.out.2.2.2.2.2.2.2.2.2.1, hI.out.2.2.2.2.2.2.2.2.2.2.1, hI.out.2.2.2.2.2.2.2.2.2.2.2.1, hI.out.2.2.2.2.2.2.2.2.2.2.2.2.1, hI.out.2.2.2.2.2.2.2.2.2.2.2.2.2.1, hI.out.2.2.2.2.2.2.2.2.2.2.2.2.2.2.1, hI.out.2.2.2.2.2.2.2.2.2.2.2.2.2.2.2⟩⟩
                  · intro LL a wx hI hLk hd K' hK
                    obtain ⟨x72, x76, x82, x86, cur, x5, g81, uc, hI⟩ := hI
                    obtain rfl := hI.out.1
                    have e1 := hI.out.2.1.at 1 rfl (hd 1 rfl)
                    have e2 := hI.out.2.1.at 2 rfl (hd 2 rfl)
                    have hcut := HCT.out
                    rw [if_pos (by rfl)]
                    go_simp
                    exact hK.out _ _ ⟨x72, x76, x82, x86, cur, x5, g81, (put1 (put1 (put1 uc 73 (.slice A5 x5_2.length c5)) 74 (.int .i64 x7_4)) 75 (.slice A5 (x7_4).toNat c5)), ⟨rfl, ((hI.out.2.1.same (s := 73) (v := .slice A5 x5_2.length c5) e1).same (s := 74) (v := .int .i64 x7_4) e2).upd 3 rfl rfl rfl rfl, hI.out.2.2.1, hI.out.2.2.2.1, hI.out.2.2.2.2.1, hI.out.2.2.2.2.2.1, hI.out.2.2.2.2.2.2.1, hI.out.2.2.2.2.2.2.2.1, hI.out.2.2.2.2.2.2.2.2.1, hI.out.2.2.2.2.2.2.2.2.2.1, hI.out.2.2.2.2.2.2.2.2.2.2.1, hI.out.2.2.2.2.2.2.2.2.2.2.2.1, hI.out.2.2.2.2.2.2.2.2.2.2.2.2.1, hI.out.2.2.2.2.2.2.2.2.2.2.2.2.2.1, hI.out.2.2.2.2.2.2.2.2.2.2.2.2.2.2.1, hI.out.2.2.2.2.2.2.2.2.2.2.2.2.2.2.2⟩⟩
                  · intro LL a wx hI hLk hd K' hK
                    obtain ⟨x72, x76, x82, x86, cur, x5, g81, uc, hI⟩ := hI
                    obtain rfl := hI.out.1
                    have e0 := hI.out.2.1.at 0 rfl (hd 0 rfl)
                    have e3 := hI.out.2.1.at 3 rfl (hd 3 rfl)
                    have hb := hI.out.2.2.1
                    have h5 := hI.out.2.2.2.1
                    have p10 := hI.out.2.2.2.2.2.2.1
                    have p14 := hI.out.2.2.2.2.2.2.2.1
                    have h0 := hI.out.2.2.2.2.2.2.2.2.2.1
                    have h4 := hI.out.2.2.2.2.2.2.2.2.2.2.1
                    have hlt := hI.out.2.2.2.2.2.2.2.2.2.2.2.2.2.1
                    have h81 := hI.out.2.2.2.2.2.2.2.2.2.2.2.2.2.2.1
                    have hr0 := h0.out (hd 0 rfl) hLk
                    have hq := Kd.R_base hr0.2
                    have hcx := hlt.out (hd 0 rfl)
                    refine Kd.R_append_rows_step Kd.string (Rr := Kd.K Kd.string wx) (w0 := wx) wb.heap.size (by rfl) (.tmp 72) (.tmp 75) 33 9 (.string ⟨#[]⟩) 16 rfl Try.underlying33 info9 rfl (by decide) (by omega) cur [] (x5_2.take (x7_4).toNat) A5 (x7_4).toNat c5 (fun _ => True) (fun _ => False) (e0.trans hr0.1.symm) e3 (hr0.2) (HCK.out _ (Kd.R_below HO5.out hb.out)) (fun _ _ h => h) (fun _ h => h.elim) (fun _ _ => trivial) (Below.refl _ _) hb.out.size HLN.out.1 ?_
                    intro x' w3 ho hb1 hg1 hat1
                    exact hK.out _ _ ⟨x72, x', x82, x86, x', x5, g81, (put1 uc 76 x'), ⟨rfl, hI.out.2.1.upd 4 rfl rfl rfl rfl, ⟨hb.out.grown hg1 hb.out.size (fun q e => hq q e)⟩, hI.out.2.2.2.1, hI.out.2.2.2.2.1, ⟨fun _ => hd 0 rfl⟩, ⟨fun _ => rfl⟩, hI.out.2.2.2.2.2.2.2.1, hI.out.2.2.2.2.2.2.2.2.1, ⟨fun _ b => Bool.noConfusion (show true = false from b)⟩, ⟨fun _ _ => ⟨rfl, ho⟩⟩, ⟨fun a => absurd (p10.out a) (by rw [hLk]; decide)⟩, ⟨fun a => absurd (p10.out (p14.out a)) (by rw [hLk]; decide)⟩, ⟨fun _ => Kd.R_lt ho⟩, ⟨fun h9 => ⟨(hg1.block g81 (blk_lt (h81.out h9).1) (fun e => (h81.out h9).2 (hd 0 rfl) e.symm)).trans (h81.out h9).1, fun _ e => by rcases hat1 with h2 | ⟨b, h2, h3⟩; exact (h81.out h9).2 (hd 0 rfl) (h2.symm.trans e); have h4 := h2.symm.trans e; injection h4 with h4; have h5 := blk_lt (h81.out h9).1; omega⟩⟩, hI.out.2.2.2.2.2.2.2.2.2.2.2.2.2.2.2⟩⟩
                  · intro LL a wx hI hLk hd K' hK
                    obtain ⟨x72, x76, x82, x86, cur, x5, g81, uc, hI⟩ := hI
                    obtain rfl := hI.out.1
                    rw [if_pos (by rfl)]
                    go_simp
                    exact hK.out _ _ ⟨x72, x76, x82, x86, cur, x5, g81, (put1 uc 77 (.slice (some ad0) l0.length c0)), ⟨rfl, hI.out.2.1.upd 5 rfl rfl rfl rfl, hI.out.2.2.1, hI.out.2.2.2.1, hI.out.2.2.2.2.1, hI.out.2.2.2.2.2.1, hI.out.2.2.2.2.2.2.1, hI.out.2.2.2.2.2.2.2.1, hI.out.2.2.2.2.2.2.2.2.1, hI.out.2.2.2.2.2.2.2.2.2.1, hI.out.2.2.2.2.2.2.2.2.2.2.1, hI.out.2.2.2.2.2.2.2.2.2.2.2.1, hI.out.2.2.2.2.2.2.2.2.2.2.2.2.1, hI.out.2.2.2.2.2.2.2.2.2.2.2.2.2.1, hI.out.2.2.2.2.2.2.2.2.2.2.2.2.2.2.1, hI.out.2.2.2.2.2.2.2.2.2.2.2.2.2.2.2⟩⟩
                  · intro LL a wx hI hLk hd K' hK
                    obtain ⟨x72, x76, x82, x86, cur, x5, g81, uc, hI⟩ := hI
                    obtain rfl := hI.out.1
                    rw [if_pos (by rfl)]
                    go_simp
                    exact hK.out _ _ ⟨x72, x76, x82, x86, cur, x5, g81, (put1 uc 78 (.int .i64 x6_2)), ⟨rfl, hI.out.2.1.upd 6 rfl rfl rfl rfl, hI.out.2.2.1, hI.out.2.2.2.1, hI.out.2.2.2.2.1, hI.out.2.2.2.2.2.1, hI.out.2.2.2.2.2.2.1, hI.out.2.2.2.2.2.2.2.1, hI.out.2.2.2.2.2.2.2.2.1, hI.out.2.2.2.2.2.2.2.2.2.1, hI.out.2.2.2.2.2.2.2.2.2.2.1, hI.out.2.2.2.2.2.2.2.2.2.2.2.1, hI.out.2.2.2.2.2.2.2.2.2.2.2.2.1, hI.out.2.2.2.2.2.2.2.2.2.2.2.2.2.1, hI.out.2.2.2.2.2.2.2.2.2.2.2.2.2.2.1, hI.out.2.2.2.2.2.2.2.2.2.2.2.2.2.2.2⟩⟩
                  · intro LL a wx hI hLk hd K' hK
                    obtain ⟨x72, x76, x82, x86, cur, x5, g81, uc, hI⟩ := hI
                    obtain rfl := hI.out.1
                    have e5 := hI.out.2.1.at 5 rfl (hd 5 rfl)
                    have e6 := hI.out.2.1.at 6 rfl (hd 6 rfl)
                    rw [if_pos (by rfl)]
                    go_simp
                    exact hK.out _ _ ⟨x72, x76, x82, x86, cur, x5, g81, (put1 (put1 (put1 uc 77 (.slice (some ad0) l0.length c0)) 78 (.int .i64 x6_2)) 79 (.pointer (some (ad0.add (x6_2).toNat)))), ⟨rfl, ((hI.out.2.1.same (s := 77) (v := .slice (some ad0) l0.length c0) e5).same (s := 78) (v := .int .i64 x6_2) e6).upd 7 rfl rfl rfl rfl, hI.out.2.2.1, hI.out.2.2.2.1, hI.out.2.2.2.2.1, hI.out.2.2.2.2.2.1, hI.out.2.2.2.2.2.2.1, hI.out.2.2.2.2.2.2.2.1, hI.out.2.2.2.2.2.2.2.2.1, hI.out.2.2.2.2.2.2.2.2.2.1, hI.out.2.2.2.2.2.2.2.2.2.2.1, hI.out.2.2.2.2.2.2.2.2.2.2.2.1, hI.out.2.2.2.2.2.2.2.2.2.2.2.2.1, hI.out.2.2.2.2.2.2.2.2.2.2.2.2.2.1, hI.out.2.2.2.2.2.2.2.2.2.2.2.2.2.2.1, hI.out.2.2.2.2.2.2.2.2.2.2.2.2.2.2.2⟩⟩
                  · intro LL a wx hI hLk hd K' hK
                    obtain ⟨x72, x76, x82, x86, cur, x5, g81, uc, hI⟩ := hI
                    obtain rfl := hI.out.1
                    have e7 := hI.out.2.1.at 7 rfl (hd 7 rfl)
                    have hb := hI.out.2.2.1
                    have h0c := cell_keep hb.out C0.out
                    rw [if_pos (by rfl)]
                    go_simp
                    exact hK.out _ _ ⟨x72, x76, x82, x86, cur, x5, g81, (put1 (put1 uc 79 (.pointer (some (ad0.add (x6_2).toNat)))) 80 (.string s2)), ⟨rfl, (hI.out.2.1.same (s := 79) (v := .pointer (some (ad0.add (x6_2).toNat))) e7).upd 8 rfl rfl rfl rfl, hI.out.2.2.1, hI.out.2.2.2.1, hI.out.2.2.2.2.1, hI.out.2.2.2.2.2.1, hI.out.2.2.2.2.2.2.1, hI.out.2.2.2.2.2.2.2.1, hI.out.2.2.2.2.2.2.2.2.1, hI.out.2.2.2.2.2.2.2.2.2.1, hI.out.2.2.2.2.2.2.2.2.2.2.1, hI.out.2.2.2.2.2.2.2.2.2.2.2.1, hI.out.2.2.2.2.2.2.2.2.2.2.2.2.1, hI.out.2.2.2.2.2.2.2.2.2.2.2.2.2.1, hI.out.2.2.2.2.2.2.2.2.2.2.2.2.2.2.1, hI.out.2.2.2.2.2.2.2.2.2.2.2.2.2.2.2⟩⟩
                  · intro LL a wx hI hLk hd K' hK
                    obtain ⟨x72, x76, x82, x86, cur, x5, g81, uc, hI⟩ := hI
                    obtain rfl := hI.out.1
                    have e8 := hI.out.2.1.at 8 rfl (hd 8 rfl)
                    have hb := hI.out.2.2.1
                    have p14 := hI.out.2.2.2.2.2.2.2.1
                    have q10 := hI.out.2.2.2.2.2.2.2.2.1
                    have h0 := hI.out.2.2.2.2.2.2.2.2.2.1
                    have h4 := hI.out.2.2.2.2.2.2.2.2.2.2.1
                    have hlt := hI.out.2.2.2.2.2.2.2.2.2.2.2.2.2.1
                    rw [if_pos (by rfl)]
                    go_simp
                    exact hK.out _ _ ⟨x72, x76, x82, x86, cur, x5, wx.heap.size, (put1 (put1 uc 80 (.string s2)) 81 (.slice (some ⟨wx.heap.size, 0, none⟩) 1 1)), ⟨rfl, (hI.out.2.1.same (s := 80) (v := .string s2) e8).upd 9 rfl rfl rfl rfl, ⟨below_alloc hb.out _⟩, hI.out.2.2.2.1, hI.out.2.2.2.2.1, hI.out.2.2.2.2.2.1, hI.out.2.2.2.2.2.2.1, hI.out.2.2.2.2.2.2.2.1, ⟨fun _ => rfl⟩, ⟨fun a b => ⟨(h0.out a b).1, Kd.R_alloc (h0.out a b).2 _⟩⟩, ⟨fun a b => ⟨(h4.out a b).1, Kd.R_alloc (h4.out a b).2 _⟩⟩, ⟨fun a => absurd (q10.out a) (by rw [hLk]; decide)⟩, ⟨fun a => absurd (q10.out (p14.out a)) (by rw [hLk]; decide)⟩, ⟨fun a k e => Nat.lt_of_lt_of_le (hlt.out a k e) (below_alloc (Below.refl wx.heap.size wx) _).size⟩, ⟨fun _ => ⟨by simpa using heap_alloc_new wx _, fun a e => Nat.lt_irrefl _ (hlt.out a _ e)⟩⟩, hI.out.2.2.2.2.2.2.2.2.2.2.2.2.2.2.2⟩⟩
                  · intro LL a wx hI hLk hd K' hK
                    obtain ⟨x72, x76, x82, x86, cur, x5, g81, uc, hI⟩ := hI
                    obtain rfl := hI.out.1
                    have e4 := hI.out.2.1.at 4 rfl (hd 4 rfl)
                    have e9 := hI.out.2.1.at 9 rfl (hd 9 rfl)
                    have hb := hI.out.2.2.1
                    have h5 := hI.out.2.2.2.1
                    have p4 := hI.out.2.2.2.2.2.1
                    have p14 := hI.out.2.2.2.2.2.2.2.1
                    have h4 := hI.out.2.2.2.2.2.2.2.2.2.2.1
                    have hlt := hI.out.2.2.2.2.2.2.2.2.2.2.2.2.2.1
                    have h81 := hI.out.2.2.2.2.2.2.2.2.2.2.2.2.2.2.1
                    have hr0 := h4.out (hd 4 rfl) hLk
                    have hq := Kd.R_base hr0.2
                    have hcx := hlt.out (p4.out (hd 4 rfl))
                    refine Kd.R_append_rows_step Kd.string (Rr := Kd.K Kd.string wx) (w0 := wx) wb.heap.size (by rfl) (.tmp 76) (.tmp 81) 33 9 (.string ⟨#[]⟩) 16 rfl Try.underlying33 info9 rfl (by decide) (by omega) cur ([] ++ (x5_2.take (x7_4).toNat)) [s2] (some ⟨g81, 0, none⟩) 1 1 (fun _ => True) (fun _ => False) (e4.trans hr0.1.symm) e9 (hr0.2) (row1 (h81.out (hd 9 rfl)).1) (fun _ _ h => h) (fun _ h => h.elim) (fun _ _ => trivial) (Below.refl _ _) hb.out.size HLN.out.2.1 ?_
                    intro x' w3 ho hb1 hg1 hat1
                    exact hK.out _ _ ⟨x72, x76, x', x86, x', x5, g81, (put1 uc 82 x'), ⟨rfl, hI.out.2.1.upd 10 rfl rfl rfl rfl, ⟨hb.out.grown hg1 hb.out.size (fun q e => hq q e)⟩, hI.out.2.2.2.1, hI.out.2.2.2.2.1, hI.out.2.2.2.2.2.1, ⟨fun _ => hd 4 rfl⟩, ⟨fun _ => rfl⟩, ⟨fun _ => hd 9 rfl⟩, ⟨fun _ b => absurd (hd 4 rfl) (by rw [show LL 4 = false from b]; decide)⟩, ⟨fun _ b => Bool.noConfusion (show true = false from b)⟩, ⟨fun _ _ => ⟨rfl, ho⟩⟩, ⟨fun a => absurd (p14.out a) (by rw [hLk]; decide)⟩, ⟨fun _ => Kd.R_lt ho⟩, ⟨fun h9 => ⟨(hg1.block g81 (blk_lt (h81.out h9).1) (fun e => (h81.out h9).2 (p4.out (hd 4 rfl)) e.symm)).trans (h81.out h9).1, fun _ e => by rcases hat1 with h2 | ⟨b, h2, h3⟩; exact (h81.out h9).2 (p4.out (hd 4 rfl)) (h2.symm.trans e); have h4 := h2.symm.trans e; injection h4 with h4; have h5 := blk_lt (h81.out h9).1; omega⟩⟩, hI.out.2.2.2.2.2.2.2.2.2.2.2.2.2.2.2⟩⟩
                  · intro LL a wx hI hLk hd K' hK
                    obtain ⟨x72, x76, x82, x86, cur, x5, g81, uc, hI⟩ := hI
                    obtain rfl := hI.out.1
                    have h5 := hI.out.2.2.2.1
                    have hz := hI.out.2.2.2.2.1
                    have hu : uc 5 = .slice A5 x5_2.length c5 := h5.out (flag_off (fun h => (hz.out h).2) hLk)
                    rw [if_pos (by rfl)]
                    go_simp
                    exact hK.out _ _ ⟨x72, x76, x82, x86, cur, x5, g81, (put1 (put1 uc 5 (.slice A5 x5_2.length c5)) 83 (.slice A5 x5_2.length c5)), ⟨rfl, (hI.out.2.1.same (s := 5) (v := .slice A5 x5_2.length c5) hu).upd 11 rfl rfl rfl rfl, hI.out.2.2.1, ⟨fun _ => rfl⟩, ⟨fun h => ⟨upd_old (hz.out h).1, rfl⟩⟩, hI.out.2.2.2.2.2.1, hI.out.2.2.2.2.2.2.1, hI.out.2.2.2.2.2.2.2.1, hI.out.2.2.2.2.2.2.2.2.1, hI.out.2.2.2.2.2.2.2.2.2.1, hI.out.2.2.2.2.2.2.2.2.2.2.1, hI.out.2.2.2.2.2.2.2.2.2.2.2.1, hI.out.2.2.2.2.2.2.2.2.2.2.2.2.1, hI.out.2.2.2.2.2.2.2.2.2.2.2.2.2.1, hI.out.2.2.2.2.2.2.2.2.2.2.2.2.2.2.1, hI.out.2.2.2.2.2.2.2.2.2.2.2.2.2.2.2⟩⟩
                  · intro LL a wx hI hLk hd K' hK
                    obtain ⟨x72, x76, x82, x86, cur, x5, g81, uc, hI⟩ := hI
                    obtain rfl := hI.out.1
                    rw [if_pos (by rfl)]
                    go_simp
                    exact hK.out _ _ ⟨x72, x76, x82, x86, cur, x5, g81, (put1 uc 84 (.int .i64 x7_4)), ⟨rfl, hI.out.2.1.upd 12 rfl rfl rfl rfl, hI.out.2.2.1, hI.out.2.2.2.1, hI.out.2.2.2.2.1, hI.out.2.2.2.2.2.1, hI.out.2.2.2.2.2.2.1, hI.out.2.2.2.2.2.2.2.1, hI.out.2.2.2.2.2.2.2.2.1, hI.out.2.2.2.2.2.2.2.2.2.1, hI.out.2.2.2.2.2.2.2.2.2.2.1, hI.out.2.2.2.2.2.2.2.2.2.2.2.1, hI.out.2.2.2.2.2.2.2.2.2.2.2.2.1, hI.out.2.2.2.2.2.2.2.2.2.2.2.2.2.1, hI.out.2.2.2.2.2.2.2.2.2.2.2.2.2.2.1, hI.out.2.2.2.2.2.2.2.2.2.2.2.2.2.2.2⟩⟩
                  · intro LL a wx hI hLk hd K' hK
                    obtain ⟨x72, x76, x82, x86, cur, x5, g81, uc, hI⟩ := hI
                    obtain rfl := hI.out.1
                    have e11 := hI.out.2.1.at 11 rfl (hd 11 rfl)
                    have e12 := hI.out.2.1.at 12 rfl (hd 12 rfl)
                    have hcut := HCF.out
                    rw [if_pos (by rfl)]
                    go_simp
                    exact hK.out _ _ ⟨x72, x76, x82, x86, cur, x5, g81, (put1 (put1 (put1 uc 83 (.slice A5 x5_2.length c5)) 84 (.int .i64 x7_4)) 85 (.slice A85 n85 m85)), ⟨rfl, ((hI.out.2.1.same (s := 83) (v := .slice A5 x5_2.length c5) e11).same (s := 84) (v := .int .i64 x7_4) e12).upd 13 rfl rfl rfl rfl, hI.out.2.2.1, hI.out.2.2.2.1, hI.out.2.2.2.2.1, hI.out.2.2.2.2.2.1, hI.out.2.2.2.2.2.2.1, hI.out.2.2.2.2.2.2.2.1, hI.out.2.2.2.2.2.2.2.2.1, hI.out.2.2.2.2.2.2.2.2.2.1, hI.out.2.2.2.2.2.2.2.2.2.2.1, hI.out.2.2.2.2.2.2.2.2.2.2.2.1, hI.out.2.2.2.2.2.2.2.2.2.2.2.2.1, hI.out.2.2.2.2.2.2.2.2.2.2.2.2.2.1, hI.out.2.2.2.2.2.2.2.2.2.2.2.2.2.2.1, hI.out.2.2.2.2.2.2.2.2.2.2.2.2.2.2.2⟩⟩
                  · intro LL a wx hI hLk hd K' hK
                    obtain ⟨x72, x76, x82, x86, cur, x5, g81, uc, hI⟩ := hI
                    obtain rfl := hI.out.1
                    have e10 := hI.out.2.1.at 10 rfl (hd 10 rfl)
                    have e13 := hI.out.2.1.at 13 rfl (hd 13 rfl)
                    have hb := hI.out.2.2.1
                    have h5 := hI.out.2.2.2.1
                    have p4 := hI.out.2.2.2.2.2.1
                    have p10 := hI.out.2.2.2.2.2.2.1
                    have h4 := hI.out.2.2.2.2.2.2.2.2.2.2.1
                    have h10 := hI.out.2.2.2.2.2.2.2.2.2.2.2.1
                    have hlt := hI.out.2.2.2.2.2.2.2.2.2.2.2.2.2.1
                    have h81 := hI.out.2.2.2.2.2.2.2.2.2.2.2.2.2.2.1
                    have h15 := hI.out.2.2.2.2.2.2.2.2.2.2.2.2.2.2.2
                    have hr0 := h10.out (hd 10 rfl) hLk
                    have hq := Kd.R_base hr0.2
                    have hcx := hlt.out (p4.out (p10.out (hd 10 rfl)))
                    refine Kd.R_append_rows_step Kd.string (Rr := Kd.K Kd.string wx) (w0 := wx) wb.heap.size (by rfl) (.tmp 82) (.tmp 85) 33 9 (.string ⟨#[]⟩) 16 rfl Try.underlying33 info9 rfl (by decide) (by omega) cur (([] ++ (x5_2.take (x7_4).toNat)) ++ [s2]) (x5_2.drop (x7_4).toNat) A85 n85 m85 (fun _ => True) (fun _ => False) (e10.trans hr0.1.symm) e13 (hr0.2) (HCD.out _ (Kd.R_below HO5.out hb.out)) (fun _ _ h => h) (fun _ h => h.elim) (fun _ _ => trivial) (Below.refl _ _) hb.out.size HLN.out.2.2 ?_
                    intro x' w3 ho hb1 hg1 hat1
                    exact hK.out _ _ ⟨x72, x76, x82, x', x', x5, g81, (put1 uc 86 x'), ⟨rfl, hI.out.2.1.upd 14 rfl rfl rfl rfl, ⟨hb.out.grown hg1 hb.out.size (fun q e => hq q e)⟩, hI.out.2.2.2.1, hI.out.2.2.2.2.1, hI.out.2.2.2.2.2.1, hI.out.2.2.2.2.2.2.1, ⟨fun _ => hd 10 rfl⟩, hI.out.2.2.2.2.2.2.2.2.1, ⟨fun _ b => absurd (p10.out (hd 10 rfl)) (by rw [show LL 4 = false from b]; decide)⟩, ⟨fun _ b => absurd (hd 10 rfl) (by rw [show LL 10 = false from b]; decide)⟩, ⟨fun _ b => Bool.noConfusion (show true = false from b)⟩, ⟨fun _ => ⟨rfl, ho⟩⟩, ⟨fun _ => Kd.R_lt ho⟩, ⟨fun h9 => ⟨(hg1.block g81 (blk_lt (h81.out h9).1) (fun e => (h81.out h9).2 (p4.out (p10.out (hd 10 rfl))) e.symm)).trans (h81.out h9).1, fun _ e => by rcases hat1 with h2 | ⟨b, h2, h3⟩; exact (h81.out h9).2 (p4.out (p10.out (hd 10 rfl))) (h2.symm.trans e); have h4 := h2.symm.trans e; injection h4 with h4; have h5 := blk_lt (h81.out h9).1; omega⟩⟩, ⟨fun a => absurd (h15.out a).1 (by rw [hLk]; decide)⟩⟩⟩
                  · intro LL a wx hI hLk hd K' hK
                    obtain ⟨x72, x76, x82, x86, cur, x5, g81, uc, hI⟩ := hI
                    obtain rfl := hI.out.1
                    have e14 := hI.out.2.1.at 14 rfl (hd 14 rfl)
                    rw [if_pos (by rfl)]
                    go_simp
                    exact hK.out _ _ ⟨x72, x76, x82, x86, cur, x86, g81, (put1 (put1 uc 86 (x86)) 5 (x86)), ⟨rfl, (hI.out.2.1.same (s := 86) (v := x86) e14).upd 15 rfl rfl rfl rfl, hI.out.2.2.1, ⟨fun b => Bool.noConfusion (show true = false from b)⟩, ⟨fun _ => ⟨hd 1 rfl, hd 11 rfl⟩⟩, hI.out.2.2.2.2.2.1, hI.out.2.2.2.2.2.2.1, hI.out.2.2.2.2.2.2.2.1, hI.out.2.2.2.2.2.2.2.2.1, hI.out.2.2.2.2.2.2.2.2.2.1, hI.out.2.2.2.2.2.2.2.2.2.2.1, hI.out.2.2.2.2.2.2.2.2.2.2.2.1, hI.out.2.2.2.2.2.2.2.2.2.2.2.2.1, hI.out.2.2.2.2.2.2.2.2.2.2.2.2.2.1, hI.out.2.2.2.2.2.2.2.2.2.2.2.2.2.2.1, ⟨fun _ => ⟨hd 14 rfl, rfl⟩⟩⟩⟩
                · intro LL a wc_ hall hI
                  obtain ⟨x72, x76, x82, x86, cur, x5, g81, uc, hI⟩ := hI
                  obtain rfl := hI.out.1
                  have hb := hI.out.2.2.1
                  have h5 := hI.out.2.2.2.1
                  have hz := hI.out.2.2.2.2.1
                  have p4 := hI.out.2.2.2.2.2.1
                  have p10 := hI.out.2.2.2.2.2.2.1
                  have p14 := hI.out.2.2.2.2.2.2.2.1
                  have q10 := hI.out.2.2.2.2.2.2.2.2.1
                  have h0 := hI.out.2.2.2.2.2.2.2.2.2.1
                  have h4 := hI.out.2.2.2.2.2.2.2.2.2.2.1
                  have h10 := hI.out.2.2.2.2.2.2.2.2.2.2.2.1
                  have h14 := hI.out.2.2.2.2.2.2.2.2.2.2.2.2.1
                  have hlt := hI.out.2.2.2.2.2.2.2.2.2.2.2.2.2.1
                  have h81 := hI.out.2.2.2.2.2.2.2.2.2.2.2.2.2.2.1
                  have h15 := hI.out.2.2.2.2.2.2.2.2.2.2.2.2.2.2.2
                  have e15 := hI.out.2.1.at 15 rfl (hall 15 (by decide))
                  rw [e15]
                  have HO6 : Aside0 (Kd.R Kd.string 9 wc_ w.heap.size (fun _ => True) x5 ((([] ++ (x5_2.take (x7_4).toNat)) ++ [s2]) ++ (x5_2.drop (x7_4).toNat))) := ⟨by rw [(h15.out (hall 15 (by decide))).2, ← (h14.out (hall 14 (by decide))).1]; exact Kd.R_lower (h14.out (hall 14 (by decide))).2 HBS.out⟩
                  have HBw_uc := Aside0.mk hb.out
                  clear hI e15 hb h5 hz p4 p10 p14 q10 h0 h4 h10 h14 hlt h81 h15
                  go_wp2
                  go_roundg k4
                  case measure => have := HJ4.out; have := HK2.out; have := HJ9.out; have := HK4.out; omega
                  case rel => exact ⟨((([] ++ (x5_2.take (x7_4).toNat)) ++ [s2]) ++ (x5_2.drop (x7_4).toNat)), (wrap64 (x6_2 + 1)), (by first | rfl | (simp; done) | (simp [*]; done)), H', ⟨by have := HJ4.out; have := HK2.out; have := HJ9.out; have := HK4.out; omega⟩, HO6, ⟨below_step (below_step (below_step (HB.out) HBw_ua.out) HBw_ub.out) HBw_uc.out⟩⟩

end Go.Proofs.Ytbfllekkbmeibaa.PSpanCuts

/- The keys of a map of replies, sorted: the library's contracts at this program; maps as rising rows (no condition). -/
import Derived.Test.YtdeepnpbibhfiaaProg
import Derived.Test.YtdeepnpbibhfiaaWTree
import Derived.Test.YtdeepnpbibhfiaaWReg3
import Derived.Test.YtdeepnpbibhfiaaWReg2
import Derived.WalkSpells
import Derived.Test.YtdeepnpbibhfiaaWFrz
import Derived.Test.YtdeepnpbibhfiaaWFn
import Derived.Test.YtdeepnpbibhfiaaWLit
import Derived.Shelf.SlIterI.Nil
import Derived.Shelf.SortM.Plain
import Derived.Shelf.SortM.SortNone
import Derived.Maps.Own
import Derived.Maps.OwnOps
import Derived.WalkKit
import Derived.Deep.RegionHeld3
namespace Go.Proofs
open Go.RowKit Go.Maps Go.Sort Go.Shelf
def Try.keysA_ren : Go.Shelf.Ren := ⟨fun | 7 => 21 | 10 => 29 | n => n, fun | 23 => 54 | 26 => 3 | 3 => 33 | 28 => 62 | 0 => 0 | 27 => 61 | 33 => 73 | 4 => 4 | n => n, fun | n => n⟩
theorem Try.keysA : Go.Proofs.SlLaysZI.n7 Try.prog Try.keysA_ren := {
  mixed := by kernel_rfl
  f7 := ⟨"maps.Keys[map[int]gazetteer/api.Reply,int,gazetteer/api.Reply]", by decide, Try.func21.trans (congrArg some (by kernel_rfl))⟩
  f10 := ⟨"maps.Keys[map[int]gazetteer/api.Reply,int,gazetteer/api.Reply]$1", by decide, Try.func29.trans (congrArg some (by kernel_rfl))⟩
  t0 := Try.underlying0
  a0 := Try.isAgg0
  z0 := Try.sizeOf0
  v0 := Try.zeroValue0
  t4 := Try.underlying4
  a4 := Try.isAgg4
  z4 := Try.sizeOf4
  v4 := Try.zeroValue4
  t23 := Try.underlying54
  a23 := Try.isAgg54
  z23 := Try.sizeOf54
  v23 := Try.zeroValue54
  t26 := Try.underlying3
  a26 := Try.isAgg3
  z26 := Try.sizeOf3
  v26 := Try.zeroValue3
  t27 := Try.underlying61
  a27 := Try.isAgg61
  z27 := Try.sizeOf61
  v27 := Try.zeroValue61
  t28 := Try.underlying62
  a28 := Try.isAgg62
  z28 := Try.sizeOf62
  v28 := Try.zeroValue62
  t33 := Try.underlying73
  a33 := Try.isAgg73
  z33 := Try.sizeOf73
  v33 := Try.zeroValue73 }
def Try.sortedA_ren : Go.Shelf.Ren := ⟨fun | 6 => 20 | 8 => 27 | 9 => 28 | 11 => 31 | 13 => 33 | 12 => 32 | 23 => 43 | 24 => 44 | 14 => 34 | 15 => 35 | 16 => 36 | 17 => 37 | 18 => 38 | 19 => 39 | 20 => 40 | 21 => 41 | 22 => 42 | 25 => 45 | 26 => 46 | 27 => 47 | 28 => 48 | 29 => 49 | 30 => 50 | 31 => 51 | n => n, fun | 26 => 3 | 28 => 62 | 24 => 59 | 0 => 0 | 3 => 3 | 37 => 79 | 48 => 89 | 50 => 91 | 4 => 4 | 40 => 82 | 39 => 81 | 45 => 64 | 5 => 5 | 9 => 9 | 51 => 92 | 55 => 96 | 57 => 98 | 58 => 99 | 33 => 73 | n => n, fun | n => n⟩
theorem Try.sortedA : Go.Proofs.SlLaysZI.n6 Try.prog Try.sortedA_ren := {
  mixed := by kernel_rfl
  f6 := ⟨"slices.Sorted[int]", by decide, Try.func20.trans (congrArg some (by kernel_rfl))⟩
  f8 := ⟨"slices.Collect[int]", by decide, Try.func27.trans (congrArg some (by kernel_rfl))⟩
  f11 := ⟨"slices.AppendSeq[[]int,int]", by decide, Try.func31.trans (congrArg some (by kernel_rfl))⟩
  t0 := Try.underlying0
  a0 := Try.isAgg0
  z0 := Try.sizeOf0
  v0 := Try.zeroValue0
  t24 := Try.underlying59
  a24 := Try.isAgg59
  z24 := Try.sizeOf59
  v24 := Try.zeroValue59
  t26 := Try.underlying3
  a26 := Try.isAgg3
  z26 := Try.sizeOf3
  v26 := Try.zeroValue3
  t28 := Try.underlying62
  a28 := Try.isAgg62
  z28 := Try.sizeOf62
  v28 := Try.zeroValue62
  i26 := by kernel_rfl }
def Try.sortA_ren : Go.Shelf.Ren := ⟨fun | 5 => 28 | 8 => 33 | 7 => 32 | 19 => 43 | 20 => 44 | 10 => 34 | 11 => 35 | 12 => 36 | 13 => 37 | 14 => 38 | 15 => 39 | 16 => 40 | 17 => 41 | 18 => 42 | 30 => 45 | 31 => 46 | 32 => 47 | 33 => 48 | 34 => 49 | 35 => 50 | 40 => 51 | n => n, fun | 23 => 59 | 25 => 3 | 3 => 3 | 32 => 79 | 22 => 59 | 0 => 0 | 44 => 89 | 46 => 91 | 4 => 4 | 36 => 82 | 35 => 81 | 41 => 64 | 5 => 5 | 9 => 9 | 53 => 92 | 57 => 96 | 63 => 98 | 64 => 99 | n => n, fun | n => n⟩
theorem Try.sortA : Go.Proofs.SlLaysM.n5 Try.prog Try.sortA_ren := {
  mixed := by kernel_rfl
  f5 := ⟨"slices.Sort[[]int,int]", by decide, Try.func28.trans (congrArg some (by kernel_rfl))⟩
  f7 := ⟨"slices.pdqsortOrdered[int]", by decide, Try.func32.trans (congrArg some (by kernel_rfl))⟩
  f8 := Try.func33.trans (congrArg some (by kernel_rfl))
  f10 := ⟨"slices.insertionSortOrdered[int]", by decide, Try.func34.trans (congrArg some (by kernel_rfl))⟩
  f11 := ⟨"slices.heapSortOrdered[int]", by decide, Try.func35.trans (congrArg some (by kernel_rfl))⟩
  f12 := ⟨"slices.breakPatternsOrdered[int]", by decide, Try.func36.trans (congrArg some (by kernel_rfl))⟩
  f13 := ⟨"slices.choosePivotOrdered[int]", by decide, Try.func37.trans (congrArg some (by kernel_rfl))⟩
  f14 := ⟨"slices.reverseRangeOrdered[int]", by decide, Try.func38.trans (congrArg some (by kernel_rfl))⟩
  f15 := ⟨"slices.partialInsertionSortOrdered[int]", by decide, Try.func39.trans (congrArg some (by kernel_rfl))⟩
  f16 := ⟨"cmp.Less[int]", by decide, Try.func40.trans (congrArg some (by kernel_rfl))⟩
  f17 := ⟨"slices.partitionEqualOrdered[int]", by decide, Try.func41.trans (congrArg some (by kernel_rfl))⟩
  f18 := ⟨"slices.partitionOrdered[int]", by decide, Try.func42.trans (congrArg some (by kernel_rfl))⟩
  f19 := Try.func43.trans (congrArg some (by kernel_rfl))
  f20 := Try.func44.trans (congrArg some (by kernel_rfl))
  f30 := ⟨"slices.siftDownOrdered[int]", by decide, Try.func45.trans (congrArg some (by kernel_rfl))⟩
  f31 := Try.func46.trans (congrArg some (by kernel_rfl))
  f32 := Try.func47.trans (congrArg some (by kernel_rfl))
  f33 := ⟨"slices.medianAdjacentOrdered[int]", by decide, Try.func48.trans (congrArg some (by kernel_rfl))⟩
  f34 := ⟨"slices.medianOrdered[int]", by decide, Try.func49.trans (congrArg some (by kernel_rfl))⟩
  f35 := ⟨"cmp.isNaN[int]", by decide, Try.func50.trans (congrArg some (by kernel_rfl))⟩
  f40 := ⟨"slices.order2Ordered[int]", by decide, Try.func51.trans (congrArg some (by kernel_rfl))⟩
  t0 := Try.underlying0
  a0 := Try.isAgg0
  z0 := Try.sizeOf0
  v0 := Try.zeroValue0
  t3 := Try.underlying3
  a3 := Try.isAgg3
  z3 := Try.sizeOf3
  v3 := Try.zeroValue3
  t4 := Try.underlying4
  a4 := Try.isAgg4
  z4 := Try.sizeOf4
  v4 := Try.zeroValue4
  t5 := Try.underlying5
  a5 := Try.isAgg5
  z5 := Try.sizeOf5
  v5 := Try.zeroValue5
  t9 := Try.underlying9
  a9 := Try.isAgg9
  z9 := Try.sizeOf9
  v9 := Try.zeroValue9
  t22 := Try.underlying59
  a22 := Try.isAgg59
  z22 := Try.sizeOf59
  v22 := Try.zeroValue59
  t23 := Try.underlying59
  a23 := Try.isAgg59
  z23 := Try.sizeOf59
  v23 := Try.zeroValue59
  t25 := Try.underlying3
  a25 := Try.isAgg3
  z25 := Try.sizeOf3
  v25 := Try.zeroValue3
  t32 := Try.underlying79
  a32 := Try.isAgg79
  z32 := Try.sizeOf79
  v32 := Try.zeroValue79
  t35 := Try.underlying81
  a35 := Try.isAgg81
  z35 := Try.sizeOf81
  v35 := Try.zeroValue81
  t36 := Try.underlying82
  a36 := Try.isAgg82
  z36 := Try.sizeOf82
  v36 := Try.zeroValue82
  t41 := Try.underlying64
  a41 := Try.isAgg64
  z41 := Try.sizeOf64
  v41 := Try.zeroValue64
  t44 := Try.underlying89
  a44 := Try.isAgg89
  z44 := Try.sizeOf89
  v44 := Try.zeroValue89
  t46 := Try.underlying91
  a46 := Try.isAgg91
  z46 := Try.sizeOf91
  v46 := Try.zeroValue91
  t53 := Try.underlying92
  a53 := Try.isAgg92
  z53 := Try.sizeOf92
  v53 := Try.zeroValue92
  t57 := Try.underlying96
  a57 := Try.isAgg96
  z57 := Try.sizeOf96
  v57 := Try.zeroValue96
  t63 := Try.underlying98
  a63 := Try.isAgg98
  z63 := Try.sizeOf98
  v63 := Try.zeroValue98
  t64 := Try.underlying99
  a64 := Try.isAgg99
  z64 := Try.sizeOf99
  v64 := Try.zeroValue99 }
/-- slices.Sort's two contracts at this dump, at the fence that asks nothing. -/
theorem Try.sortsA (m : Nat) : AnyZI.SortsIn Try.prog Try.sortedA_ren Fence.wide m :=
  ⟨fun blk off cap ss W hH hblk hsz => callsIn_wide.2 (AnyM.slices_Sort_int Try.sortA blk off cap ss W hH hblk hsz),
   fun p cap W => callsIn_wide.2 (AnyM.slices_Sort_int_none Try.sortA p cap W)⟩
theorem Try.keys21 (b : Nat) (w : World) : Calls Try.prog 21 #[.map (some b)] w fun e w' => e = .returned (.func (.func 29) #[] #[.pointer (some ⟨w.heap.size, 0, none⟩)]) ∧ w' = w.alloc (.cells #[.map (some b)] 54) :=
  (callsIn_wide (n := 5)).1 (AnyZI.keys_in Try.keysA Fence.wide 5 trivial rfl (some b) w)
theorem Try.sorted20 {H : Type} (b nn : Nat) (D0 : DataW H) (R : Value → Option (DataW H × List MemPlace)) (w : World) (hown : w.ownsMap Try.prog 3 R b nn D0) (hmax : Maps.size D0 ≤ maxLen) (hbytes : Maps.size D0 * 8 ≤ 140737488355328) :
    Calls Try.prog 20 #[.func (.func 29) #[] #[.pointer (some ⟨w.heap.size, 0, none⟩)]] (w.alloc (.cells #[.map (some b)] 54)) fun e w' => ∃ (v : Value) (ss : List Int), e = .returned v ∧ ss.Perm (intKeys D0) ∧
      w'.ownsRow w.heap.size 3 1 v ss.length ((ss.mergeSort (fun x y => decide (x ≤ y))).map encZ) ∧ Below w.heap.size w w' := by
  have hbl := hown.lt
  have hseq : SeqGives Fence.wide 2 Try.prog 29 #[.pointer (some ⟨w.heap.size, 0, none⟩)] encZ (fun ss => ss.Perm (intKeys D0)) (Maps.size D0) (w.alloc (.cells #[.map (some b)] 54)) :=
    AnyZI.keys_gives (ρ := Try.keysA_ren) { Try.keysA with } Fence.wide _ trivial rfl (by omega) w.heap.size b nn D0 _ (by simp) (by simp) (by
      obtain ⟨es, clock, hb, Ft, hs, hD⟩ := hown
      exact ⟨es, clock, (Below.heap_alloc _ _ b hbl).trans hb, Ft, hs, hD⟩)
  have cS := AnyZI.sorted_in Try.sortedA Fence.wide 5 trivial trivial trivial trivial rfl (by omega) (Try.sortsA _) (enters_of Try.func28 (by kernel_rfl) rfl) 29 #[.pointer (some ⟨w.heap.size, 0, none⟩)] trivial (enters_of Try.func29 (by kernel_rfl) rfl) _ _ hmax hbytes _ hseq
  change CallsIn _ _ Try.prog 20 _ _ _ at cS
  refine ((callsIn_wide (n := 5)).1 cS).mono ?_
  rintro e w' ⟨v, ss, rfl, hS, hrow, hnil, hb⟩
  exact ⟨v, ss, rfl, hS, ownsRow_base_a hrow (by simp), ((Below.refl _ w).alloc (Nat.le_refl _) _).trans (hb.mono (by simp))⟩
end Go.Proofs
namespace Go.Proofs.YtdeepnpbibhfiaaW.PrintOnce
open Go Go.RowKit Go.Proofs.YtdeepnpbibhfiaaW.PrintWords Go.Proofs.YtdeepnpbibhfiaaW.PrintLast Go.Proofs.YtdeepnpbibhfiaaW.PrintMore Go.Proofs.YtdeepnpbibhfiaaW.PrintReg Go.Proofs.YtdeepnpbibhfiaaW.PrintTree
set_option linter.unusedVariables false
set_option linter.unusedSimpArgs false
/-! ### maps as rising rows -/
def RH (v : Value) : Option (DataW Value × List MemPlace) := some (.held v, [])
def mk1 (p : Int × Value) : Lit × DataW Value := (.int .i64 p.1, .held p.2)
/-- A row of keys and values, as a map's datum. -/
def mD (ms : List (Int × Value)) : DataW Value := .map (ms.map mk1)
def insA (x : Int × Value) : List (Int × Value) → List (Int × Value)
  | [] => [x]
  | y :: r => if x.1 < y.1 then x :: y :: r else y :: insA x r
def putA (c : Int) (v : Value) (ms : List (Int × Value)) : List (Int × Value) := insA (c, v) (ms.filter (fun p => !decide (p.1 = c)))
def lkA (ms : List (Int × Value)) (c : Int) : Option Value := (ms.find? (fun p => decide (p.1 = c))).map (·.2)
theorem same_int (a b : Int) : (Lit.int .i64 a).sameKey (.int .i64 b) = decide (a = b) := by simp [Lit.sameKey]
theorem ins_mk (x : Int × Value) : ∀ ms : List (Int × Value), DataW.insert (mk1 x) (ms.map mk1) = (insA x ms).map mk1
  | [] => rfl
  | y :: r => by
    unfold insA
    rw [List.map_cons, DataW.insert]
    have e : (mk1 x).1.before (mk1 y).1 = decide (x.1 < y.1) := rfl
    rw [e]
    by_cases h : x.1 < y.1
    · rw [if_pos (decide_eq_true h), if_pos h]; rfl
    · rw [if_neg (by simpa using h), if_neg h, ins_mk x r]; rfl
theorem filt_mk (c : Int) : ∀ ms : List (Int × Value), (ms.map mk1).filter (fun p => !p.1.sameKey (.int .i64 c)) = (ms.filter (fun p => !decide (p.1 = c))).map mk1
  | [] => rfl
  | y :: r => by
    rw [List.map_cons, List.filter_cons, List.filter_cons]
    have e : (mk1 y).1.sameKey (.int .i64 c) = decide (y.1 = c) := same_int _ _
    rw [e, filt_mk c r]
    by_cases h : y.1 = c <;> simp [h]
theorem put_mD (c : Int) (v : Value) (ms : List (Int × Value)) : (mD ms).put (.int .i64 c) (.held v) = mD (putA c v ms) := by
  unfold mD putA
  show DataW.map (DataW.insert (mk1 (c, v)) ((ms.map mk1).filter (fun p => !p.1.sameKey (.int .i64 c)))) = _
  rw [filt_mk, ins_mk]
theorem find_mk (c : Int) : ∀ ms : List (Int × Value), (ms.map mk1).find? (fun p => p.1.sameKey (.int .i64 c)) = (ms.find? (fun p => decide (p.1 = c))).map mk1
  | [] => rfl
  | y :: r => by
    rw [List.map_cons, List.find?_cons, List.find?_cons]
    have e : (mk1 y).1.sameKey (.int .i64 c) = decide (y.1 = c) := same_int _ _
    rw [e, find_mk c r]
    cases decide (y.1 = c) <;> rfl
theorem atKey_mD (c : Int) (ms : List (Int × Value)) (z : DataW Value) : (mD ms).atKey (.int .i64 c) z = match lkA ms c with | some v => .held v | none => z := by
  unfold mD DataW.atKey
  simp only []
  rw [find_mk]
  unfold lkA
  cases ms.find? (fun p => decide (p.1 = c)) <;> rfl
theorem keys_mD (ms : List (Int × Value)) : intKeys (mD ms) = ms.map (·.1) := by
  unfold mD intKeys
  simp only []
  rw [List.map_map]; rfl
theorem size_mD (ms : List (Int × Value)) : Maps.size (mD ms) = ms.length := by
  show (ms.map mk1).length = _
  rw [List.length_map]
/-- Rising keys. -/
def RisA (ms : List (Int × Value)) : Prop := ms.Pairwise (fun p q => p.1 < q.1)
theorem sort_keys {ms : List (Int × Value)} (h : RisA ms) {ss : List Int} (hp : ss.Perm (ms.map (·.1))) : ss.mergeSort (fun x y => decide (x ≤ y)) = ms.map (·.1) := by
  rw [mergeSort_of_perm_i hp]
  refine List.mergeSort_of_pairwise ?_
  have h2 : (ms.map (·.1)).Pairwise (· < ·) := List.pairwise_map.2 h
  exact h2.imp (fun hab => by simp only [leI, decide_eq_true_eq]; omega)
theorem own_tight {P : Program} {k : TypeId} {w : World} {b n : Nat} {ms : List (Int × Value)} (h : w.ownsMap P k RH b n (mD ms)) : w.ownsMap P k RH b ms.length (mD ms) := by
  obtain ⟨es, clock, hb, F, hs, hD⟩ := h
  refine ⟨es, clock, hb, F, ?_, hD⟩
  have h2 := congrArg Maps.size hD
  rw [size_mD, Maps.size_eq, length_sorted, List.length_map] at h2
  have h3 : es.toList.length = es.size := by simp
  omega
end Go.Proofs.YtdeepnpbibhfiaaW.PrintOnce

/- The library's utf8.ValidString at this program: its laying, the two tables that it reads, that they stay; the runes of a string as the model lays them. No condition. -/
import Derived.Test.YtdmahdgcfaieoaaDoorProg
import Derived.Test.YtdmahdgcfaieoaaDoorWMore
import Derived.Test.YtdmahdgcfaieoaaDoorWUtf
import Derived.Shelf.Unicode.ValidAny
import Derived.Shelf.Utf8.AppendRunePlain
import Derived.Laws.IdiomStrings
import Derived.Below
namespace Go.Proofs
open Go.Shelf
def Tryd.laysValid_ren : Go.Shelf.Ren := ⟨fun | 196 => 18 | 259 => 26 | n => n, fun | 9 => 9 | 4 => 4 | 3 => 3 | 5 => 5 | 12 => 12 | 119 => 51 | 0 => 0 | 46 => 44 | 139 => 54 | 138 => 53 | 53 => 56 | n => n, fun | 3 => 0 | 4 => 1 | n => n⟩
theorem Tryd.laysValid : Go.Proofs.Lays.n196 Tryd.prog Tryd.laysValid_ren := {
  mixed := by kernel_rfl
  f196 := Tryd.func18.trans (congrArg some (by kernel_rfl))
  f259 := Tryd.func26.trans (congrArg some (by kernel_rfl))
  t0 := Tryd.underlying0
  a0 := Tryd.isAgg0
  z0 := Tryd.sizeOf0
  v0 := Tryd.zeroValue0
  t3 := Tryd.underlying3
  a3 := Tryd.isAgg3
  z3 := Tryd.sizeOf3
  v3 := Tryd.zeroValue3
  t4 := Tryd.underlying4
  a4 := Tryd.isAgg4
  z4 := Tryd.sizeOf4
  v4 := Tryd.zeroValue4
  t5 := Tryd.underlying5
  a5 := Tryd.isAgg5
  z5 := Tryd.sizeOf5
  v5 := Tryd.zeroValue5
  t9 := Tryd.underlying9
  a9 := Tryd.isAgg9
  z9 := Tryd.sizeOf9
  v9 := Tryd.zeroValue9
  t12 := Tryd.underlying12
  a12 := Tryd.isAgg12
  z12 := Tryd.sizeOf12
  v12 := Tryd.zeroValue12
  t46 := Tryd.underlying44
  a46 := Tryd.isAgg44
  z46 := Tryd.sizeOf44
  v46 := Tryd.zeroValue44
  t53 := Tryd.underlying56
  a53 := Tryd.isAgg56
  z53 := Tryd.sizeOf56
  v53 := Tryd.zeroValue56
  t119 := Tryd.underlying51
  a119 := Tryd.isAgg51
  z119 := Tryd.sizeOf51
  t138 := Tryd.underlying53
  a138 := Tryd.isAgg53
  z138 := Tryd.sizeOf53
  v138 := Tryd.zeroValue53
  t139 := Tryd.underlying54
  a139 := Tryd.isAgg54
  z139 := Tryd.sizeOf54
  v139 := Tryd.zeroValue54
  g3 := by kernel_rfl
  g4 := by kernel_rfl }
def Tryd.laysAppend_ren : Go.Shelf.Ren := ⟨fun | 242 => 23 | 278 => 27 | n => n, fun | 37 => 45 | 21 => 21 | 51 => 55 | 4 => 4 | 5 => 5 | 46 => 44 | n => n, fun | n => n⟩
theorem Tryd.laysAppend : Go.Proofs.Lays.n242 Tryd.prog Tryd.laysAppend_ren := {
  mixed := by kernel_rfl
  f242 := Tryd.func23.trans (congrArg some (by kernel_rfl))
  f278 := Tryd.func27.trans (congrArg some (by kernel_rfl))
  t4 := Tryd.underlying4
  a4 := Tryd.isAgg4
  z4 := Tryd.sizeOf4
  v4 := Tryd.zeroValue4
  t5 := Tryd.underlying5
  a5 := Tryd.isAgg5
  z5 := Tryd.sizeOf5
  v5 := Tryd.zeroValue5
  t21 := Tryd.underlying21
  a21 := Tryd.isAgg21
  z21 := Tryd.sizeOf21
  v21 := Tryd.zeroValue21
  t37 := Tryd.underlying45
  a37 := Tryd.isAgg45
  z37 := Tryd.sizeOf45
  v37 := Tryd.zeroValue45
  t46 := Tryd.underlying44
  a46 := Tryd.isAgg44
  z46 := Tryd.sizeOf44
  v46 := Tryd.zeroValue44
  t51 := Tryd.underlying55
  a51 := Tryd.isAgg55
  z51 := Tryd.sizeOf55
  v51 := Tryd.zeroValue55 }

end Go.Proofs
namespace Go.Proofs.YtdmahdgcfaieoaaDoorW.PrintMore
open Go.RowKit Go.Proofs.YtdmahdgcfaieoaaDoorW.PrintWords
/-- The tables of unicode/utf8 lie as its text lays them. -/
def UT (w : World) : Prop := Lib.Utf8Tabs (Tryd.laysValid_ren.g 3) (Tryd.laysValid_ren.g 4) w
theorem ut_below {w w' : World} (h : UT w) (hb : Below w.heap.size w w') : UT w' := by
  refine ⟨fun c hc => ?_, fun i hi => ?_⟩
  · have h1 := h.1 c hc
    exact (hb.cell (World.block_lt_of_cell? w _ h1)).trans h1
  · have h1 := h.2 i hi
    exact ⟨(hb.cell (World.block_lt_of_cell? w _ h1.1)).trans h1.1, (hb.cell (World.block_lt_of_cell? w _ h1.2)).trans h1.2⟩
open Go.Lib Go.Proofs.YtdmahdgcfaieoaaDoorW.Utf in
theorem runesFrom_at (s : ByteArray) : ∀ (n pos : Nat) (acc : Array Value), Conv.runesFrom s n pos acc = acc ++ ((runesGo n (s.data.toList.drop pos)).map fun r => Value.int .i32 r).toArray
  | 0, pos, acc => by simp [Conv.runesFrom, runesGo]
  | n + 1, pos, acc => by
    unfold Conv.runesFrom runesGo
    by_cases h : pos < s.size
    · have hne : s.data.toList.drop pos ≠ [] := by
        intro h2
        have h3 := congrArg List.length h2
        rw [List.length_drop, ← Lib.size_eq] at h3
        simp at h3
        omega
      rw [if_pos h, if_neg hne]
      simp only []
      rw [runesFrom_at s n _ _, ← decodeL_drop]
      simp [List.drop_drop]
    · have he : s.data.toList.drop pos = [] := List.drop_eq_nil_of_le (by rw [← Lib.size_eq]; omega)
      rw [if_neg h, if_pos he]
      simp
open Go.Lib Go.Proofs.YtdmahdgcfaieoaaDoorW.Utf in
theorem runesFrom_eq (s : ByteArray) : Conv.runesFrom s s.size 0 #[] = ((runesOf s.data.toList).map fun r => Value.int .i32 r).toArray := by
  rw [runesFrom_at, List.drop_zero]
  unfold runesOf
  rw [← Lib.size_eq]
  simp
end Go.Proofs.YtdmahdgcfaieoaaDoorW.PrintMore

/- General lemmas, no law in them: a literal of constants, laid by the walk's own step (marked or not), is read as what it says. No condition. -/
import Derived.Test.YtdeepnpbibhfiaaWMore
import Derived.Test.YtdeepnpbibhfiaaWFn
import Derived.Lib.SlBytesConst
namespace Go.Proofs.YtdeepnpbibhfiaaW.PrintMore
open Go.RowKit Go.Proofs.YtdeepnpbibhfiaaW.PrintWords
theorem const_row (w : World) (k : IntKind) (e : TypeId) (fr : Nat × Nat) (xs : List Int) (C : Array Value) (g : Nat) (hg : g = w.heap.size) (hC : C = (xs.map (Value.int k)).toArray) (hn : xs.length ≤ 9223372036854775807) :
    (Kd.int k).C (w.alloc (.cells C e fr)) (some ⟨g, 0, none⟩) xs.length xs := by
  subst hg
  subst hC
  refine ⟨rfl, hn, fun _ => ⟨_, rfl, fun j p hp => ⟨[Value.int k p], rfl, rfl, fun i u hu => ?_⟩⟩⟩
  have hi : i = 0 := by
    cases i with
    | zero => rfl
    | succ i => simp at hu
  subst hi
  simp at hu
  subst hu
  have hb : (w.alloc (.cells (xs.map (Value.int k)).toArray e fr)).heap[w.heap.size]? = some (.cells (xs.map (Value.int k)).toArray e fr) := by
    show (w.heap.push _)[w.heap.size]? = _
    simp
  have ea : (⟨w.heap.size, 0, none⟩ : Addr).add (j * (Kd.int k).sz + 0) = ⟨w.heap.size, j, none⟩ := by
    show (⟨w.heap.size, 0, none⟩ : Addr).add (j * 1 + 0) = _
    unfold Addr.add
    by_cases h : j = 0
    · subst h; rfl
    · have : ¬ (j * 1 + 0 = 0) := by omega
      rw [if_neg this]; simp
  rw [ea]
  unfold World.cell?
  dsimp only
  rw [hb]
  simp [hp]
end Go.Proofs.YtdeepnpbibhfiaaW.PrintMore

/- Rows that a drawn region makes and fills. No condition. -/
import Derived.Test.YtdeepnpbibhfiaaWReg
import Derived.Test.YtdeepnpbibhfiaaWMan
namespace Go.Proofs.YtdeepnpbibhfiaaW.PrintReg
open Go Go.RowKit Go.Proofs.YtdeepnpbibhfiaaW.PrintWords Go.Proofs.YtdeepnpbibhfiaaW.PrintMore
/-- A block of the region's own: filled if f. -/
def RowAt (base : Nat) (w : World) (g : Nat) (f : Bool) (cs zs : Array Value) (t : TypeId) : Prop := base ≤ g ∧ w.heap[g]? = some (.cells (bif f then cs else zs) t (0, 0))
theorem RowAt.below {base : Nat} {w w1 : World} {g : Nat} {f : Bool} {cs zs : Array Value} {t : TypeId} (h : RowAt base w g f cs zs t) (k : Below w.heap.size w w1) : RowAt base w1 g f cs zs t := ⟨h.1, blk_below h.2 k⟩
theorem RowAt.alloc {base : Nat} {w : World} {g : Nat} {f : Bool} {cs zs : Array Value} {t : TypeId} (h : RowAt base w g f cs zs t) (o : Obj) : RowAt base (w.alloc o) g f cs zs t := ⟨h.1, blk_alloc h.2 o⟩
theorem RowAt.far {base : Nat} {w : World} {g : Nat} {f : Bool} {cs zs : Array Value} {t : TypeId} (h : RowAt base w g f cs zs t) {p : Addr} (hp : p.block ≠ g) (v : Value) : RowAt base (w.setCell p v) g f cs zs t :=
  ⟨h.1, (Below.heap_setCell w p v g (Ne.symm hp)).trans h.2⟩
theorem RowAt.lt {base : Nat} {w : World} {g : Nat} {f : Bool} {cs zs : Array Value} {t : TypeId} (h : RowAt base w g f cs zs t) : g < w.heap.size := blk_lt h.2
theorem RowAt.new {base : Nat} {w : World} {f : Bool} (cs zs : Array Value) (t : TypeId) (hf : f = false) (hb : base ≤ w.heap.size) : RowAt base (w.alloc (.cells zs t)) w.heap.size f cs zs t := by
  subst hf; exact ⟨hb, by simpa using heap_alloc_new w (.cells zs t)⟩
theorem RowAt.full {base : Nat} {w : World} {g : Nat} {f : Bool} {cs zs : Array Value} {t : TypeId} (h : RowAt base w g f cs zs t) (hf : f = true) : w.heap[g]? = some (.cells cs t (0, 0)) := by subst hf; exact h.2
theorem RowAt.void {base : Nat} {w : World} {g : Nat} {f : Bool} {cs zs : Array Value} {t : TypeId} (h : RowAt base w g f cs zs t) (hf : f = false) : w.heap[g]? = some (.cells zs t (0, 0)) := by subst hf; exact h.2
theorem RowAt.swap {base : Nat} {w : World} {g : Nat} {f : Bool} {cs cs' zs : Array Value} {t : TypeId} (h : RowAt base w g f cs zs t) (hf : f = false) : RowAt base w g f cs' zs t := by subst hf; exact h
theorem flag_off {a b : Bool} (h : b = true → a = true) (ha : a = false) : b = false := by cases b with | false => rfl | true => rw [h rfl] at ha; cases ha
/-- Two cells stored. -/
theorem put2 {w : World} {g : Nat} {x y a b : Value} {t : TypeId} (h : w.heap[g]? = some (.cells #[x, y] t (0, 0))) :
    ((w.setCell ⟨g, 0, none⟩ a).setCell ⟨g, 1, none⟩ b).heap[g]? = some (.cells #[a, b] t (0, 0)) :=
  blk_put (cs := #[a, y]) (blk_put (cs := #[x, y]) h 0 a rfl) 1 b rfl
/-- Three cells stored. -/
theorem put3 {w : World} {g : Nat} {x y z a b c : Value} {t : TypeId} (h : w.heap[g]? = some (.cells #[x, y, z] t (0, 0))) :
    (((w.setCell ⟨g, 0, none⟩ a).setCell ⟨g, 1, none⟩ b).setCell ⟨g, 2, none⟩ c).heap[g]? = some (.cells #[a, b, c] t (0, 0)) :=
  blk_put (cs := #[a, b, z]) (blk_put (cs := #[a, y, z]) (blk_put (cs := #[x, y, z]) h 0 a rfl) 1 b rfl) 2 c rfl
end Go.Proofs.YtdeepnpbibhfiaaW.PrintReg

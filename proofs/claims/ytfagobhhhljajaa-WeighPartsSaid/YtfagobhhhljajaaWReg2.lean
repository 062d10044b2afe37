-- cut down by a program of this session (wip/tools/trimwords.py) from printed words: what this claim names, and no more
import Derived.Test.YtfagobhhhljajaaWReg
import Derived.Test.YtfagobhhhljajaaWMan
namespace Go.Proofs.YtfagobhhhljajaaW.PrintReg
open Go Go.RowKit Go.Proofs.YtfagobhhhljajaaW.PrintWords Go.Proofs.YtfagobhhhljajaaW.PrintMore
/-- A block of the region's own: filled if f. -/
def RowAt (base : Nat) (w : World) (g : Nat) (f : Bool) (cs zs : Array Value) (t : TypeId) : Prop := base ≤ g ∧ w.heap[g]? = some (.cells (bif f then cs else zs) t (0, 0))
theorem RowAt.below {base : Nat} {w w1 : World} {g : Nat} {f : Bool} {cs zs : Array Value} {t : TypeId} (h : RowAt base w g f cs zs t) (k : Below w.heap.size w w1) : RowAt base w1 g f cs zs t := ⟨h.1, blk_below h.2 k⟩
theorem RowAt.alloc {base : Nat} {w : World} {g : Nat} {f : Bool} {cs zs : Array Value} {t : TypeId} (h : RowAt base w g f cs zs t) (o : Obj) : RowAt base (w.alloc o) g f cs zs t := ⟨h.1, blk_alloc h.2 o⟩
theorem RowAt.far {base : Nat} {w : World} {g : Nat} {f : Bool} {cs zs : Array Value} {t : TypeId} (h : RowAt base w g f cs zs t) {p : Addr} (hp : p.block ≠ g) (v : Value) : RowAt base (w.setCell p v) g f cs zs t :=
 ⟨h.1, (Below.heap_setCell w p v g (Ne.symm hp)).trans h.2⟩
theorem RowAt.lt {base : Nat} {w : World} {g : Nat} {f : Bool} {cs zs : Array Value} {t : TypeId} (h : RowAt base w g f cs zs t) : g < w.heap.size := blk_lt h.2
theorem RowAt.new {base : Nat} {w : World} {f : Bool} (cs zs : Array Value) (t : TypeId) (hf : f = false) (hb : base ≤ w.heap.size) : RowAt base (w.alloc (.cells zs t)) w.heap.size f cs zs t := by
 subst hf; exact ⟨hb, by simpa using heap_alloc_new w (.cells zs t)⟩
theorem RowAt.full {base : Nat} {w : World} {g : Nat} {f : Bool} {cs zs : Array Value} {t : TypeId} (h : RowAt base w g f cs zs t) (hf : f = true) : w.heap[g]? = some (.cells cs t (0, 0)) := by subst hf; exact h.2
theorem RowAt.void {base : Nat} {w : World} {g : Nat} {f : Bool} {cs zs : Array Value} {t : TypeId} (h : RowAt base w g f cs zs t) (hf : f = false) : w.heap[g]? = some (.cells zs t (0, 0)) := by subst hf; exact h.2
theorem RowAt.swap {base : Nat} {w : World} {g : Nat} {f : Bool} {cs cs' zs : Array Value} {t : TypeId} (h : RowAt base w g f cs zs t) (hf : f = false) : RowAt base w g f cs' zs t := by subst hf; exact h
theorem flag_off {a b : Bool} (h : b = true → a = true) (ha : a = false) : b = false := by cases b with | false => rfl | true => rw [h rfl] at ha; cases ha
end Go.Proofs.YtfagobhhhljajaaW.PrintReg

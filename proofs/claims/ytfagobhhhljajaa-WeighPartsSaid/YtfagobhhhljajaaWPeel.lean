/- Short words for the printed walks (tools/compress.py), no law in them: a fact through draws and allocs; a new block is another. No condition. -/
import Derived.Test.YtfagobhhhljajaaWMan
namespace Go.Proofs.YtfagobhhhljajaaW.PrintMore
open Go.RowKit Go.Proofs.YtfagobhhhljajaaW.PrintWords
class Peel (w : World) (w' : World) : Prop where
 below : Below w.heap.size w w'
instance (w : World) : Peel w w := ⟨Below.refl _ _⟩
instance (w W : World) [h : Peel w W] : Peel w W.drew := ⟨below_drew1 h.below⟩
instance (w W : World) (n : Nat) [h : Peel w W] : Peel w (W.drewN n) := ⟨pw_below_drewN h.below n⟩
instance (w W : World) (o : Obj) [h : Peel w W] : Peel w (W.alloc o) := ⟨below_alloc h.below o⟩
theorem pb {w W : World} {g : Nat} {o : Obj} (h : w.heap[g]? = some o) [k : Peel w W] : W.heap[g]? = some o := blk_below h k.below
theorem pB {w w1 W : World} (h : Below w.heap.size w w1) [k : Peel w1 W] : Below w.heap.size w W := below_step h k.below
theorem pR {α : Type} {d : Kd α} {e : TypeId} {w W : World} {base : Nat} {ok : Nat → Prop} {v : Value} {xs : List α} (h : d.R e w base ok v xs) [k : Peel w W] : d.R e W base ok v xs := Kd.R_below h k.below
theorem neL {w : World} {g gb : Nat} {o : Obj} (hg : gb = w.heap.size) (h : w.heap[g]? = some o) : Aside0 (g ≠ gb) := ⟨by rw [hg]; exact Nat.ne_of_lt (blk_lt h)⟩
theorem neG {w : World} {g gb : Nat} {o : Obj} (hg : gb = w.heap.size) (h : w.heap[g]? = some o) : Aside0 (gb ≠ g) := ⟨by rw [hg]; exact Nat.ne_of_gt (blk_lt h)⟩
theorem geL {w W : World} {gb : Nat} (hg : gb = W.heap.size) (h : Below w.heap.size w W) : Aside0 (w.heap.size ≤ gb) := ⟨by rw [hg]; exact below_size h⟩
/-- So many that have come up, so many that have not. -/
def fl (a b : Nat) : Array Bool := (List.replicate a true ++ List.replicate b false).toArray
end Go.Proofs.YtfagobhhhljajaaW.PrintMore

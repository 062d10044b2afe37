/- General lemmas, no law in them: what walks by hand lean on. No condition. -/
import Derived.Test.YtdeepnpbibhfiaaWStr
namespace Go.Proofs.YtdeepnpbibhfiaaW.PrintMore
open Go.RowKit Go.Proofs.YtdeepnpbibhfiaaW.PrintWords
theorem cell_keep {w wx : World} {a : Addr} {v : Value} (hb : Below w.heap.size w wx) (h : w.cell? a = some v) : wx.cell? a = some v :=
  (hb.cell (World.block_lt_of_cell? _ _ h)).trans h
theorem aside_step {w W w2 : World} (k : Below W.heap.size W w2) (h : Aside0 (Below w.heap.size w W)) : Aside0 (Below w.heap.size w w2) := ⟨below_step h.out k⟩
theorem aside_drew {B : Nat} {w W : World} (h : Aside0 (Below B w W)) : Aside0 (Below B w W.drew) := ⟨below_drew1 h.out⟩
theorem cells3 {w wx : World} {g : Nat} {x y z : Value} {t : TypeId} (b : w.heap[g]? = some (.cells #[x, y, z] t (0, 0))) (hb : Below w.heap.size w wx) :
    wx.cell? ⟨g, 0, none⟩ = some x ∧ wx.cell? ⟨g, 1, none⟩ = some y ∧ wx.cell? ⟨g, 2, none⟩ = some z :=
  have d := blk_below b hb
  ⟨(blk_cell d 0).trans rfl, (blk_cell d 1).trans rfl, (blk_cell d 2).trans rfl⟩
theorem ret_int {k : IntKind} {a b : Int} (h : a = b) : Ending.returned (.int k a) = .returned (.int k b) := by rw [h]
end Go.Proofs.YtdeepnpbibhfiaaW.PrintMore

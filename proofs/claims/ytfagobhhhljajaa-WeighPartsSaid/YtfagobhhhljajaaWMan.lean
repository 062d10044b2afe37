-- cut down by a program of this session (wip/tools/trimwords.py) from printed words: what this claim names, and no more
import Derived.Test.YtfagobhhhljajaaWStr
namespace Go.Proofs.YtfagobhhhljajaaW.PrintMore
open Go.RowKit Go.Proofs.YtfagobhhhljajaaW.PrintWords
theorem cell_keep {w wx : World} {a : Addr} {v : Value} (hb : Below w.heap.size w wx) (h : w.cell? a = some v) : wx.cell? a = some v :=
 (hb.cell (World.block_lt_of_cell? _ _ h)).trans h
theorem aside_step {w W w2 : World} (k : Below W.heap.size W w2) (h : Aside0 (Below w.heap.size w W)) : Aside0 (Below w.heap.size w w2) := ⟨below_step h.out k⟩
theorem aside_drew {B : Nat} {w W : World} (h : Aside0 (Below B w W)) : Aside0 (Below B w W.drew) := ⟨below_drew1 h.out⟩
theorem ret_int {k : IntKind} {a b : Int} (h : a = b) : Ending.returned (.int k a) = .returned (.int k b) := by rw [h]
end Go.Proofs.YtfagobhhhljajaaW.PrintMore

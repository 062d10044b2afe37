/- Rows that a literal has laid. No condition. -/
import Derived.Test.YtdeepnpbibhfiaaWMan
namespace Go.Proofs.YtdeepnpbibhfiaaW.PrintReg
open Go Go.RowKit Go.Proofs.YtdeepnpbibhfiaaW.PrintWords Go.Proofs.YtdeepnpbibhfiaaW.PrintMore
theorem size_alloc (w : World) (o : Obj) : (w.alloc o).heap.size = w.heap.size + 1 := Array.size_push o
theorem flat_at {sz : Nat} : ∀ (css : List (List Value)), (∀ c ∈ css, c.length = sz) → ∀ (j i : Nat) (c : List Value), css[j]? = some c → i < sz → css.flatten[j * sz + i]? = c[i]?
  | [], _, j, i, c, h, _ => by simp at h
  | c0 :: css, hl, 0, i, c, h, hi => by
    obtain rfl : c0 = c := by simpa using h
    have := hl c0 (by simp)
    rw [List.flatten_cons, Nat.zero_mul, Nat.zero_add, List.getElem?_append_left (by omega)]
  | c0 :: css, hl, j + 1, i, c, h, hi => by
    have h0 := hl c0 (by simp)
    have := flat_at css (fun c hc => hl c (by simp [hc])) j i c (by simpa using h) hi
    rw [List.flatten_cons, List.getElem?_append_right (by rw [Nat.succ_mul]; omega), show (j + 1) * sz + i - c0.length = j * sz + i by rw [Nat.succ_mul]; omega]
    exact this
theorem blkC {α : Type} (d : Kd α) {w : World} {g t : Nat} {cs : Array Value} {xs : List α} (css : List (List Value)) (h : w.heap[g]? = some (.cells cs t (0, 0))) (hc : cs = css.flatten.toArray) (hlen : css.length = xs.length) (hs : ∀ c ∈ css, c.length = d.sz) (hb : xs.length ≤ 9223372036854775807)
    (hK : ∀ (j : Nat) (x : α) (c : List Value), xs[j]? = some x → css[j]? = some c → d.K w x c) : d.C w (some ⟨g, 0, Option.none⟩) xs.length xs := by
  refine ⟨rfl, hb, fun _ => ⟨_, rfl, fun j p hp => ?_⟩⟩
  have hj : j < css.length := by rw [hlen]; exact (List.getElem?_eq_some_iff.1 hp).1
  refine ⟨css[j], hs _ (List.getElem_mem hj), hK j p _ hp (List.getElem?_eq_getElem hj), fun i u hu => ?_⟩
  have hi : i < d.sz := by rw [← hs _ (List.getElem_mem hj)]; exact (List.getElem?_eq_some_iff.1 hu).1
  have e : (⟨g, 0, Option.none⟩ : Addr).add (j * d.sz + i) = ⟨g, j * d.sz + i, Option.none⟩ := by
    unfold Addr.add; split
    · rename_i h0; rw [h0]
    · simp
  rw [e, blk_cell h, hc, List.getElem?_toArray, flat_at css hs j i _ (List.getElem?_eq_getElem hj) hi]
  exact hu
end Go.Proofs.YtdeepnpbibhfiaaW.PrintReg

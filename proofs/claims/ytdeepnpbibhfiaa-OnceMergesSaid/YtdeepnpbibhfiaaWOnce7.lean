/- The document's example of a table. No condition. -/
import Derived.Test.YtdeepnpbibhfiaaWOnce6
namespace Go.Proofs.YtdeepnpbibhfiaaW.PrintOnce
open Go Go.RowKit Go.Maps Go.Proofs.YtdeepnpbibhfiaaW.PrintWords Go.Proofs.YtdeepnpbibhfiaaW.PrintLast Go.Proofs.YtdeepnpbibhfiaaW.PrintMore Go.Proofs.YtdeepnpbibhfiaaW.PrintReg Go.Proofs.YtdeepnpbibhfiaaW.PrintTree
set_option linter.unusedVariables false
set_option linter.unusedSimpArgs false
/-- The example's reply. -/
def xA : S33 := ⟨1, 5, 0, false, ⟨#[120]⟩, [], ⟨#[]⟩, false⟩
theorem noteA : noteT [] xA = [xA] := rfl
theorem seqA : decide (seqT [] xA.f0 < xA.f1) = true := rfl
theorem seeA5 : seeV [xA] 1 5 = (xA, 1) := rfl
theorem seeA4 : seeV [xA] 1 4 = (z33, 2) := rfl
theorem seeA6 : seeV [xA] 1 6 = (z33, 0) := rfl
set_option maxHeartbeats 4000000 in
set_option maxRecDepth 100000 in
theorem awake6 (w : World) : Calls Try.prog 6 #[] w fun e w' => e = .returned (.bool true) ∧ Below w.heap.size w w' := by
  go_enter Try.func6, Try.ntmps6
  go_wp2_with fail
  refine (new7 w).mono ?_
  rintro e w1 ⟨rfl, hT, hb⟩
  obtain ⟨g, hg⟩ : ∃ g, g = w.heap.size + 1 := ⟨_, rfl⟩
  obtain ⟨b, hbb⟩ : ∃ b, b = w.heap.size := ⟨_, rfl⟩
  rw [← hg] at hT ⊢
  have HBL : Aside0 (w.heap.size ≤ b) := ⟨by omega⟩
  have hpn := fun wx => run_eql_ptr_nil (P := Try.prog) wx 24 56 ⟨g, 0, none⟩ Try.underlying24
  have HT := Aside0.mk hT
  have HB := Aside0.mk hb
  clear hT hb hg
  go_wp2_with fail
  refine (note8 w.heap.size g w.heap.size [] xA none 0 w1 HT.out (Kd.C_nil k71 w1) (Nat.le_refl _) (by decide) (by decide) (by decide)).mono ?_
  rintro e w2 ⟨rfl, hT, ho⟩
  rw [noteA] at hT
  rw [seqA]
  have HB2 := Aside0.mk (HB.out.trans (ho.to_below HB.out.size (fun k hk => by rw [hk]; exact Nat.le_refl _)))
  have HT := Aside0.mk hT
  clear hT ho
  go_wp2_with fail
  refine (see9 w.heap.size g w.heap.size [xA] 1 5 w2 HT.out (by decide)).mono ?_
  rintro e w3 ⟨v5, rfl, hR, hb⟩
  rw [seeA5] at hR ⊢
  obtain ⟨A5, c5, rfl⟩ := Kd.R_slice hR
  have HB3 := Aside0.mk (below_step HB2.out hb)
  have HT3 := Aside0.mk (HT.out.below hb)
  clear hR hb
  go_wp2_with fail
  refine (see9 w.heap.size g w.heap.size [xA] 1 4 _ (HT3.out.below (below_alloc (Below.refl _ _) _)) (by decide)).mono ?_
  rintro e w4 ⟨v5, rfl, hR, hb⟩
  rw [seeA4] at hR ⊢
  obtain ⟨A6, c6, rfl⟩ := Kd.R_slice hR
  have h4 := blk_below (blk_new w3 (.cells #[.int .i64 1, .int .i64 5, .int .i64 0, .bool false, .string ⟨#[120]⟩, .slice A5 0 c5, .string ⟨#[]⟩, .bool false] 33)) hb
  have HB4 := Aside0.mk (below_step (below_alloc HB3.out _) hb)
  have HT4 := Aside0.mk ((HT3.out.below (below_alloc (Below.refl _ _) _)).below hb)
  clear hR hb
  go_wp2_with fail
  refine (see9 w.heap.size g w.heap.size [xA] 1 6 _ (HT4.out.below (below_alloc (Below.refl _ _) _)) (by decide)).mono ?_
  rintro e w5 ⟨v5, rfl, hR, hb⟩
  rw [seeA6] at hR ⊢
  obtain ⟨A7, c7, rfl⟩ := Kd.R_slice hR
  have h5 := blk_below (blk_alloc h4 _) hb
  have HB5 := Aside0.mk (below_step (below_alloc HB4.out _) hb)
  have HT5 := Aside0.mk ((HT4.out.below (below_alloc (Below.refl _ _) _)).below hb)
  clear hR hb h4
  have q4 : ∀ o, (w5.alloc o).cell? ⟨w3.heap.size, 4, none⟩ = some (.string ⟨#[120]⟩) := fun o => (blk_cell (blk_alloc h5 o) 4).trans rfl
  clear h5
  go_wp2_with fail
  refine (all10 w.heap.size g w.heap.size [xA] _ (HT5.out.below (below_alloc (Below.refl _ _) _)) (by decide) (fun x hx => by rw [List.mem_singleton.1 hx]; decide)).mono ?_
  rintro e w6 ⟨v, rfl, hR, hb⟩
  obtain ⟨A8, c8, rfl⟩ := Kd.R_slice hR
  have HB6 := Aside0.mk (below_step (below_alloc HB5.out _) hb)
  clear hR hb
  go_wp2_with fail
  go_ret
  exact ⟨rfl, HB6.out⟩
end Go.Proofs.YtdeepnpbibhfiaaW.PrintOnce

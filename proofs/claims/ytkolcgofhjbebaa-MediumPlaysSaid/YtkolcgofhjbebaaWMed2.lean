/- The medium, by hand, 2: one medium alone, and the document's example. No condition. -/
import Derived.Test.YtkolcgofhjbebaaWMed
namespace Go.Proofs.YtkolcgofhjbebaaW.PrintMed
open Go.RowKit Go.Proofs.YtkolcgofhjbebaaW.PrintWords Go.Proofs.YtkolcgofhjbebaaW.PrintLast Go.Proofs.YtkolcgofhjbebaaW.PrintMore
set_option linter.unusedVariables false
set_option linter.unusedSimpArgs false

/-- One medium, all of whose blocks are new since w. -/
def Med1 (w W : World) (g : Nat) (bs : List Int) (s : Nat) : Prop := Med w.heap.size W g (fun k => w.heap.size ≤ k) bs s ∧ Below w.heap.size w W
theorem Med1.below {w W W1 : World} {g : Nat} {bs : List Int} {s : Nat} (h : Med1 w W g bs s) (k : Below W.heap.size W W1) : Med1 w W1 g bs s := ⟨h.1.below k, below_step h.2 k⟩
theorem new1 {w W : World} (hB : Below w.heap.size w W) : Calls Try.prog 12 #[] W fun e w' => ∃ g, e = .returned (.pointer (some ⟨g, 0, none⟩)) ∧ Med1 w w' g [] 0 :=
  (new_calls W).mono (fun e w' h => by
    obtain ⟨g, rfl, hg, hb, k⟩ := h
    exact ⟨g, rfl, (med_new hg hB.size hb).mono (fun q hq => Nat.le_trans hB.size hq), below_step hB k⟩)
theorem append1 (w W : World) (g : Nat) (A : Option Addr) (n c : Nat) (bs l : List Int) (s : Nat) (h : Med1 w W g bs s) (hC : Kd.C (Kd.int .u8) W A n l) (hl : bs.length + l.length ≤ 100000000) :
    Calls Try.prog 13 #[.pointer (some ⟨g, 0, none⟩), .slice A n c] W fun e w' => e = .returned (.tuple #[]) ∧ Med1 w w' g (bs ++ l) s := by
  obtain rfl : l.length = n := hC.1
  exact (append_calls w.heap.size g A c bs l s _ W h.1 hC (by omega) h.2.size (fun k hk => hk)).mono (fun e w' q =>
    ⟨q.1, q.2.1.mono (fun k hk => hk.elim (fun z => z) (fun z => Nat.le_trans h.2.size z)), h.2.trans q.2.2.below⟩)
theorem sync1 (w W : World) (g : Nat) (bs : List Int) (s : Nat) (h : Med1 w W g bs s) :
    Calls Try.prog 14 #[.pointer (some ⟨g, 0, none⟩)] W fun e w' => e = .returned (.tuple #[]) ∧ Med1 w w' g bs bs.length :=
  (sync_calls w.heap.size g bs s _ W h.1).mono (fun e w' q => ⟨q.1, q.2.1, h.2.trans q.2.2.below⟩)
theorem loose1 (w W : World) (g : Nat) (bs : List Int) (s : Nat) (h : Med1 w W g bs s) (hl : bs.length ≤ 100000000) :
    Calls Try.prog 15 #[.pointer (some ⟨g, 0, none⟩)] W fun e w' => e = .returned (.int .i64 ((bs.length - s : Nat) : Int)) ∧ Below W.heap.size W w' ∧ Med1 w w' g bs s :=
  (loose_calls w.heap.size g bs s _ W h.1 (by omega)).mono (fun e w' q => ⟨q.1, q.2, h.below q.2⟩)
theorem crash1 (w W : World) (g : Nat) (keep : Int) (bs : List Int) (s : Nat) (h : Med1 w W g bs s) (hl : bs.length ≤ 100000000) :
    Calls Try.prog 16 #[.pointer (some ⟨g, 0, none⟩), .int .i64 keep] W fun e w' => e = .returned (.tuple #[]) ∧ Med1 w w' g (bs.take (kept bs.length s keep)) (kept bs.length s keep) :=
  (crash_calls w.heap.size g keep bs s _ W h.1 (by omega)).mono (fun e w' q => ⟨q.1, q.2.1, h.2.trans q.2.2.below⟩)
theorem bytes1 (w W : World) (g : Nat) (bs : List Int) (s : Nat) (h : Med1 w W g bs s) (hl : bs.length ≤ 100000000) :
    Calls Try.prog 17 #[.pointer (some ⟨g, 0, none⟩)] W fun e w' => ∃ A c, e = .returned (.slice A bs.length c) ∧ Kd.R (Kd.int .u8) 5 w' W.heap.size (fun _ => True) (.slice A bs.length c) bs ∧ Below W.heap.size W w' ∧ Med1 w w' g bs s :=
  (bytes_calls w.heap.size g bs s _ W h.1 (by omega)).mono (fun e w' q => by
    obtain ⟨A, c, rfl, h1, h2⟩ := q
    exact ⟨A, c, rfl, h1, h2, h.below h2⟩)
theorem swap1 (w W : World) (g : Nat) (A : Option Addr) (n c : Nat) (bs l : List Int) (s : Nat) (h : Med1 w W g bs s) (hC : Kd.C (Kd.int .u8) W A n l) (hl : l.length ≤ 100000000) :
    Calls Try.prog 18 #[.pointer (some ⟨g, 0, none⟩), .slice A n c] W fun e w' => e = .returned (.tuple #[]) ∧ Med1 w w' g l l.length := by
  obtain rfl : l.length = n := hC.1
  exact (swap_calls w.heap.size g A c bs l s _ W h.1 hC (by omega) h.2.size).mono (fun e w' q =>
    ⟨q.1, q.2.1.mono (fun k hk => hk.elim (fun z => z) (fun z => Nat.le_trans h.2.size z)), h.2.trans q.2.2.below⟩)

theorem kept531 : kept 5 3 1 = 4 := by decide
theorem str_abcd : strOfNums [97, 98, 99, 100] = { data := #[97, 98, 99, 100] } := by kernel_rfl
set_option maxHeartbeats 4000000 in
set_option maxRecDepth 100000 in
theorem awake_calls (w : World) : Calls Try.prog 11 #[] w fun e w' => e = .returned (.bool true) ∧ Below w.heap.size w w' := by
  have hcv3 := fun wx => Lib.run_convert_bytes_const (P := Try.prog) wx 22 5 #[.int .u8 97, .int .u8 98, .int .u8 99] 3 3 Try.underlying22 Try.underlying5
  have hcv2 := fun wx => Lib.run_convert_bytes_const (P := Try.prog) wx 22 5 #[.int .u8 100, .int .u8 101] 2 2 Try.underlying22 Try.underlying5
  go_enter Try.func11, Try.ntmps11
  go_wp2_with fail
  go_at_call 12; refine (new1 (w := w) (Below.refl _ _)).mono ?_; rintro e w1 ⟨g, rfl, hm⟩; have HM := Aside0.mk hm; have hnl := fun wx => run_eql_ptr_nil (P := Try.prog) wx 24 60 ⟨g, 0, none⟩ Try.underlying24; clear hm
  go_wp2_with fail
  go_at_call 13; refine (append1 w _ _ _ 3 _ _ [97, 98, 99] _ (HM.out.below (below_alloc (Below.refl _ _) _)) (const_row _ .u8 5 _ [97, 98, 99] _ _ rfl rfl (by decide)) (by decide)).mono ?_; rintro e w2 ⟨rfl, hm⟩; have HM : Aside0 (Med1 w w2 g [97, 98, 99] 0) := ⟨hm⟩; clear hm
  go_wp2_with fail
  go_at_call 14; refine (sync1 w _ _ _ _ HM.out).mono ?_; rintro e w3 ⟨rfl, hm⟩; have HM : Aside0 (Med1 w w3 g [97, 98, 99] 3) := ⟨hm⟩; clear hm
  go_wp2_with fail
  go_at_call 13; refine (append1 w _ _ _ 2 _ _ [100, 101] _ (HM.out.below (below_alloc (Below.refl _ _) _)) (const_row _ .u8 5 _ [100, 101] _ _ rfl rfl (by decide)) (by decide)).mono ?_; rintro e w4 ⟨rfl, hm⟩; have HM : Aside0 (Med1 w w4 g [97, 98, 99, 100, 101] 3) := ⟨hm⟩; clear hm
  go_wp2_with fail
  go_at_call 16; refine (crash1 w _ _ 1 _ _ HM.out (by decide)).mono ?_; rintro e w5 ⟨rfl, hm⟩; have HM : Aside0 (Med1 w w5 g [97, 98, 99, 100] 4) := ⟨hm⟩; clear hm
  go_wp2_with fail
  go_at_call 17; refine (bytes1 w _ _ _ _ HM.out (by decide)).mono ?_; rintro e w6 ⟨A, c, rfl, hr, hb, hm⟩; have hcv : (Go.convert 22 9 (.slice A 4 c)).run Try.prog w6 = .ok (.string { data := #[97, 98, 99, 100] }) w6 := (Kd.C_string (P := Try.prog) (A := A) (c := c) Try.underlying22 Try.underlying5 Try.underlying9 ((Kd.R_reads' hr).2.2)).trans (by rw [str_abcd]); have HM : Aside0 (Med1 w w6 g [97, 98, 99, 100] 4) := ⟨hm⟩; clear hm hr hb
  go_wp2_with fail
  go_at_call 15; refine (loose1 w _ _ _ _ HM.out (by decide)).mono ?_; rintro e w7 ⟨rfl, hb, hm⟩; have HM : Aside0 (Med1 w w7 g [97, 98, 99, 100] 4) := ⟨hm⟩; clear hm hb
  go_wp2_with fail
  go_ret
  exact ⟨rfl, HM.out.2⟩
end Go.Proofs.YtkolcgofhjbebaaW.PrintMed

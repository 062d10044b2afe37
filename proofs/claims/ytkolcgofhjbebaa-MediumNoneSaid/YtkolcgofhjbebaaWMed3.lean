/- The medium, by hand, 3: the law of the empty medium. No condition. -/
import Derived.Test.YtkolcgofhjbebaaWMed2
namespace Go.Proofs.YtkolcgofhjbebaaW.PrintMed
open Go.RowKit Go.Proofs.YtkolcgofhjbebaaW.PrintWords Go.Proofs.YtkolcgofhjbebaaW.PrintLast Go.Proofs.YtkolcgofhjbebaaW.PrintMore
set_option linter.unusedVariables false
set_option linter.unusedSimpArgs false
theorem str_abc : strOfNums [97, 98, 99] = { data := #[97, 98, 99] } := by kernel_rfl
theorem C_nil (w : World) : Kd.C (Kd.int .u8) w none 0 [] := ⟨rfl, by decide, fun h => absurd h (by decide)⟩
set_option maxHeartbeats 4000000 in
set_option maxRecDepth 100000 in
theorem none_calls (w : World) : Calls Try.prog 4 #[] w fun e w' => e = .returned (.bool true) ∧ Below w.heap.size w w' := by
  have hcv3 := fun wx => Lib.run_convert_bytes_const (P := Try.prog) wx 22 5 #[.int .u8 97, .int .u8 98, .int .u8 99] 3 3 Try.underlying22 Try.underlying5
  have hcvd := fun wx => Lib.run_convert_bytes_const (P := Try.prog) wx 22 5 #[.int .u8 100] 1 1 Try.underlying22 Try.underlying5
  have hcve := fun wx => Lib.run_convert_bytes_const (P := Try.prog) wx 22 5 #[.int .u8 101] 1 1 Try.underlying22 Try.underlying5
  go_enter Try.func4, Try.ntmps4
  go_wp2_with fail
  go_at_call 11; refine (awake_calls w).mono ?_; rintro e w0 ⟨rfl, hb0⟩; have HB0 := Aside0.mk hb0; clear hb0
  go_wp2_with fail
  go_at_call 12; refine (new1 (w := w) HB0.out).mono ?_; rintro e w1 ⟨g, rfl, hm⟩; have HM := Aside0.mk hm; have hnl := fun wx => run_eql_ptr_nil (P := Try.prog) wx 24 60 ⟨g, 0, none⟩ Try.underlying24; clear hm
  go_wp2_with fail
  go_at_call 13; refine (append1 w _ _ _ 0 _ _ [] _ HM.out (C_nil _) (by decide)).mono ?_; rintro e w2 ⟨rfl, hm⟩; have HM : Aside0 (Med1 w w2 g [] 0) := ⟨hm⟩; clear hm
  go_wp2_with fail
  go_at_call 16; refine (crash1 w _ _ 5 _ _ HM.out (by decide)).mono ?_; rintro e w3 ⟨rfl, hm⟩; have HM : Aside0 (Med1 w w3 g [] 0) := ⟨hm⟩; clear hm
  go_wp2_with fail
  go_at_call 17; refine (bytes1 w _ _ _ _ HM.out (by decide)).mono ?_; rintro e w4 ⟨A, c, rfl, hr, hb, hm⟩; have HM : Aside0 (Med1 w w4 g [] 0) := ⟨hm⟩; clear hm hr hb
  go_wp2_with fail
  go_at_call 18; refine (swap1 w _ _ _ 3 _ _ [97, 98, 99] _ (HM.out.below (below_alloc (Below.refl _ _) _)) (const_row _ .u8 5 _ [97, 98, 99] _ _ rfl rfl (by decide)) (by decide)).mono ?_; rintro e w5 ⟨rfl, hm⟩; have HM : Aside0 (Med1 w w5 g [97, 98, 99] 3) := ⟨hm⟩; clear hm
  go_wp2_with fail
  go_at_call 16; refine (crash1 w _ _ 0 _ _ HM.out (by decide)).mono ?_; rintro e w6 ⟨rfl, hm⟩; have HM : Aside0 (Med1 w w6 g [97, 98, 99] 3) := ⟨hm⟩; clear hm
  go_wp2_with fail
  go_at_call 17; refine (bytes1 w _ _ _ _ HM.out (by decide)).mono ?_; rintro e w7 ⟨A7, c7, rfl, hr, hb, hm⟩; have hcv7 : (Go.convert 22 9 (.slice A7 3 c7)).run Try.prog w7 = .ok (.string { data := #[97, 98, 99] }) w7 := (Kd.C_string (P := Try.prog) (A := A7) (c := c7) Try.underlying22 Try.underlying5 Try.underlying9 ((Kd.R_reads' hr).2.2)).trans (by rw [str_abc]); have HM : Aside0 (Med1 w w7 g [97, 98, 99] 3) := ⟨hm⟩; clear hm hr hb
  go_wp2_with fail
  go_at_call 13; refine (append1 w _ _ _ 1 _ _ [100] _ (HM.out.below (below_alloc (Below.refl _ _) _)) (const_row _ .u8 5 _ [100] _ _ rfl rfl (by decide)) (by decide)).mono ?_; rintro e w8 ⟨rfl, hm⟩; have HM : Aside0 (Med1 w w8 g [97, 98, 99, 100] 3) := ⟨hm⟩; clear hm
  go_wp2_with fail
  go_at_call 13; refine (append1 w _ _ _ 1 _ _ [101] _ (HM.out.below (below_alloc (Below.refl _ _) _)) (const_row _ .u8 5 _ [101] _ _ rfl rfl (by decide)) (by decide)).mono ?_; rintro e w9 ⟨rfl, hm⟩; have HM : Aside0 (Med1 w w9 g [97, 98, 99, 100, 101] 3) := ⟨hm⟩; clear hm
  go_wp2_with fail
  go_at_call 15; refine (loose1 w _ _ _ _ HM.out (by decide)).mono ?_; rintro e w10 ⟨rfl, hb, hm⟩; have HM : Aside0 (Med1 w w10 g [97, 98, 99, 100, 101] 3) := ⟨hm⟩; clear hm hb
  go_wp2_with fail
  go_at_call 18; refine (swap1 w _ _ _ 0 _ _ [] _ HM.out (C_nil _) (by decide)).mono ?_; rintro e w11 ⟨rfl, hm⟩; have HM : Aside0 (Med1 w w11 g [] 0) := ⟨hm⟩; clear hm
  go_wp2_with fail
  go_at_call 17; refine (bytes1 w _ _ _ _ HM.out (by decide)).mono ?_; rintro e w12 ⟨A, c, rfl, hr, hb, hm⟩; have HM : Aside0 (Med1 w w12 g [] 0) := ⟨hm⟩; clear hm hr hb
  go_wp2_with fail
  go_at_call 15; refine (loose1 w _ _ _ _ HM.out (by decide)).mono ?_; rintro e w13 ⟨rfl, hb, hm⟩; have HM : Aside0 (Med1 w w13 g [] 0) := ⟨hm⟩; clear hm hb
  go_wp2_with fail
  go_ret
  exact ⟨rfl, HM.out.2⟩
end Go.Proofs.YtkolcgofhjbebaaW.PrintMed

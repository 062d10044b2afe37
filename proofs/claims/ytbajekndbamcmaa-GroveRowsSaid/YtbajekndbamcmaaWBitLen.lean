/- math/bits.Len, by hand, of small numbers. No condition. -/
import Derived.Test.YtbajekndbamcmaaProg
import Derived.Test.YtbajekndbamcmaaWMan
import Derived.Test.YtbajekndbamcmaaWFn
import Derived.Laws.MathBits
import Derived.WalkKit
namespace Go.Proofs.YtbajekndbamcmaaW.BitLen
open Go.RowKit Go.Proofs.YtbajekndbamcmaaW.PrintWords Go.Proofs.YtbajekndbamcmaaW.PrintLast Go.Proofs.YtbajekndbamcmaaW.PrintMore
set_option linter.unusedVariables false
set_option linter.unusedSimpArgs false
theorem key8 (n m : Nat) (h : n = m) (hm : m ≤ 8) : wrap64 (8 + wrap64 (n : Int)) = ((8 + m : Nat) : Int) := by unfold wrap64; omega
theorem key0 (n m : Nat) (h : n = m) (hm : m ≤ 8) : wrap64 (wrap64 (n : Int)) = ((m : Nat) : Int) := by unfold wrap64; omega
set_option maxHeartbeats 4000000 in
set_option maxRecDepth 100000 in
theorem len64_calls (x : Nat) (hx : x < 65536) (w : World) : Calls Try.prog 74 #[.int .u64 (x : Int)] w fun e w' => ∃ L : Nat, e = .returned (.int .i64 (L : Int)) ∧ x < 2 ^ L ∧ L ≤ 16 ∧ w' = w := by
  have c1 : (decide ((x : Int) ≥ 4294967296)) = false := decide_eq_false (by omega)
  have c2 : (decide ((x : Int) ≥ 65536)) = false := decide_eq_false (by omega)
  have c1' : (4294967296 ≤ (x : Int)) = False := eq_false (by omega)
  have c2' : (65536 ≤ (x : Int)) = False := eq_false (by omega)
  have k8 : ∀ i : Nat, i < 256 → Go.bitLen i ≤ 8 := fun i h => bitLen_le8 i h
  by_cases c3 : (256 : Int) ≤ x
  · have c3t : (256 ≤ (x : Int)) = True := eq_true c3
    go_enter Try.func74, Try.ntmps74
    go_wp2
    go_ret
    have h8 := k8 (x / 256) (by omega)
    refine ⟨8 + Go.bitLen (x / 256), ?_, ?_, ?_, rfl⟩
    · exact congrArg (fun n => Ending.returned (.int .i64 n)) (key8 _ _ (len8tab_get (x / 256) (by show x / 256 < 256; omega)) h8)
    · have := (bitLen_spec (x / 256)).1
      rw [Nat.pow_add]
      omega
    · omega
  · have c3f : (256 ≤ (x : Int)) = False := eq_false c3
    go_enter Try.func74, Try.ntmps74
    go_wp2
    go_ret
    have h8 := k8 x (by omega)
    refine ⟨Go.bitLen x, ?_, (bitLen_spec x).1, by omega, rfl⟩
    exact congrArg (fun n => Ending.returned (.int .i64 n)) (key0 _ _ (len8tab_get x (by show x < 256; omega)) h8)
set_option maxHeartbeats 4000000 in
theorem len_calls (x : Nat) (hx : x < 65536) (w : World) : Calls Try.prog 42 #[.int .u64 (x : Int)] w fun e w' => ∃ L : Nat, e = .returned (.int .i64 (L : Int)) ∧ x < 2 ^ L ∧ L ≤ 16 ∧ w' = w := by
  go_enter Try.func42, Try.ntmps42
  go_wp2_with fail
  refine (len64_calls x hx w).mono ?_
  rintro e w1 ⟨L, rfl, h1, h2, rfl⟩
  go_wp2
  go_ret
  exact ⟨L, rfl, h1, h2, rfl⟩
end Go.Proofs.YtbajekndbamcmaaW.BitLen

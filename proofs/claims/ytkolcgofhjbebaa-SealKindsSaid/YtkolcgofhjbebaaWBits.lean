/- General lemmas, no law in them: 'or' of numbers whose bits do not meet is their sum. No condition. -/
import Derived.Test.YtkolcgofhjbebaaWStr
import Derived.Laws.BitsAllLaws
namespace Go.Proofs.YtkolcgofhjbebaaW.PrintBits
open Go
theorem nat_or_add (a b k : Nat) (h : b < 2 ^ k) : (a * 2 ^ k) ||| b = a * 2 ^ k + b := by
  rw [← Nat.shiftLeft_eq, Nat.shiftLeft_add_eq_or_of_lt h]
theorem u32_or_add (a b : Int) (k : Nat) (ha : 0 ≤ a) (hb : 0 ≤ b) (hbk : b < 2 ^ k) (h : a * 2 ^ k + b < 4294967296) : bits .or .u32 (a * 2 ^ k) b = a * 2 ^ k + b := by
  obtain ⟨A, rfl⟩ := Int.eq_ofNat_of_zero_le ha
  obtain ⟨B, rfl⟩ := Int.eq_ofNat_of_zero_le hb
  have e : (A : Int) * 2 ^ k = ((A * 2 ^ k : Nat) : Int) := by simp
  have hB : B < 2 ^ k := by
    have e2 : ((2 : Int) ^ k) = ((2 ^ k : Nat) : Int) := by simp
    rw [e2] at hbk; exact_mod_cast hbk
  rw [e] at h ⊢
  rw [u32_or_nat _ _ (by omega) (by omega), nat_or_add A B k hB]
  simp
theorem i64_or_nat (a b : Nat) (ha : a < 9223372036854775808) (hb : b < 9223372036854775808) : bits .or .i64 (a : Int) (b : Int) = ((a ||| b : Nat) : Int) := by
  have hx : a ||| b < 2 ^ 63 := Nat.or_lt_two_pow (by omega) (by omega)
  have e : ∀ c : Nat, c < 9223372036854775808 → (BitVec.ofInt 64 (c : Int)).toNat = c := by
    intro c hc
    rw [BitVec.toNat_ofInt]
    have : ((c : Int) % ((2 ^ 64 : Nat) : Int)).toNat = c := by omega
    exact this
  show IntKind.i64.wrap ((BitVec.ofInt 64 (a : Int) ||| BitVec.ofInt 64 (b : Int)).toNat : Int) = _
  rw [BitVec.toNat_or, e a ha, e b hb, IntKind.wrap_i64]
  omega
theorem i64_or_add (a b : Int) (k : Nat) (ha : 0 ≤ a) (hb : 0 ≤ b) (hbk : b < 2 ^ k) (h : a * 2 ^ k + b < 9223372036854775808) : bits .or .i64 (a * 2 ^ k) b = a * 2 ^ k + b := by
  obtain ⟨A, rfl⟩ := Int.eq_ofNat_of_zero_le ha
  obtain ⟨B, rfl⟩ := Int.eq_ofNat_of_zero_le hb
  have e : (A : Int) * 2 ^ k = ((A * 2 ^ k : Nat) : Int) := by simp
  have hB : B < 2 ^ k := by
    have e2 : ((2 : Int) ^ k) = ((2 ^ k : Nat) : Int) := by simp
    rw [e2] at hbk; exact_mod_cast hbk
  rw [e] at h ⊢
  rw [i64_or_nat _ _ (by omega) (by omega), nat_or_add A B k hB]
  simp
end Go.Proofs.YtkolcgofhjbebaaW.PrintBits

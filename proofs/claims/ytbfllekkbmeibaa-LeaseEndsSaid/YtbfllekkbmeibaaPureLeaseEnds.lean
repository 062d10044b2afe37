/- LeaseEnds, the plain law over the printed functions: while a lease holds it has not surely ended; once it has, it never holds again. No condition. -/
import Derived.Test.YtbfllekkbmeibaaPLeaseEndsy
namespace Go.Proofs.Ytbfllekkbmeibaa.Pure
set_option linter.unusedVariables false
set_option linter.unusedSimpArgs false
open Go.RowKit Go.Proofs.Ytbfllekkbmeibaa.PLeaseEnds Go.Proofs.YtbfllekkbmeibaaW.PrintWords Go.Proofs.YtbfllekkbmeibaaW.PrintLast Go.Proofs.YtbfllekkbmeibaaW.PrintMore

theorem wr (x : Int) (h0 : -9223372036854775808 ≤ x) (h1 : x ≤ 9223372036854775807) : wrap64 x = x := by
  unfold wrap64; omega
/-- May a lease be? -/
def may (e s f : Int) : Prop := 1 ≤ e ∧ 0 ≤ s ∧ s ≤ 1099511627776 ∧ 1 ≤ f ∧ f ≤ 1099511627776
instance (e s f : Int) : Decidable (may e s f) := by unfold may; infer_instance
theorem may_eq (e s f : Int) : lease_May.f e s f = some (decide (may e s f)) := by
  unfold lease_May.f lease_within.f may
  by_cases h1 : e ≥ 1 <;> by_cases h2 : s ≥ 0 <;> by_cases h3 : s ≤ 1099511627776 <;> by_cases h4 : f ≥ 1 <;> simp [h1, h2, h3, h4] <;> omega
theorem refmay_eq (e s f : Int) : gazetteerref5_LeaseMay.f e s f = some (decide (may e s f)) := by
  unfold gazetteerref5_LeaseMay.f may
  by_cases h1 : e ≥ 1 <;> by_cases h2 : s ≥ 0 <;> by_cases h3 : s ≤ 1099511627776 <;> by_cases h4 : f ≥ 1 <;> simp [h1, h2, h3, h4] <;> omega
theorem end_eq (e s f : Int) (h : may e s f) : lease_end.f e s f = some (s + f) := by
  unfold may at h
  unfold lease_end.f; rw [wr _ (by omega) (by omega)]
theorem holds_eq (e s f n : Int) (h : may e s f) : lease_Holds.f e s f n = some (decide (s ≤ n ∧ n < s + f)) := by
  unfold lease_Holds.f
  rw [may_eq, decide_eq_true h, end_eq e s f h]
  simp only [Option.bind_some, if_true]
  by_cases h : n ≥ s
  · rw [if_pos h]; congr 1; simp; omega
  · rw [if_neg h]; congr 1; simp; omega
theorem holds_no (e s f n : Int) (h : ¬ may e s f) : lease_Holds.f e s f n = some false := by
  unfold lease_Holds.f
  rw [may_eq, decide_eq_false h]
  simp
theorem left_eq (e s f n : Int) (h : may e s f) : lease_Left.f e s f n = some (if s ≤ n ∧ n < s + f then s + f - n else 0) := by
  unfold lease_Left.f
  rw [holds_eq e s f n h, end_eq e s f h]
  unfold may at h
  simp only [Option.bind_some]
  by_cases h : s ≤ n ∧ n < s + f
  · rw [decide_eq_true h, if_pos h]; simp only [if_true]; rw [wr _ (by omega) (by omega)]
  · rw [decide_eq_false h, if_neg h]; simp
theorem safe_eq (e s f n k : Int) (h : may e s f) (hk : 0 ≤ k) (hk' : k ≤ 1099511627776) : lease_Safe.f e s f n k = some (decide (s + f + k ≤ n)) := by
  unfold lease_Safe.f
  rw [may_eq, decide_eq_true h, end_eq e s f h]
  unfold may at h
  simp only [Option.bind_some, if_true]
  have h2 : mn (mx k 0) 1099511627776 = k := by unfold mn mx; omega
  rw [h2, wr _ (by omega) (by omega)]
theorem safe_no (e s f n k : Int) (h : ¬ may e s f) : lease_Safe.f e s f n k = some true := by
  unfold lease_Safe.f
  rw [may_eq, decide_eq_false h]
  simp
theorem awake_eq : gazetteerlaw13_awake.f = some true := by decide +kernel

theorem j0_eq (k : Nat) (e s f : Int) (h : may e s f) : gazetteerlaw13_ends.j0 (k + 1) false e s f = some true := by
  have hm := h
  unfold may at hm
  simp only [gazetteerlaw13_ends.j0]
  rw [awake_eq, left_eq e s f s h, wr (s + f) (by omega) (by omega), wr (s + f - 1) (by omega) (by omega), wr (s - 1) (by omega) (by omega), holds_eq e s f (s + f - 1) h, holds_eq e s f (s - 1) h]
  rw [if_pos (show s ≤ s ∧ s < s + f by omega), decide_eq_true (show s ≤ s + f - 1 ∧ s + f - 1 < s + f by omega), decide_eq_false (show ¬ (s ≤ s - 1 ∧ s - 1 < s + f) by omega)]
  simp only [Option.bind_some]
  rw [if_neg (by simp), if_pos trivial, if_pos (show s + f - s = f by omega)]
  simp

theorem LeaseEnds : gazetteerlaw13_LeaseEnds.Pure := by
  intro e s f a1 a2 a3 w0 w1 w2 w3 w4 w5
  have b0 : -9223372036854775808 ≤ e ∧ e ≤ 9223372036854775807 := by simpa [Lit.wf, IntKind.min, IntKind.max, IntKind.signed, IntKind.bits] using w0
  have b3 : 0 ≤ a1 ∧ a1 ≤ 4294967295 := by simpa [Lit.wf, IntKind.min, IntKind.max, IntKind.signed, IntKind.bits] using w3
  have b4 : -32768 ≤ a2 ∧ a2 ≤ 32767 := by simpa [Lit.wf, IntKind.min, IntKind.max, IntKind.signed, IntKind.bits] using w4
  have b5 : -32768 ≤ a3 ∧ a3 ≤ 32767 := by simpa [Lit.wf, IntKind.min, IntKind.max, IntKind.signed, IntKind.bits] using w5
  refine ⟨1, ?_⟩
  unfold gazetteerlaw13_LeaseEnds.f
  rw [awake_eq]
  simp only [Option.bind_some, if_true]
  rw [wr a1 (by omega) (by omega), wr a2 (by omega) (by omega), wr a3 (by omega) (by omega)]
  obtain ⟨k, hk, hk0, hk1⟩ : ∃ k, mx 0 a2 = k ∧ 0 ≤ k ∧ k ≤ 32767 := ⟨_, rfl, by unfold mx; omega, by unfold mx; omega⟩
  rw [hk]
  unfold gazetteerlaw13_ends.f
  rw [refmay_eq]
  simp only [Option.bind_some]
  by_cases h : may e s f
  · rw [decide_eq_true h]
    simp only [if_true, gazetteerlaw13_Made.f, Option.bind_some]
    have hm := h
    unfold may at hm
    obtain ⟨d, hd, hd0, hd1⟩ : ∃ d, mn (mx a3 (wrap64 (-k))) k = d ∧ -k ≤ d ∧ d ≤ k := by
      rw [wr (-k) (by omega) (by omega)]
      exact ⟨_, rfl, by unfold mn mx; omega, by unfold mn mx; omega⟩
    rw [hd, wr (a1 + d) (by omega) (by omega), wr (a1 + k) (by omega) (by omega), wr (a1 + 1) (by omega) (by omega), safe_eq e s f a1 k h hk0 (by omega), safe_eq e s f (a1 + 1) k h hk0 (by omega),
      holds_eq e s f a1 h, holds_eq e s f (a1 + d) h, holds_eq e s f (a1 + k) h, left_eq e s f a1 h, j0_eq 0 e s f h]
    simp only [Option.bind_some]
    by_cases hs : s + f + k ≤ a1
    · rw [decide_eq_true hs, decide_eq_false (show ¬ (s ≤ a1 ∧ a1 < s + f) by omega), decide_eq_false (show ¬ (s ≤ a1 + d ∧ a1 + d < s + f) by omega), decide_eq_false (show ¬ (s ≤ a1 + k ∧ a1 + k < s + f) by omega), if_neg (show ¬ (s ≤ a1 ∧ a1 < s + f) by omega), decide_eq_true (show s + f + k ≤ a1 + 1 by omega)]
      simp [j0_eq 0 e s f h]
    · rw [decide_eq_false hs]
      simp
  · rw [decide_eq_false h, awake_eq]
    simp only [gazetteerlaw13_Made.f, Option.bind_some]
    rw [safe_no e s f a1 k h, holds_no e s f a1 h]
    simp

end Go.Proofs.Ytbfllekkbmeibaa.Pure

/- LeaseTicks, the plain law: over the printed functions, a lease holds at just as many ticks as it was granted for, and one less is left with each. No condition. -/
import Derived.Test.YtbfllekkbmeibaaPLeaseTicksx1
namespace Go.Proofs.Ytbfllekkbmeibaa.Pure
set_option linter.unusedVariables false
open Go.RowKit Go.Proofs.Ytbfllekkbmeibaa.PLeaseTicks Go.Proofs.YtbfllekkbmeibaaW.PrintWords Go.Proofs.YtbfllekkbmeibaaW.PrintLast Go.Proofs.YtbfllekkbmeibaaW.PrintMore

theorem wr (x : Int) (h0 : -9223372036854775808 ≤ x) (h1 : x ≤ 9223372036854775807) : wrap64 x = x := by
  unfold wrap64; omega

theorem may_true (s f e : Int) (he : 1 ≤ e) (hs : 0 ≤ s) (hs' : s ≤ 100000) (hf : 1 ≤ f) (hf' : f ≤ 100000) : lease_May.f e s f = some true := by
  unfold lease_May.f lease_within.f
  rw [if_pos (by omega), if_pos (by omega)]
  simp only [Option.bind_some]
  rw [decide_eq_true (by omega)]
  simp only [if_true]
  rw [if_pos (by omega)]
  simp only [Option.bind_some]
  rw [decide_eq_true (by omega)]

theorem end_eq (s f e : Int) (hs : 0 ≤ s) (hs' : s ≤ 100000) (hf : 1 ≤ f) (hf' : f ≤ 100000) : lease_end.f e s f = some (s + f) := by
  unfold lease_end.f; rw [wr _ (by omega) (by omega)]

theorem holds_eq (s f e n : Int) (he : 1 ≤ e) (hs : 0 ≤ s) (hs' : s ≤ 100000) (hf : 1 ≤ f) (hf' : f ≤ 100000) :
    lease_Holds.f e s f n = some (decide (s ≤ n ∧ n < s + f)) := by
  unfold lease_Holds.f
  rw [may_true s f e he hs hs' hf hf', end_eq s f e hs hs' hf hf']
  simp only [Option.bind_some, if_true]
  by_cases h : n ≥ s
  · rw [if_pos h]; congr 1; simp; omega
  · rw [if_neg h]; congr 1; simp; omega

theorem left_eq (s f e n : Int) (he : 1 ≤ e) (hs : 0 ≤ s) (hs' : s ≤ 100000) (hf : 1 ≤ f) (hf' : f ≤ 100000) (hn : -10 ≤ n) (hn' : n ≤ 300000) :
    lease_Left.f e s f n = some (if s ≤ n ∧ n < s + f then s + f - n else 0) := by
  unfold lease_Left.f
  rw [holds_eq s f e n he hs hs' hf hf', end_eq s f e hs hs' hf hf']
  simp only [Option.bind_some]
  by_cases h : s ≤ n ∧ n < s + f
  · rw [decide_eq_true h, if_pos h]; simp only [if_true]; rw [wr _ (by omega) (by omega)]
  · rw [decide_eq_false h, if_neg h]; simp

theorem safe_eq (s f e n : Int) (he : 1 ≤ e) (hs : 0 ≤ s) (hs' : s ≤ 100000) (hf : 1 ≤ f) (hf' : f ≤ 100000) :
    lease_Safe.f e s f n 2 = some (decide (s + f + 2 ≤ n)) := by
  unfold lease_Safe.f
  rw [may_true s f e he hs hs' hf hf', end_eq s f e hs hs' hf hf']
  simp only [Option.bind_some, if_true]
  have h2 : mn (mx 2 0) 1099511627776 = 2 := by decide
  rw [h2, wr _ (by omega) (by omega)]

theorem awake_eq : gazetteerlaw13_awake.f = some true := by decide +kernel

theorem loop_eq (s f e : Int) (he : 1 ≤ e) (hs : 0 ≤ s) (hs' : s ≤ 100000) (hf : 1 ≤ f) (hf' : f ≤ 100000) (d : Nat) :
    ∀ (k : Nat) (m n : Int), s - 3 ≤ n → n ≤ s + f + 3 → s + f + 3 - n = d → m = (if n ≤ s then 0 else if n ≤ s + f then n - s else f) → d < k →
      gazetteerlaw13_ticks.l0 k s f m n e s f = some true := by
  induction d with
  | zero =>
    intro k m n h0 h1 hd hm hk
    obtain ⟨k, rfl⟩ : ∃ j, k = j + 1 := ⟨k - 1, by omega⟩
    simp only [gazetteerlaw13_ticks.l0]
    rw [wr (s + f) (by omega) (by omega), wr (s + f + 3) (by omega) (by omega), if_neg (by omega), awake_eq]
    simp only [Option.bind_some, if_true]
    rw [if_neg (by omega), if_neg (by omega)] at hm
    rw [hm]; simp
  | succ d ih =>
    intro k m n h0 h1 hd hm hk
    obtain ⟨k, rfl⟩ : ∃ j, k = j + 1 := ⟨k - 1, by omega⟩
    simp only [gazetteerlaw13_ticks.l0]
    rw [wr (s + f) (by omega) (by omega), wr (s + f + 3) (by omega) (by omega), if_pos (by omega), holds_eq s f e n he hs hs' hf hf',
      left_eq s f e n he hs hs' hf hf' (by omega) (by omega), safe_eq s f e n he hs hs' hf hf', wr (s + f + 2) (by omega) (by omega), wr (n + 1) (by omega) (by omega), wr (s + f - n) (by omega) (by omega)]
    simp only [Option.bind_some]
    have hmb : 0 ≤ m ∧ m ≤ f := by split at hm <;> (try split at hm) <;> omega
    rw [wr (m + 1) (by omega) (by omega)]
    have hne : (decide (s + f + 2 ≤ n) != decide (n ≥ s + f + 2)) = false := by simp
    simp only [hne]
    by_cases h : s ≤ n ∧ n < s + f
    · rw [decide_eq_true h, if_pos h]
      simp only [if_true]
      exact ih k (m + 1) (n + 1) (by omega) (by omega) (by omega) (by
        rw [hm]; split <;> (try split) <;> (try split) <;> (try split) <;> omega) (by omega)
    · rw [decide_eq_false h, if_neg h]
      simp only [if_true]
      exact ih k m (n + 1) (by omega) (by omega) (by omega) (by
        rw [hm]; split <;> (try split) <;> (try split) <;> (try split) <;> omega) (by omega)

theorem LeaseTicks : gazetteerlaw13_LeaseTicks.Pure := by
  intro a0 a1 a2 w0 w1 w2
  have b0 : 0 ≤ a0 ∧ a0 ≤ 65535 := by simpa [Lit.wf, IntKind.min, IntKind.max, IntKind.signed, IntKind.bits] using w0
  have b1 : 0 ≤ a1 ∧ a1 ≤ 255 := by simpa [Lit.wf, IntKind.min, IntKind.max, IntKind.signed, IntKind.bits] using w1
  have b2 : 0 ≤ a2 ∧ a2 ≤ 255 := by simpa [Lit.wf, IntKind.min, IntKind.max, IntKind.signed, IntKind.bits] using w2
  refine ⟨1000, ?_⟩
  unfold gazetteerlaw13_LeaseTicks.f gazetteerlaw13_ticks.f
  rw [awake_eq]
  simp only [Option.bind_some, if_true]
  rw [wr a0 (by omega) (by omega), wr a1 (by omega) (by omega), wr a2 (by omega) (by omega), wr (1 + a1) (by omega) (by omega), wr (1 + a2) (by omega) (by omega), wr (a0 - 3) (by omega) (by omega)]
  rw [loop_eq a0 (1 + a1) (1 + a2) (by omega) (by omega) (by omega) (by omega) (by omega) (a1.toNat + 7) 1000 0 (a0 - 3) (by omega) (by omega) (by omega) (by rw [if_pos (by omega)]) (by omega)]
  rfl

end Go.Proofs.Ytbfllekkbmeibaa.Pure

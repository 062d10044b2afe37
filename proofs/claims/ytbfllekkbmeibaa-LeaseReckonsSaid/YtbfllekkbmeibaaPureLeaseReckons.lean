/- LeaseReckons, the plain law over the printed functions: any lease, any time: the program's answers are the document's. No condition. -/
import Derived.Test.YtbfllekkbmeibaaPLeaseReckonsy
namespace Go.Proofs.Ytbfllekkbmeibaa.Pure
set_option linter.unusedVariables false
set_option linter.unusedSimpArgs false
open Go.RowKit Go.Proofs.Ytbfllekkbmeibaa.PLeaseReckons Go.Proofs.YtbfllekkbmeibaaW.PrintWords Go.Proofs.YtbfllekkbmeibaaW.PrintLast Go.Proofs.YtbfllekkbmeibaaW.PrintMore

theorem wr (x : Int) (h0 : -9223372036854775808 ≤ x) (h1 : x ≤ 9223372036854775807) : wrap64 x = x := by
  unfold wrap64; omega
/-- May a lease be? -/
def may (e s f : Int) : Prop := 1 ≤ e ∧ 0 ≤ s ∧ s ≤ 1099511627776 ∧ 1 ≤ f ∧ f ≤ 1099511627776
instance (e s f : Int) : Decidable (may e s f) := by unfold may; infer_instance
theorem may_eq (e s f : Int) : lease_May.f e s f = some (decide (may e s f)) := by
  unfold lease_May.f lease_within.f may
  by_cases h1 : e ≥ 1 <;> by_cases h2 : s ≥ 0 <;> by_cases h3 : s ≤ 1099511627776 <;> by_cases h4 : f ≥ 1 <;> simp [h1, h2, h3, h4] <;> omega
theorem awake_eq : gazetteerlaw13_awake.f = some true := by decide +kernel
theorem refmay_eq (e s f : Int) : gazetteerref5_LeaseMay.f e s f = some (decide (may e s f)) := by
  unfold gazetteerref5_LeaseMay.f may
  by_cases h1 : e ≥ 1 <;> by_cases h2 : s ≥ 0 <;> by_cases h3 : s ≤ 1099511627776 <;> by_cases h4 : f ≥ 1 <;> simp [h1, h2, h3, h4] <;> omega
theorem holds_two (e s f n : Int) : ∃ b, lease_Holds.f e s f n = some b ∧ gazetteerref5_Holds.f e s f n = some b := by
  unfold lease_Holds.f gazetteerref5_Holds.f
  rw [may_eq, refmay_eq]
  unfold lease_end.f
  by_cases h : may e s f <;> by_cases h' : n ≥ s <;> simp [h, h']
theorem left_two (e s f n : Int) : ∃ b, lease_Left.f e s f n = some b ∧ gazetteerref5_Left.f e s f n = some b := by
  unfold lease_Left.f gazetteerref5_Left.f
  obtain ⟨b, h1, h2⟩ := holds_two e s f n
  rw [h1, h2]
  unfold lease_end.f
  cases b <;> simp
theorem safe_two (e s f n k : Int) : ∃ b, lease_Safe.f e s f n k = some b ∧ gazetteerref5_Safe.f e s f n k = some b := by
  unfold lease_Safe.f gazetteerref5_Safe.f
  rw [may_eq, refmay_eq]
  unfold lease_end.f
  by_cases h : may e s f <;> simp [h]
theorem later_two (e s f e' s' f' : Int) : ∃ x y z, lease_Later.f e s f e' s' f' = some (x, y, z) ∧ gazetteerref5_Later.f 1 e s f e' s' f' = some (x, y, z) := by
  unfold lease_Later.f gazetteerref5_Later.f
  rw [may_eq, may_eq, refmay_eq, refmay_eq]
  simp only [Option.bind_some]
  by_cases h : may e s f <;> by_cases h' : may e' s' f'
  · rw [decide_eq_true h, decide_eq_true h']
    simp only [gazetteerref5_Later.j0]
    by_cases c1 : e < e'
    · simp [c1]
    · by_cases c2 : e = e'
      · subst c2
        by_cases c3 : wrap64 (s + f) < wrap64 (s' + f')
        · simp [c3]
        · simp [c3]
      · have c4 : ¬ e' = e := fun h => c2 h.symm
        simp [c1, c2, c4]
  · rw [decide_eq_true h, decide_eq_false h']
    simp [gazetteerref5_Later.j0]
  · rw [decide_eq_false h, decide_eq_true h']
    simp [gazetteerref5_Later.j0]
  · rw [decide_eq_false h, decide_eq_false h']
    simp [gazetteerref5_Later.j0]

theorem LeaseReckons : gazetteerlaw13_LeaseReckons.Pure := by
  intro e s f e' s' f' n k _ _ _ _ _ _ _ _
  refine ⟨1, ?_⟩
  unfold gazetteerlaw13_LeaseReckons.f
  obtain ⟨x, y, z, l1, l2⟩ := later_two e s f e' s' f'
  obtain ⟨b1, h1, h2⟩ := holds_two e s f n
  obtain ⟨b2, h3, h4⟩ := left_two e s f n
  obtain ⟨b3, h5, h6⟩ := safe_two e s f n k
  rw [awake_eq]
  simp only [gazetteerlaw13_Made.f, Option.bind_some, if_true]
  rw [l1, l2, may_eq, refmay_eq, h1, h2, h3, h4, h5, h6]
  simp

end Go.Proofs.Ytbfllekkbmeibaa.Pure

-- cut down by a program of this session (wip/tools/trimwords.py) from printed words: what this claim names, and no more
import Derived.Test.YtfagobhhhljajaaWMa
namespace Go.Proofs.YtfagobhhhljajaaW.PrintSort
open Go Go.RowKit Go.Proofs.YtfagobhhhljajaaW.PrintWords
set_option linter.unusedVariables false
set_option linter.unusedSimpArgs false
section
variable {k : Int → Int}
theorem ordA_snoc : ∀ (s acc : List Int), Srt k acc → (∀ y ∈ acc, 0 < k y) → ∃ A S, ordA k acc s = A ++ S ∧ Srt k S ∧ (∀ y ∈ S, 0 < k y) ∧ (A = [] ∨ ∃ A' z, A = A' ++ [z] ∧ ¬ 0 < k z) ∧ ∀ t, ordA k acc (s ++ t) = A ++ ordA k S t
 | [], acc, h, hp => ⟨[], acc, by simp [ordA], h, hp, .inl rfl, fun t => by simp⟩
 | x :: s, acc, h, hp => by
  by_cases hx : 0 < k x
  ·
   obtain ⟨A, S, h1, h2, h3, h4, h5⟩ := ordA_snoc s (insR k x acc) (insR_srt h) (fun y hy => by rcases insR_mem.1 hy with rfl | h6; exact hx; exact hp y h6)
   exact ⟨A, S, by rw [ordA, if_pos hx]; exact h1, h2, h3, h4, fun t => by rw [List.cons_append, ordA, if_pos hx]; exact h5 t⟩
  ·
   obtain ⟨A, S, h1, h2, h3, h4, h5⟩ := ordA_snoc s [] List.Pairwise.nil (fun y hy => by cases hy)
   refine ⟨acc ++ x :: A, S, by rw [ordA, if_neg hx, h1]; simp, h2, h3, .inr ?_, fun t => by rw [List.cons_append, ordA, if_neg hx, h5 t]; simp⟩
   rcases h4 with rfl | ⟨A', z, rfl, hz⟩
   ·
    exact ⟨acc, x, rfl, hx⟩
   ·
    exact ⟨acc ++ x :: A', z, by simp, hz⟩
/-- The row while the number at i is carried down; m is its place. -/
def Mid (k : Int → Int) (s : List Int) (i m : Nat) (D : List Int) : Prop := ∃ A S1 S2 x, D = A ++ S1 ++ x :: (S2 ++ s.drop (i + 1)) ∧ m = A.length + S1.length ∧ (A = [] ∨ ∃ A' z, A = A' ++ [z] ∧ ¬ 0 < k z) ∧ Srt k (S1 ++ S2) ∧ (∀ y ∈ S1, 0 < k y) ∧ (∀ y ∈ S2, k x < k y) ∧ (S2 = [] ∨ 0 < k x) ∧ ordA k [] (s.take (i + 1)) = A ++ (if 0 < k x then insR k x (S1 ++ S2) else S1 ++ [x]) ∧ A.length + S1.length + S2.length = i
theorem Mid.start {s : List Int} {i : Nat} (h : i < s.length) : Mid k s i i (ordA k [] (s.take i) ++ s.drop i) := by
 obtain ⟨A, S, h1, h2, h3, h4, h5⟩ := ordA_snoc (k := k) (s.take i) [] List.Pairwise.nil (fun y hy => by cases hy)
 have hl : A.length + S.length = i := by
  have := ordA_len (k := k) (s.take i) []
  rw [h1, List.length_append, List.length_take, List.length_nil] at this
  omega
 refine ⟨A, S, [], s[i], by rw [h1, List.drop_eq_getElem_cons h]; rfl, hl.symm, h4, by rw [List.append_nil]; exact h2, h3, fun y hy => by (cases hy), .inl rfl, ?_, by simpa using hl⟩
 rw [List.take_add_one, List.getElem?_eq_getElem h]
 show ordA k [] (s.take i ++ [s[i]]) = _
 rw [h5, ordA, List.append_nil]
 split <;> rw [ordA]
theorem Mid.len {s D : List Int} {i m : Nat} (h : Mid k s i m D) (hi : i < s.length) : D.length = s.length ∧ m ≤ i := by
 obtain ⟨A, S1, S2, x, rfl, hm, _, _, _, _, _, _, hl⟩ := h
 simp only [List.length_append, List.length_cons, List.length_drop]
 omega
theorem mid_at (A S1 S2 : List Int) (x : Int) (R : List Int) : (A ++ S1 ++ x :: (S2 ++ R)).getD (A.length + S1.length) 0 = x := by
 rw [List.getD_eq_getElem?_getD, List.getElem?_append_right (by rw [List.length_append]; omega), List.length_append, Nat.sub_self]; rfl
theorem mid_at2 (A T : List Int) (y : Int) (R : List Int) : (A ++ (T ++ [y]) ++ R).getD (A.length + T.length) 0 = y := by
 have e : A ++ (T ++ [y]) ++ R = (A ++ T) ++ y :: R := by simp
 rw [e, List.getD_eq_getElem?_getD, List.getElem?_append_right (by rw [List.length_append]; omega), List.length_append, Nat.sub_self]; rfl
theorem Mid.step {s D : List Int} {i m : Nat} (h : Mid k s i m D) (h0 : 0 < m) (h1 : 0 < k (D.getD m 0)) (hc : k (D.getD m 0) < k (D.getD (m - 1) 0)) : Mid k s i (m - 1) ((D.set (m - 1) (D.getD m 0)).set m (D.getD (m - 1) 0)) := by
 obtain ⟨A, S1, S2, x, rfl, rfl, hA, hs, hp, h2, h3, h4, hl⟩ := h
 rw [mid_at] at h1 hc ⊢
 rcases List.eq_nil_or_concat S1 with rfl | ⟨T, y, rfl⟩
 ·
  rcases hA with rfl | ⟨A', z, rfl, hz⟩
  ·
   simp at h0
  ·
   have e : ((A' ++ [z]).length + ([] : List Int).length) - 1 = A'.length + ([] : List Int).length := by simp
   have e2 : A' ++ [z] ++ [] ++ x :: (S2 ++ s.drop (i + 1)) = A' ++ ([] ++ [z]) ++ x :: (S2 ++ s.drop (i + 1)) := by simp
   rw [e, e2, mid_at2] at hc
   omega
 ·
  rw [List.concat_eq_append] at *
  have e : A.length + (T ++ [y]).length - 1 = A.length + T.length := by simp
  rw [e, mid_at2] at hc ⊢
  refine ⟨A, T, y :: S2, x, ?_, rfl, hA, by simpa using hs, fun z hz => hp z (by simp [hz]), fun z hz => by rcases List.mem_cons.1 hz with rfl | hz; exact hc; exact h2 z hz, .inr h1, ?_, by simp at hl ⊢; omega⟩
  ·
   have e0 : A ++ (T ++ [y]) ++ x :: (S2 ++ s.drop (i + 1)) = (A ++ T) ++ y :: x :: (S2 ++ s.drop (i + 1)) := by simp
   have el : A.length + T.length = (A ++ T).length := by simp
   have el2 : A.length + (T ++ [y]).length = (A ++ T).length + 1 := by simp; omega
   rw [e0, el, el2, List.set_append_right _ _ (Nat.le_refl _), Nat.sub_self, List.set_append_right _ _ (by omega), Nat.add_sub_cancel_left]
   rfl
  ·
   rw [h4, if_pos h1, if_pos h1]; simp
end
end Go.Proofs.YtfagobhhhljajaaW.PrintSort

/- Rows of which each run of positive keys is sorted by itself, plain (no program in sight). No condition. -/
import Derived.Test.YtdmahdgcfaieoaaWSortP
namespace Go.Proofs.YtdmahdgcfaieoaaW.PrintSort
open Go Go.RowKit Go.Proofs.YtdmahdgcfaieoaaW.PrintWords
set_option linter.unusedVariables false
set_option linter.unusedSimpArgs false
/-- A number, put into a sorted row behind those alike. -/
def insR (k : Int → Int) (x : Int) : List Int → List Int
  | [] => [x]
  | y :: t => if k x < k y then x :: y :: t else y :: insR k x t
/-- A row, of which each run of positive keys is sorted by itself; ahead of it a run that is sorted. -/
def ordA (k : Int → Int) : List Int → List Int → List Int
  | acc, [] => acc
  | acc, x :: t => if 0 < k x then ordA k (insR k x acc) t else acc ++ x :: ordA k [] t
/-- What stands behind a run. -/
def tlA (k : Int → Int) : List Int → List Int
  | [] => []
  | x :: t => x :: ordA k [] t
section
variable {k : Int → Int}
theorem insR_mem {x y : Int} : ∀ {l : List Int}, y ∈ insR k x l ↔ y = x ∨ y ∈ l
  | [] => by simp [insR]
  | z :: t => by
    unfold insR
    split
    · simp
    · simp only [List.mem_cons, insR_mem (l := t)]
      constructor
      · rintro (h | h | h)
        · exact .inr (.inl h)
        · exact .inl h
        · exact .inr (.inr h)
      · rintro (h | h | h)
        · exact .inr (.inl h)
        · exact .inl h
        · exact .inr (.inr h)
theorem insR_srt {x : Int} : ∀ {l : List Int}, Srt k l → Srt k (insR k x l)
  | [], _ => by simp [insR, Srt]
  | z :: t, h => by
    have h' := List.pairwise_cons.1 h
    unfold insR
    split
    · rename_i hk
      refine List.pairwise_cons.2 ⟨fun y hy => ?_, h⟩
      rcases List.mem_cons.1 hy with rfl | hy
      · omega
      · have := h'.1 y hy; omega
    · rename_i hk
      refine List.pairwise_cons.2 ⟨fun y hy => ?_, insR_srt h'.2⟩
      rcases insR_mem.1 hy with rfl | hy
      · omega
      · exact h'.1 y hy
theorem insR_filt {x : Int} (c : Int) : ∀ {l : List Int}, Srt k l → (insR k x l).filter (fun y => k y == c) = (l ++ [x]).filter (fun y => k y == c)
  | [], _ => by simp [insR]
  | z :: t, h => by
    have h' := List.pairwise_cons.1 h
    unfold insR
    split
    · rename_i hk
      by_cases hx : k x = c
      · have e : (z :: t).filter (fun y => k y == c) = [] := List.filter_eq_nil_iff.2 (fun y hy hc => by
          rw [beq_iff_eq] at hc
          rcases List.mem_cons.1 hy with rfl | hy
          · omega
          · have := h'.1 y hy; omega)
        rw [List.filter_cons_of_pos (by simp [hx]), List.filter_append, e, List.nil_append, List.filter_cons_of_pos (by simp [hx])]
        rfl
      · rw [List.filter_cons_of_neg (by simp [hx]), List.filter_append, List.filter_cons_of_neg (a := x) (by simp [hx])]
        simp
    · rw [List.cons_append, List.filter_cons, List.filter_cons, insR_filt c h'.2]
theorem fold_st : ∀ (run acc : List Int), Srt k acc → St k (acc ++ run) (run.foldl (fun l x => insR k x l) acc)
  | [], acc, h => by rw [List.append_nil]; exact St.refl h
  | x :: run, acc, h => by
    have h1 := fold_st run (insR k x acc) (insR_srt h)
    refine St.trans (fun c => ?_) h1
    rw [List.filter_append, insR_filt c h, ← List.filter_append, List.append_assoc]; rfl
theorem fold_eq {run X : List Int} (h : St k run X) : run.foldl (fun l x => insR k x l) [] = X := by
  have h1 := fold_st (k := k) run [] List.Pairwise.nil
  rw [List.nil_append] at h1
  exact St.unique h1.1 h.1 (fun c => (h1.2 c).trans (h.2 c).symm)
theorem ordA_run : ∀ (run acc rest : List Int), (∀ y ∈ run, 0 < k y) → ordA k acc (run ++ rest) = ordA k (run.foldl (fun l x => insR k x l) acc) rest
  | [], _, _, _ => rfl
  | x :: run, acc, rest, h => by
    rw [List.cons_append, ordA, if_pos (h x (by simp)), ordA_run run _ rest (fun y hy => h y (by simp [hy]))]
    rfl
theorem ordA_len : ∀ (s acc : List Int), (ordA k acc s).length = acc.length + s.length
  | [], acc => by simp [ordA]
  | x :: t, acc => by
    have hi : ∀ l : List Int, (insR k x l).length = l.length + 1 := fun l => by
      induction l with
      | nil => rfl
      | cons y t ih => unfold insR; split <;> simp [ih]
    unfold ordA
    split
    · rw [ordA_len t, hi, List.length_cons]; omega
    · rw [List.length_append, List.length_cons, ordA_len t]; simp
/-- A run that is sorted, and what stands behind it. -/
theorem ordA_step {run X rest : List Int} (h : St k run X) (hp : ∀ y ∈ run, 0 < k y) (hr : ∀ x t, rest = x :: t → ¬ 0 < k x) : ordA k [] (run ++ rest) = X ++ tlA k rest := by
  rw [ordA_run run [] rest hp, fold_eq h]
  cases rest with
  | nil => simp [ordA, tlA]
  | cons x t => rw [ordA, if_neg (hr x t rfl), tlA]
end
/-- How far the row is sorted. -/
def Way (k : Int → Int) (s : List Int) (i : Nat) (D : List Int) : Prop := ∃ M T, D = M ++ T ∧ ordA k [] s = M ++ ordA k [] T ∧ D.length = s.length ∧ (M.length = i ∨ (T = [] ∧ s.length < i)) ∧ i ≤ s.length + 1
section
variable {k : Int → Int}
theorem Way.start {s : List Int} : Way k s 0 s := ⟨[], s, rfl, rfl, rfl, .inl rfl, by omega⟩
theorem Way.done {s D : List Int} {i : Nat} (h : Way k s i D) (hi : s.length ≤ i) : D = ordA k [] s := by
  obtain ⟨M, T, rfl, h2, h3, h4, _⟩ := h
  rw [List.length_append] at h3
  have hT : T = [] := by
    rcases h4 with h4 | h4
    · exact List.eq_nil_of_length_eq_zero (by omega)
    · exact h4.1
  rw [h2, hT]; rfl
/-- The row is cut at i and n: what stands between is the next run. -/
theorem Way.cut {s D : List Int} {i n : Nat} (h : Way k s i D) (h1 : i < s.length) (h2 : i ≤ n) (h3 : n ≤ s.length) (hp : ∀ j, i ≤ j → j < n → 0 < k (D.getD j 0)) (hn : n < s.length → ¬ 0 < k (D.getD n 0)) :
    ∃ M R Q, D = M ++ R ++ Q ∧ M.length = i ∧ R.length = n - i ∧ ∀ X, St k R X → Way k s (n + 1) (M ++ X ++ Q) := by
  obtain ⟨M, T, rfl, e2, e3, e4, e5⟩ := h
  have hM : M.length = i := by
    rcases e4 with h4 | h4
    · exact h4
    · omega
  rw [List.length_append] at e3
  refine ⟨M, T.take (n - i), T.drop (n - i), by rw [List.append_assoc, List.take_append_drop], hM, by rw [List.length_take]; omega, fun X hX => ?_⟩
  have hpr : ∀ y ∈ T.take (n - i), 0 < k y := fun y hy => by
    obtain ⟨j, hj, rfl⟩ := List.getElem_of_mem hy
    rw [List.length_take] at hj
    have := hp (i + j) (by omega) (by omega)
    rw [List.getD_eq_getElem?_getD, List.getElem?_append_right (by omega), show i + j - M.length = j by omega, List.getElem?_eq_getElem (by omega)] at this
    rw [List.getElem_take]
    exact this
  have hrest : ∀ x t, T.drop (n - i) = x :: t → ¬ 0 < k x := fun x t hx => by
    have hlt : n - i < T.length := by
      have := congrArg List.length hx
      rw [List.length_drop, List.length_cons] at this
      omega
    have := hn (by omega)
    rw [List.getD_eq_getElem?_getD, List.getElem?_append_right (by omega), hM, ← List.head?_drop, hx] at this
    exact this
  have e6 := ordA_step hX hpr hrest
  rw [List.take_append_drop] at e6
  have hXl : X.length = n - i := by rw [hX.len, List.length_take]; omega
  cases hd : T.drop (n - i) with
  | nil =>
    have hl := congrArg List.length hd
    rw [List.length_drop, List.length_nil] at hl
    rw [hd] at e6
    exact ⟨M ++ X, [], by simp, by rw [e2, e6]; simp [ordA, tlA], by simp only [List.length_append, List.append_nil]; omega, .inr ⟨rfl, by omega⟩, by omega⟩
  | cons x t =>
    have hl := congrArg List.length hd
    rw [List.length_drop, List.length_cons] at hl
    rw [hd] at e6
    exact ⟨M ++ X ++ [x], t, by simp, by rw [e2, e6]; simp [tlA], by simp only [List.length_append, List.length_cons]; omega, .inl (by simp only [List.length_append, List.length_singleton]; omega), by omega⟩
end
end Go.Proofs.YtdmahdgcfaieoaaW.PrintSort

/- Sorting in place, plain: rows, swaps, rotations, stable merges (no program in sight). No condition. -/
import Derived.Test.YtdmahdgcfaieoaaWMan
import Derived.Test.YtdmahdgcfaieoaaWWords
namespace Go.Proofs.YtdmahdgcfaieoaaW.PrintSort
open Go Go.RowKit Go.Proofs.YtdmahdgcfaieoaaW.PrintWords
set_option linter.unusedVariables false
set_option linter.unusedSimpArgs false
/-- Sorted by k, those alike in any order. -/
def Srt (k : Int → Int) (l : List Int) : Prop := l.Pairwise (fun a b => k a ≤ k b)
/-- l' is l, sorted by k; those alike stand as they stood. -/
def St (k : Int → Int) (l l' : List Int) : Prop := Srt k l' ∧ ∀ c, l'.filter (fun x => k x == c) = l.filter (fun x => k x == c)
section
variable {k : Int → Int}
theorem St.refl {l : List Int} (h : Srt k l) : St k l l := ⟨h, fun _ => rfl⟩
theorem St.trans {a b c : List Int} (h1 : ∀ x, b.filter (fun y => k y == x) = a.filter (fun y => k y == x)) (h2 : St k b c) : St k a c := ⟨h2.1, fun x => (h2.2 x).trans (h1 x)⟩
theorem filt_mem {l l' : List Int} (h : ∀ c, l'.filter (fun x => k x == c) = l.filter (fun x => k x == c)) (x : Int) : x ∈ l' ↔ x ∈ l := by
  have e : ∀ m : List Int, x ∈ m ↔ x ∈ m.filter (fun y => k y == k x) := fun m => by simp
  rw [e l', e l, h]
theorem filt_perm {l l' : List Int} (h : ∀ c, l'.filter (fun x => k x == c) = l.filter (fun x => k x == c)) : l'.Perm l := List.perm_iff_count.2 (fun a => by
  have := congrArg (List.count a) (h (k a))
  rw [List.count_filter (by simp), List.count_filter (by simp)] at this
  exact this)
theorem St.len {l l' : List Int} (h : St k l l') : l'.length = l.length := (filt_perm h.2).length_eq
theorem St.mem {l l' : List Int} (h : St k l l') (x : Int) : x ∈ l' ↔ x ∈ l := filt_mem h.2 x
theorem St.append {a a' b b' : List Int} (ha : St k a a') (hb : St k b b') (h : ∀ x ∈ a, ∀ y ∈ b, k x ≤ k y) : St k (a ++ b) (a' ++ b') :=
  ⟨List.pairwise_append.2 ⟨ha.1, hb.1, fun x hx y hy => h x ((ha.mem x).1 hx) y ((hb.mem y).1 hy)⟩, fun c => by rw [List.filter_append, List.filter_append, ha.2, hb.2]⟩
/-- Rows side by side that have no key in common may change places. -/
theorem filt_swap {a b : List Int} (h : ∀ x ∈ a, ∀ y ∈ b, k x ≠ k y) (c : Int) : (b ++ a).filter (fun x => k x == c) = (a ++ b).filter (fun x => k x == c) := by
  rw [List.filter_append, List.filter_append]
  by_cases ha : a.filter (fun x => k x == c) = []
  · rw [ha, List.append_nil, List.nil_append]
  · obtain ⟨x, hx⟩ := List.exists_mem_of_ne_nil _ ha
    obtain ⟨hx1, hx2⟩ := List.mem_filter.1 hx
    have hb : b.filter (fun x => k x == c) = [] := List.filter_eq_nil_iff.2 (fun y hy hk => h x hx1 y hy (by rw [beq_iff_eq] at hx2 hk; rw [hx2, hk]))
    rw [hb, List.append_nil, List.nil_append]
theorem filt_mid {p q a b : List Int} (h : ∀ c, b.filter (fun x => k x == c) = a.filter (fun x => k x == c)) (c : Int) : (p ++ b ++ q).filter (fun x => k x == c) = (p ++ a ++ q).filter (fun x => k x == c) := by
  simp only [List.filter_append, h]
/-- Sorted rows with the same filters are one. -/
theorem St.unique : ∀ {a b : List Int}, Srt k a → Srt k b → (∀ c, a.filter (fun x => k x == c) = b.filter (fun x => k x == c)) → a = b
  | [], b, _, _, h => by
    cases b with
    | nil => rfl
    | cons y b => have := h (k y); simp at this
  | x :: a, [], _, _, h => by have := h (k x); simp at this
  | x :: a, y :: b, ha, hb, h => by
    have ha' := List.pairwise_cons.1 ha
    have hb' := List.pairwise_cons.1 hb
    have mem : ∀ z, z ∈ x :: a ↔ z ∈ y :: b := fun z => filt_mem (fun c => h c) z
    have h1 : k x ≤ k y := by
      rcases List.mem_cons.1 ((mem y).2 (by simp)) with e | e
      · rw [e]; exact Int.le_refl _
      · exact ha'.1 y e
    have h2 : k y ≤ k x := by
      rcases List.mem_cons.1 ((mem x).1 (by simp)) with e | e
      · rw [e]; exact Int.le_refl _
      · exact hb'.1 x e
    have hk : k x = k y := by omega
    have hx := h (k x)
    rw [List.filter_cons_of_pos (by simp), List.filter_cons_of_pos (by simp [hk])] at hx
    injection hx with e1 e2
    subst e1
    rw [St.unique ha'.2 hb'.2 (fun c => by
      have := h c
      simp only [List.filter_cons] at this
      split at this
      · injection this
      · exact this)]
end
/-- The numbers at p and q change places. -/
def swap (D : List Int) (p q : Nat) : List Int := (D.set p (D.getD q 0)).set q (D.getD p 0)
theorem swap_len (D : List Int) (p q : Nat) : (swap D p q).length = D.length := by simp [swap]
theorem getD_mid (P R : List Int) (y : Int) : (P ++ y :: R).getD P.length 0 = y := by
  simp [List.getD_eq_getElem?_getD]
theorem getD_mid' (P R : List Int) (y : Int) (n : Nat) (h : n = P.length) : (P ++ y :: R).getD n 0 = y := by subst h; exact getD_mid P R y
theorem swap_at (P X Q : List Int) (x y : Int) : swap (P ++ x :: (X ++ y :: Q)) P.length (P.length + X.length + 1) = P ++ y :: (X ++ x :: Q) := by
  have e1 : (P ++ x :: (X ++ y :: Q)).getD (P.length + X.length + 1) 0 = y := by
    have := getD_mid' (P ++ x :: X) Q y (P.length + X.length + 1) (by simp; omega)
    simpa using this
  have e2 : (P ++ x :: (X ++ y :: Q)).getD P.length 0 = x := by
    exact getD_mid _ _ _
  unfold swap
  rw [e1, e2, List.set_append_right _ _ (Nat.le_refl _), Nat.sub_self, List.set_cons_zero, List.set_append_right _ _ (by omega), show P.length + X.length + 1 - P.length = X.length + 1 by omega, List.set_cons_succ, List.set_append_right _ _ (Nat.le_refl _), Nat.sub_self, List.set_cons_zero]
/-- i of them, one behind another. -/
def swapN (D : List Int) (p q : Nat) : Nat → List Int
  | 0 => D
  | i + 1 => swap (swapN D p q i) (p + i) (q + i)
theorem swapN_len (D : List Int) (p q : Nat) : ∀ i, (swapN D p q i).length = D.length
  | 0 => rfl
  | i + 1 => by rw [swapN, swap_len, swapN_len D p q i]
theorem swapN_at (P Y Q : List Int) : ∀ (X Z : List Int), X.length = Z.length → swapN (P ++ X ++ Y ++ Z ++ Q) P.length (P.length + X.length + Y.length) X.length = P ++ Z ++ Y ++ X ++ Q := by
  -- from the end: the last of each
  intro X
  have key : ∀ (n : Nat) (X Z Q : List Int) (X2 : List Int), X.length = n → Z.length = n → ∀ Z2 : List Int, swapN (P ++ (X ++ X2) ++ Y ++ (Z ++ Z2) ++ Q) P.length (P.length + (X ++ X2).length + Y.length) n = P ++ (Z ++ X2) ++ Y ++ (X ++ Z2) ++ Q := by
    intro n
    induction n with
    | zero =>
      intro X Z Q X2 hx hz Z2
      obtain rfl := List.eq_nil_of_length_eq_zero hx
      obtain rfl := List.eq_nil_of_length_eq_zero hz
      rfl
    | succ n ih =>
      intro X Z Q X2 hx hz Z2
      obtain ⟨x, X', rfl⟩ : ∃ x X', X = X' ++ [x] := by
        have hne : X ≠ [] := fun e => by rw [e] at hx; simp at hx
        exact ⟨X.getLast hne, X.dropLast, (List.dropLast_concat_getLast hne).symm⟩
      obtain ⟨z, Z', rfl⟩ : ∃ z Z', Z = Z' ++ [z] := by
        have hne : Z ≠ [] := fun e => by rw [e] at hz; simp at hz
        exact ⟨Z.getLast hne, Z.dropLast, (List.dropLast_concat_getLast hne).symm⟩
      simp only [List.length_append, List.length_cons, List.length_nil] at hx hz
      rw [swapN]
      have h := ih X' Z' Q ([x] ++ X2) (by omega) (by omega) ([z] ++ Z2)
      simp only [List.append_assoc, List.length_append, List.length_cons, List.length_nil, List.cons_append, List.nil_append] at h ⊢
      rw [h]
      have hs := swap_at (P ++ Z') (X2 ++ Y ++ X') (Z2 ++ Q) x z
      simp only [List.append_assoc, List.length_append, List.length_cons, List.length_nil, List.cons_append, List.nil_append] at hs
      rw [show P.length + n = P.length + Z'.length by omega, show P.length + (X'.length + (X2.length + 1)) + Y.length + n = P.length + Z'.length + (X2.length + (Y.length + X'.length)) + 1 by omega]
      exact hs
  intro Z hz
  have h := key X.length X Z Q [] rfl hz.symm []
  simpa using h
/-- What a rotation still has to do: i and j numbers are to change places, behind m - i others. -/
def Rot (F : List Int) (m : Nat) (D : List Int) (i j : Nat) : Prop := ∃ P X Y Q, D = P ++ X ++ Y ++ Q ∧ F = P ++ Y ++ X ++ Q ∧ X.length = i ∧ Y.length = j ∧ P.length + i = m
theorem Rot.hi {F D : List Int} {m i j : Nat} (h : Rot F m D i j) (hij : j < i) : Rot F m (swapN D (m - i) m j) (i - j) j := by
  obtain ⟨P, X, Y, Q, rfl, rfl, rfl, rfl, rfl⟩ := h
  refine ⟨P ++ Y, X.drop Y.length, X.take Y.length, Q, ?_, ?_, by simp, by simp; omega, by simp; omega⟩
  · have h := swapN_at P (X.drop Y.length) Q (X.take Y.length) Y (by simp; omega)
    have e1 : (X.take Y.length).length = Y.length := by simp; omega
    have e2 : P.length + (X.take Y.length).length + (X.drop Y.length).length = P.length + X.length := by simp; omega
    rw [e2, e1] at h
    rw [show P.length + X.length - X.length = P.length by omega, ← List.take_append_drop Y.length X]
    simp only [List.append_assoc, List.take_append_drop] at h ⊢
    exact h
  · simp
theorem Rot.lo {F D : List Int} {m i j : Nat} (h : Rot F m D i j) (hij : i < j) : Rot F m (swapN D (m - i) (m + j - i) i) i (j - i) := by
  obtain ⟨P, X, Y, Q, rfl, rfl, rfl, rfl, rfl⟩ := h
  refine ⟨P, Y.drop (Y.length - X.length), Y.take (Y.length - X.length), X ++ Q, ?_, ?_, by simp; omega, by simp, by simp⟩
  · have h := swapN_at P (Y.take (Y.length - X.length)) Q X (Y.drop (Y.length - X.length)) (by simp; omega)
    have e2 : P.length + X.length + (Y.take (Y.length - X.length)).length = P.length + X.length + Y.length - X.length := by simp; omega
    rw [e2] at h
    rw [show P.length + X.length - X.length = P.length by omega]
    simp only [List.append_assoc] at h ⊢
    rw [← List.append_assoc (Y.take _), List.take_append_drop] at h
    exact h
  · have e : P ++ Y.take (Y.length - X.length) ++ Y.drop (Y.length - X.length) ++ (X ++ Q) = P ++ (Y.take (Y.length - X.length) ++ Y.drop (Y.length - X.length)) ++ X ++ Q := by simp only [List.append_assoc]
    first | rw [e, List.take_append_drop] | (simp only [List.append_assoc] at e ⊢; rw [e, ← List.append_assoc (Y.take _), List.take_append_drop])
theorem Rot.eq {F D : List Int} {m i : Nat} (h : Rot F m D i i) : swapN D (m - i) m i = F := by
  obtain ⟨P, X, Y, Q, rfl, rfl, rfl, hy, rfl⟩ := h
  have h := swapN_at P [] Q X Y hy.symm
  rw [show P.length + X.length - X.length = P.length by omega]
  simpa using h
theorem drop_cons (S : List Int) (i : Nat) (h : i < S.length) : S.drop i = S.getD i 0 :: S.drop (i + 1) := by
  rw [List.drop_eq_getElem_cons h]
  simp [List.getD_eq_getElem?_getD, h]
theorem take_snoc (S : List Int) (i : Nat) (h : i < S.length) : S.take (i + 1) = S.take i ++ [S.getD i 0] := by
  rw [List.take_succ_eq_append_getElem h]
  simp [List.getD_eq_getElem?_getD, h]
theorem swap_comm (D : List Int) {p q : Nat} (h : p ≠ q) : swap D p q = swap D q p := by
  unfold swap
  rw [List.set_comm _ _ h]
/-- A number on its way down into a sorted row. -/
def Ins (k : Int → Int) (P M T : List Int) (x : Int) (m : Nat) (E : List Int) : Prop := ∃ M1 M2, E = P ++ M1 ++ x :: M2 ++ T ∧ M = M1 ++ M2 ∧ P.length + M1.length = m ∧ ∀ y ∈ M2, k x < k y
section
variable {k : Int → Int} {P M T : List Int} {x : Int} {m : Nat} {E : List Int}
theorem Ins.start : Ins k P M T x (P.length + M.length) (P ++ M ++ x :: T) := ⟨M, [], by simp, by simp, rfl, by simp⟩
theorem Ins.cur (h : Ins k P M T x m E) : E.getD m 0 = x := by
  obtain ⟨M1, M2, rfl, rfl, rfl, _⟩ := h
  have := getD_mid (P ++ M1) (M2 ++ T) x
  simp
theorem Ins.len (h : Ins k P M T x m E) : E.length = P.length + M.length + T.length + 1 ∧ P.length ≤ m ∧ m ≤ P.length + M.length := by
  obtain ⟨M1, M2, rfl, rfl, rfl, _⟩ := h
  simp
  omega
theorem Ins.prev (h : Ins k P M T x m E) (hm : P.length < m) : ∃ M1 M2 y, E = P ++ M1 ++ y :: x :: M2 ++ T ∧ M = M1 ++ y :: M2 ∧ P.length + M1.length + 1 = m ∧ (∀ z ∈ M2, k x < k z) ∧ E.getD (m - 1) 0 = y := by
  obtain ⟨M1, M2, rfl, rfl, rfl, h4⟩ := h
  obtain ⟨y, M0, rfl⟩ : ∃ y M0, M1 = M0 ++ [y] := by
    have hne : M1 ≠ [] := fun e => by rw [e] at hm; simp at hm
    exact ⟨M1.getLast hne, M1.dropLast, (List.dropLast_concat_getLast hne).symm⟩
  refine ⟨M0, M2, y, by simp, by simp, by simp; omega, h4, ?_⟩
  have := getD_mid' (P ++ M0) (x :: M2 ++ T) y (P.length + (M0 ++ [y]).length - 1) (by simp)
  simp
theorem Ins.step (h : Ins k P M T x m E) (hm : P.length < m) (hk : k x < k (E.getD (m - 1) 0)) : Ins k P M T x (m - 1) (swap E m (m - 1)) := by
  obtain ⟨M1, M2, y, rfl, rfl, rfl, h4, h5⟩ := h.prev hm
  rw [h5] at hk
  refine ⟨M1, y :: M2, ?_, rfl, by omega, fun z hz => ?_⟩
  · rw [swap_comm _ (by omega)]
    have := swap_at (P ++ M1) [] (M2 ++ T) y x
    simpa using this
  · rcases List.mem_cons.1 hz with rfl | hz
    · exact hk
    · exact h4 z hz
theorem Ins.done (h : Ins k P M T x m E) (hs : Srt k M) (hd : m = P.length ∨ ¬ k x < k (E.getD (m - 1) 0)) : ∃ M', E = P ++ M' ++ T ∧ St k (M ++ [x]) M' := by
  obtain ⟨M1, M2, hE, rfl, hm, h4⟩ := id h
  refine ⟨M1 ++ x :: M2, by rw [hE]; simp, ?_, fun c => ?_⟩
  · have hp := List.pairwise_append.1 hs
    refine List.pairwise_append.2 ⟨hp.1, List.pairwise_cons.2 ⟨fun y hy => by have := h4 y hy; omega, hp.2.1⟩, fun a ha b hb => ?_⟩
    have hax : k a ≤ k x := by
      rcases hd with hd | hd
      · have : M1 = [] := List.eq_nil_of_length_eq_zero (by omega)
        subst this; simp at ha
      · by_cases hP : P.length < m
        · obtain ⟨N1, N2, y, e1, e2, e3, e4, e5⟩ := h.prev hP
          rw [e5] at hd
          have hy : M1 = N1 ++ [y] := by
            have e6 : P ++ M1 ++ x :: M2 ++ T = P ++ (N1 ++ [y]) ++ (x :: N2 ++ T) := by rw [← hE, e1]; simp
            have e7 : (M1 ++ (x :: M2 ++ T)) = ((N1 ++ [y]) ++ (x :: N2 ++ T)) := by
              have : P ++ (M1 ++ (x :: M2 ++ T)) = P ++ ((N1 ++ [y]) ++ (x :: N2 ++ T)) := by simpa using e6
              exact List.append_cancel_left this
            exact (List.append_inj e7 (by simp; omega)).1
          subst hy
          rcases List.mem_append.1 ha with ha | ha
          · have h1 := (List.pairwise_append.1 hp.1).2.2 a ha y (by simp)
            omega
          · obtain rfl : a = y := by simpa using ha
            omega
        · have : M1 = [] := List.eq_nil_of_length_eq_zero (by omega)
          subst this; simp at ha
    rcases List.mem_cons.1 hb with rfl | hb
    · exact hax
    · have := h4 b hb; omega
  · simp only [List.filter_append, List.filter_cons, List.filter_nil]
    have hz : k x = c → M2.filter (fun y => k y == c) = [] := fun e => List.filter_eq_nil_iff.2 (fun y hy hc => by have := h4 y hy; rw [beq_iff_eq] at hc; omega)
    by_cases hc : k x = c
    · simp [hc, hz hc]
    · simp [hc]
end
end Go.Proofs.YtdmahdgcfaieoaaW.PrintSort

-- merged by a program of this session (wip/tools/mergewords.py)
import Derived.Test.YtfagobhhhljajaaWMan
import Derived.Test.YtfagobhhhljajaaWWords
/- Sorting in place, plain: rows, swaps, rotations, stable merges (no program in sight). No condition. -/
namespace Go.Proofs.YtfagobhhhljajaaW.PrintSort
open Go Go.RowKit Go.Proofs.YtfagobhhhljajaaW.PrintWords
set_option linter.unusedVariables false
set_option linter.unusedSimpArgs false
/-- Sorted by k, those alike in any order. -/
def Srt (k : Int → Int) (l : List Int) : Prop := l.Pairwise (fun a b => k a ≤ k b)
/-- l' is l, sorted by k; those alike stand as they stood. -/
def St (k : Int → Int) (l l' : List Int) : Prop := Srt k l' ∧ ∀ c, l'.filter (fun x => k x == c) = l.filter (fun x => k x == c)
section
variable {k : Int → Int}
theorem St.refl {l : List Int} (h : Srt k l) : St k l l := ⟨h, fun _ => rfl⟩
theorem St.trans {a b c : List Int} (h1 : ∀ x, b.filter (fun y => k y == x) = a.filter (fun y => k y == x)) (h2 : St k b c) : St k a c := ⟨h2.1, fun x => (h2.2 x).trans (h1 x)⟩
theorem filt_mem {l l' : List Int} (h : ∀ c, l'.filter (fun x => k x == c) = l.filter (fun x => k x == c)) (x : Int) : x ∈ l' ↔ x ∈ l := by
 have e : ∀ m : List Int, x ∈ m ↔ x ∈ m.filter (fun y => k y == k x) := fun m => by simp
 rw [e l', e l, h]
theorem filt_perm {l l' : List Int} (h : ∀ c, l'.filter (fun x => k x == c) = l.filter (fun x => k x == c)) : l'.Perm l := List.perm_iff_count.2 (fun a => by
 have := congrArg (List.count a) (h (k a))
 rw [List.count_filter (by simp), List.count_filter (by simp)] at this
 exact this)
theorem St.len {l l' : List Int} (h : St k l l') : l'.length = l.length := (filt_perm h.2).length_eq
theorem St.mem {l l' : List Int} (h : St k l l') (x : Int) : x ∈ l' ↔ x ∈ l := filt_mem h.2 x
theorem St.append {a a' b b' : List Int} (ha : St k a a') (hb : St k b b') (h : ∀ x ∈ a, ∀ y ∈ b, k x ≤ k y) : St k (a ++ b) (a' ++ b') :=
 ⟨List.pairwise_append.2 ⟨ha.1, hb.1, fun x hx y hy => h x ((ha.mem x).1 hx) y ((hb.mem y).1 hy)⟩, fun c => by rw [List.filter_append, List.filter_append, ha.2, hb.2]⟩
/-- Rows side by side that have no key in common may change places. -/
theorem filt_swap {a b : List Int} (h : ∀ x ∈ a, ∀ y ∈ b, k x ≠ k y) (c : Int) : (b ++ a).filter (fun x => k x == c) = (a ++ b).filter (fun x => k x == c) := by
 rw [List.filter_append, List.filter_append]
 by_cases ha : a.filter (fun x => k x == c) = []
 ·
  rw [ha, List.append_nil, List.nil_append]
 ·
  obtain ⟨x, hx⟩ := List.exists_mem_of_ne_nil _ ha
  obtain ⟨hx1, hx2⟩ := List.mem_filter.1 hx
  have hb : b.filter (fun x => k x == c) = [] := List.filter_eq_nil_iff.2 (fun y hy hk => h x hx1 y hy (by rw [beq_iff_eq] at hx2 hk; rw [hx2, hk]))
  rw [hb, List.append_nil, List.nil_append]
theorem filt_mid {p q a b : List Int} (h : ∀ c, b.filter (fun x => k x == c) = a.filter (fun x => k x == c)) (c : Int) : (p ++ b ++ q).filter (fun x => k x == c) = (p ++ a ++ q).filter (fun x => k x == c) := by
 simp only [List.filter_append, h]
/-- Sorted rows with the same filters are one. -/
theorem St.unique : ∀ {a b : List Int}, Srt k a → Srt k b → (∀ c, a.filter (fun x => k x == c) = b.filter (fun x => k x == c)) → a = b
 | [], b, _, _, h => by
  cases b with
  | nil => rfl
  | cons y b => have := h (k y); simp at this
 | x :: a, [], _, _, h => by have := h (k x); simp at this
 | x :: a, y :: b, ha, hb, h => by
  have ha' := List.pairwise_cons.1 ha
  have hb' := List.pairwise_cons.1 hb
  have mem : ∀ z, z ∈ x :: a ↔ z ∈ y :: b := fun z => filt_mem (fun c => h c) z
  have h1 : k x ≤ k y := by
   rcases List.mem_cons.1 ((mem y).2 (by simp)) with e | e
   ·
    rw [e]; exact Int.le_refl _
   ·
    exact ha'.1 y e
  have h2 : k y ≤ k x := by
   rcases List.mem_cons.1 ((mem x).1 (by simp)) with e | e
   ·
    rw [e]; exact Int.le_refl _
   ·
    exact hb'.1 x e
  have hk : k x = k y := by omega
  have hx := h (k x)
  rw [List.filter_cons_of_pos (by simp), List.filter_cons_of_pos (by simp [hk])] at hx
  injection hx with e1 e2
  subst e1
  rw [St.unique ha'.2 hb'.2 (fun c => by
   have := h c
   simp only [List.filter_cons] at this
   split at this
   ·
    injection this
   ·
    exact this)]
end
/-- The numbers at p and q change places. -/
def swap (D : List Int) (p q : Nat) : List Int := (D.set p (D.getD q 0)).set q (D.getD p 0)
theorem swap_len (D : List Int) (p q : Nat) : (swap D p q).length = D.length := by simp [swap]
theorem getD_mid (P R : List Int) (y : Int) : (P ++ y :: R).getD P.length 0 = y := by
 simp [List.getD_eq_getElem?_getD]
theorem getD_mid' (P R : List Int) (y : Int) (n : Nat) (h : n = P.length) : (P ++ y :: R).getD n 0 = y := by subst h; exact getD_mid P R y
theorem swap_at (P X Q : List Int) (x y : Int) : swap (P ++ x :: (X ++ y :: Q)) P.length (P.length + X.length + 1) = P ++ y :: (X ++ x :: Q) := by
 have e1 : (P ++ x :: (X ++ y :: Q)).getD (P.length + X.length + 1) 0 = y := by
  have := getD_mid' (P ++ x :: X) Q y (P.length + X.length + 1) (by simp; omega)
  simpa using this
 have e2 : (P ++ x :: (X ++ y :: Q)).getD P.length 0 = x := by
  exact getD_mid _ _ _
 unfold swap
 rw [e1, e2, List.set_append_right _ _ (Nat.le_refl _), Nat.sub_self, List.set_cons_zero, List.set_append_right _ _ (by omega), show P.length + X.length + 1 - P.length = X.length + 1 by omega, List.set_cons_succ, List.set_append_right _ _ (Nat.le_refl _), Nat.sub_self, List.set_cons_zero]
/-- i of them, one behind another. -/
def swapN (D : List Int) (p q : Nat) : Nat → List Int
 | 0 => D
 | i + 1 => swap (swapN D p q i) (p + i) (q + i)
theorem swapN_len (D : List Int) (p q : Nat) : ∀ i, (swapN D p q i).length = D.length
 | 0 => rfl
 | i + 1 => by rw [swapN, swap_len, swapN_len D p q i]
theorem swapN_at (P Y Q : List Int) : ∀ (X Z : List Int), X.length = Z.length → swapN (P ++ X ++ Y ++ Z ++ Q) P.length (P.length + X.length + Y.length) X.length = P ++ Z ++ Y ++ X ++ Q := by
 -- from the end: the last of each
 intro X
 have key : ∀ (n : Nat) (X Z Q : List Int) (X2 : List Int), X.length = n → Z.length = n → ∀ Z2 : List Int, swapN (P ++ (X ++ X2) ++ Y ++ (Z ++ Z2) ++ Q) P.length (P.length + (X ++ X2).length + Y.length) n = P ++ (Z ++ X2) ++ Y ++ (X ++ Z2) ++ Q := by
  intro n
  induction n with
  | zero =>
   intro X Z Q X2 hx hz Z2
   obtain rfl := List.eq_nil_of_length_eq_zero hx
   obtain rfl := List.eq_nil_of_length_eq_zero hz
   rfl
  | succ n ih =>
   intro X Z Q X2 hx hz Z2
   obtain ⟨x, X', rfl⟩ : ∃ x X', X = X' ++ [x] := by
    have hne : X ≠ [] := fun e => by rw [e] at hx; simp at hx
    exact ⟨X.getLast hne, X.dropLast, (List.dropLast_concat_getLast hne).symm⟩
   obtain ⟨z, Z', rfl⟩ : ∃ z Z', Z = Z' ++ [z] := by
    have hne : Z ≠ [] := fun e => by rw [e] at hz; simp at hz
    exact ⟨Z.getLast hne, Z.dropLast, (List.dropLast_concat_getLast hne).symm⟩
   simp only [List.length_append, List.length_cons, List.length_nil] at hx hz
   rw [swapN]
   have h := ih X' Z' Q ([x] ++ X2) (by omega) (by omega) ([z] ++ Z2)
   simp only [List.append_assoc, List.length_append, List.length_cons, List.length_nil, List.cons_append, List.nil_append] at h ⊢
   rw [h]
   have hs := swap_at (P ++ Z') (X2 ++ Y ++ X') (Z2 ++ Q) x z
   simp only [List.append_assoc, List.length_append, List.length_cons, List.length_nil, List.cons_append, List.nil_append] at hs
   rw [show P.length + n = P.length + Z'.length by omega, show P.length + (X'.length + (X2.length + 1)) + Y.length + n = P.length + Z'.length + (X2.length + (Y.length + X'.length)) + 1 by omega]
   exact hs
 intro Z hz
 have h := key X.length X Z Q [] rfl hz.symm []
 simpa using h
/-- What a rotation still has to do: i and j numbers are to change places, behind m - i others. -/
def Rot (F : List Int) (m : Nat) (D : List Int) (i j : Nat) : Prop := ∃ P X Y Q, D = P ++ X ++ Y ++ Q ∧ F = P ++ Y ++ X ++ Q ∧ X.length = i ∧ Y.length = j ∧ P.length + i = m
theorem Rot.hi {F D : List Int} {m i j : Nat} (h : Rot F m D i j) (hij : j < i) : Rot F m (swapN D (m - i) m j) (i - j) j := by
 obtain ⟨P, X, Y, Q, rfl, rfl, rfl, rfl, rfl⟩ := h
 refine ⟨P ++ Y, X.drop Y.length, X.take Y.length, Q, ?_, ?_, by simp, by simp; omega, by simp; omega⟩
 ·
  have h := swapN_at P (X.drop Y.length) Q (X.take Y.length) Y (by simp; omega)
  have e1 : (X.take Y.length).length = Y.length := by simp; omega
  have e2 : P.length + (X.take Y.length).length + (X.drop Y.length).length = P.length + X.length := by simp; omega
  rw [e2, e1] at h
  rw [show P.length + X.length - X.length = P.length by omega, ← List.take_append_drop Y.length X]
  simp only [List.append_assoc, List.take_append_drop] at h ⊢
  exact h
 ·
  simp
theorem Rot.lo {F D : List Int} {m i j : Nat} (h : Rot F m D i j) (hij : i < j) : Rot F m (swapN D (m - i) (m + j - i) i) i (j - i) := by
 obtain ⟨P, X, Y, Q, rfl, rfl, rfl, rfl, rfl⟩ := h
 refine ⟨P, Y.drop (Y.length - X.length), Y.take (Y.length - X.length), X ++ Q, ?_, ?_, by simp; omega, by simp, by simp⟩
 ·
  have h := swapN_at P (Y.take (Y.length - X.length)) Q X (Y.drop (Y.length - X.length)) (by simp; omega)
  have e2 : P.length + X.length + (Y.take (Y.length - X.length)).length = P.length + X.length + Y.length - X.length := by simp; omega
  rw [e2] at h
  rw [show P.length + X.length - X.length = P.length by omega]
  simp only [List.append_assoc] at h ⊢
  rw [← List.append_assoc (Y.take _), List.take_append_drop] at h
  exact h
 ·
  have e : P ++ Y.take (Y.length - X.length) ++ Y.drop (Y.length - X.length) ++ (X ++ Q) = P ++ (Y.take (Y.length - X.length) ++ Y.drop (Y.length - X.length)) ++ X ++ Q := by simp only [List.append_assoc]
  first | rw [e, List.take_append_drop] | (simp only [List.append_assoc] at e ⊢; rw [e, ← List.append_assoc (Y.take _), List.take_append_drop])
theorem Rot.eq {F D : List Int} {m i : Nat} (h : Rot F m D i i) : swapN D (m - i) m i = F := by
 obtain ⟨P, X, Y, Q, rfl, rfl, rfl, hy, rfl⟩ := h
 have h := swapN_at P [] Q X Y hy.symm
 rw [show P.length + X.length - X.length = P.length by omega]
 simpa using h
theorem drop_cons (S : List Int) (i : Nat) (h : i < S.length) : S.drop i = S.getD i 0 :: S.drop (i + 1) := by
 rw [List.drop_eq_getElem_cons h]
 simp [List.getD_eq_getElem?_getD, h]
theorem take_snoc (S : List Int) (i : Nat) (h : i < S.length) : S.take (i + 1) = S.take i ++ [S.getD i 0] := by
 rw [List.take_succ_eq_append_getElem h]
 simp [List.getD_eq_getElem?_getD, h]
theorem swap_comm (D : List Int) {p q : Nat} (h : p ≠ q) : swap D p q = swap D q p := by
 unfold swap
 rw [List.set_comm _ _ h]
/-- A number on its way down into a sorted row. -/
def Ins (k : Int → Int) (P M T : List Int) (x : Int) (m : Nat) (E : List Int) : Prop := ∃ M1 M2, E = P ++ M1 ++ x :: M2 ++ T ∧ M = M1 ++ M2 ∧ P.length + M1.length = m ∧ ∀ y ∈ M2, k x < k y
section
variable {k : Int → Int} {P M T : List Int} {x : Int} {m : Nat} {E : List Int}
theorem Ins.start : Ins k P M T x (P.length + M.length) (P ++ M ++ x :: T) := ⟨M, [], by simp, by simp, rfl, by simp⟩
theorem Ins.cur (h : Ins k P M T x m E) : E.getD m 0 = x := by
 obtain ⟨M1, M2, rfl, rfl, rfl, _⟩ := h
 have := getD_mid (P ++ M1) (M2 ++ T) x
 simp
theorem Ins.len (h : Ins k P M T x m E) : E.length = P.length + M.length + T.length + 1 ∧ P.length ≤ m ∧ m ≤ P.length + M.length := by
 obtain ⟨M1, M2, rfl, rfl, rfl, _⟩ := h
 simp
 omega
theorem Ins.prev (h : Ins k P M T x m E) (hm : P.length < m) : ∃ M1 M2 y, E = P ++ M1 ++ y :: x :: M2 ++ T ∧ M = M1 ++ y :: M2 ∧ P.length + M1.length + 1 = m ∧ (∀ z ∈ M2, k x < k z) ∧ E.getD (m - 1) 0 = y := by
 obtain ⟨M1, M2, rfl, rfl, rfl, h4⟩ := h
 obtain ⟨y, M0, rfl⟩ : ∃ y M0, M1 = M0 ++ [y] := by
  have hne : M1 ≠ [] := fun e => by rw [e] at hm; simp at hm
  exact ⟨M1.getLast hne, M1.dropLast, (List.dropLast_concat_getLast hne).symm⟩
 refine ⟨M0, M2, y, by simp, by simp, by simp; omega, h4, ?_⟩
 have := getD_mid' (P ++ M0) (x :: M2 ++ T) y (P.length + (M0 ++ [y]).length - 1) (by simp)
 simp
theorem Ins.step (h : Ins k P M T x m E) (hm : P.length < m) (hk : k x < k (E.getD (m - 1) 0)) : Ins k P M T x (m - 1) (swap E m (m - 1)) := by
 obtain ⟨M1, M2, y, rfl, rfl, rfl, h4, h5⟩ := h.prev hm
 rw [h5] at hk
 refine ⟨M1, y :: M2, ?_, rfl, by omega, fun z hz => ?_⟩
 ·
  rw [swap_comm _ (by omega)]
  have := swap_at (P ++ M1) [] (M2 ++ T) y x
  simpa using this
 ·
  rcases List.mem_cons.1 hz with rfl | hz
  ·
   exact hk
  ·
   exact h4 z hz
theorem Ins.done (h : Ins k P M T x m E) (hs : Srt k M) (hd : m = P.length ∨ ¬ k x < k (E.getD (m - 1) 0)) : ∃ M', E = P ++ M' ++ T ∧ St k (M ++ [x]) M' := by
 obtain ⟨M1, M2, hE, rfl, hm, h4⟩ := id h
 refine ⟨M1 ++ x :: M2, by rw [hE]; simp, ?_, fun c => ?_⟩
 ·
  have hp := List.pairwise_append.1 hs
  refine List.pairwise_append.2 ⟨hp.1, List.pairwise_cons.2 ⟨fun y hy => by have := h4 y hy; omega, hp.2.1⟩, fun a ha b hb => ?_⟩
  have hax : k a ≤ k x := by
   rcases hd with hd | hd
   ·
    have : M1 = [] := List.eq_nil_of_length_eq_zero (by omega)
    subst this; simp at ha
   ·
    by_cases hP : P.length < m
    ·
     obtain ⟨N1, N2, y, e1, e2, e3, e4, e5⟩ := h.prev hP
     rw [e5] at hd
     have hy : M1 = N1 ++ [y] := by
      have e6 : P ++ M1 ++ x :: M2 ++ T = P ++ (N1 ++ [y]) ++ (x :: N2 ++ T) := by rw [← hE, e1]; simp
      have e7 : (M1 ++ (x :: M2 ++ T)) = ((N1 ++ [y]) ++ (x :: N2 ++ T)) := by
       have : P ++ (M1 ++ (x :: M2 ++ T)) = P ++ ((N1 ++ [y]) ++ (x :: N2 ++ T)) := by simpa using e6
       exact List.append_cancel_left this
      exact (List.append_inj e7 (by simp; omega)).1
     subst hy
     rcases List.mem_append.1 ha with ha | ha
     ·
      have h1 := (List.pairwise_append.1 hp.1).2.2 a ha y (by simp)
      omega
     ·
      obtain rfl : a = y := by simpa using ha
      omega
    ·
     have : M1 = [] := List.eq_nil_of_length_eq_zero (by omega)
     subst this; simp at ha
  rcases List.mem_cons.1 hb with rfl | hb
  ·
   exact hax
  ·
   have := h4 b hb; omega
 ·
  simp only [List.filter_append, List.filter_cons, List.filter_nil]
  have hz : k x = c → M2.filter (fun y => k y == c) = [] := fun e => List.filter_eq_nil_iff.2 (fun y hy hc => by have := h4 y hy; rw [beq_iff_eq] at hc; omega)
  by_cases hc : k x = c
  ·
   simp [hc, hz hc]
  ·
   simp [hc]
end
end Go.Proofs.YtfagobhhhljajaaW.PrintSort
-- cut down by a program of this session (wip/tools/trimwords.py) from printed words: what this claim names, and no more
namespace Go.Proofs.YtfagobhhhljajaaW.PrintSort
open Go Go.RowKit Go.Proofs.YtfagobhhhljajaaW.PrintWords
set_option linter.unusedVariables false
set_option linter.unusedSimpArgs false
section
variable {k : Int → Int}
theorem at_seg (P R Q : List Int) (s : Nat) (h : s < R.length) : (P ++ R ++ Q).getD (P.length + s) 0 = R.getD s 0 := by
 rw [List.getD_eq_getElem?_getD, List.getD_eq_getElem?_getD, List.append_assoc, List.getElem?_append_right (by omega), Nat.add_sub_cancel_left, List.getElem?_append_left h]
theorem srt_le {R : List Int} (h : Srt k R) {s t : Nat} (hst : s ≤ t) (ht : t < R.length) : k (R.getD s 0) ≤ k (R.getD t 0) := by
 have e1 : R.getD s 0 = R[s]'(by omega) := by simp [List.getD_eq_getElem?_getD, show s < R.length by omega]
 have e2 : R.getD t 0 = R[t] := by simp [List.getD_eq_getElem?_getD, ht]
 rw [e1, e2]
 rcases Nat.lt_or_eq_of_le hst with h1 | h1
 ·
  exact List.pairwise_iff_getElem.1 h s t (by omega) ht h1
 ·
  subst h1; exact Int.le_refl _
theorem srt_take {R : List Int} (h : Srt k R) (m : Nat) : Srt k (R.take m) := List.Pairwise.sublist (List.take_sublist _ _) h
theorem srt_drop {R : List Int} (h : Srt k R) (m : Nat) : Srt k (R.drop m) := List.Pairwise.sublist (List.drop_sublist _ _) h
theorem mem_take {R : List Int} {m : Nat} {y : Int} (h : y ∈ R.take m) : ∃ s, s < m ∧ s < R.length ∧ y = R.getD s 0 := by
 obtain ⟨s, hs, rfl⟩ := List.getElem_of_mem h
 have h2 : s < m ∧ s < R.length := by rw [List.length_take] at hs; omega
 exact ⟨s, h2.1, h2.2, by simp [List.getD_eq_getElem?_getD, h2.2]⟩
theorem mem_drop {R : List Int} {m : Nat} {y : Int} (h : y ∈ R.drop m) : ∃ s, m ≤ s ∧ s < R.length ∧ y = R.getD s 0 := by
 obtain ⟨s, hs, rfl⟩ := List.getElem_of_mem h
 have h2 : s < R.length - m := by simpa using hs
 exact ⟨m + s, by omega, by omega, by simp [List.getD_eq_getElem?_getD, show m + s < R.length by omega]⟩
/-- One number ahead of a sorted row: it goes behind those that are less. -/
theorem one_left {x : Int} {R : List Int} {m : Nat} (hR : Srt k R) (h1 : ∀ s, s < m → s < R.length → k (R.getD s 0) < k x) (h2 : ∀ s, m ≤ s → s < R.length → ¬ k (R.getD s 0) < k x) : St k ([x] ++ R) (R.take m ++ x :: R.drop m) := by
 have a1 : ∀ y ∈ R.take m, k y < k x := fun y hy => by obtain ⟨s, hs, hl, rfl⟩ := mem_take hy; exact h1 s hs hl
 have a2 : ∀ y ∈ R.drop m, k x ≤ k y := fun y hy => by obtain ⟨s, hs, hl, rfl⟩ := mem_drop hy; have := h2 s hs hl; omega
 refine ⟨List.pairwise_append.2 ⟨srt_take hR m, List.pairwise_cons.2 ⟨a2, srt_drop hR m⟩, fun y hy z hz => ?_⟩, fun c => ?_⟩
 ·
  have := a1 y hy
  rcases List.mem_cons.1 hz with rfl | hz
  ·
   omega
  ·
   have := a2 z hz; omega
 ·
  have := filt_swap (k := k) (a := [x]) (b := R.take m) (fun a ha b hb => by have := a1 b hb; have : a = x := (by simpa using ha); subst this; omega) c
  have e : R.take m ++ x :: R.drop m = (R.take m ++ [x]) ++ R.drop m := by simp
  rw [e, List.filter_append, this, ← List.filter_append, List.append_assoc, List.take_append_drop]
/-- One number behind a sorted row: it goes ahead of those that are greater. -/
theorem one_right {y : Int} {L : List Int} {m : Nat} (hL : Srt k L) (h1 : ∀ s, s < m → s < L.length → ¬ k y < k (L.getD s 0)) (h2 : ∀ s, m ≤ s → s < L.length → k y < k (L.getD s 0)) : St k (L ++ [y]) (L.take m ++ y :: L.drop m) := by
 have a1 : ∀ x ∈ L.take m, k x ≤ k y := fun x hx => by obtain ⟨s, hs, hl, rfl⟩ := mem_take hx; have := h1 s hs hl; omega
 have a2 : ∀ x ∈ L.drop m, k y < k x := fun x hx => by obtain ⟨s, hs, hl, rfl⟩ := mem_drop hx; exact h2 s hs hl
 refine ⟨List.pairwise_append.2 ⟨srt_take hL m, List.pairwise_cons.2 ⟨fun x hx => by have := a2 x hx; omega, srt_drop hL m⟩, fun x hx z hz => ?_⟩, fun c => ?_⟩
 ·
  have := a1 x hx
  rcases List.mem_cons.1 hz with rfl | hz
  ·
   omega
  ·
   have := a2 z hz; omega
 ·
  have := filt_swap (k := k) (a := L.drop m) (b := [y]) (fun a ha b hb => by have := a2 a ha; have : b = y := (by simpa using hb); subst this; omega) c
  have e : L.take m ++ y :: L.drop m = L.take m ++ ([y] ++ L.drop m) := by simp
  rw [e, List.filter_append, this, ← List.filter_append, ← List.append_assoc, List.take_append_drop]
/-- Two sorted rows, cut so that the ahead parts hold nothing greater than the behind parts. -/
theorem St.cross {L R M1 M2 : List Int} {s e : Nat} (hL : Srt k L) (hR : Srt k R)
  (h1 : ∀ x ∈ L.take s, ∀ y ∈ R.drop e, k x ≤ k y) (h2 : ∀ x ∈ L.drop s, ∀ y ∈ R.take e, k y < k x)
  (m1 : St k (L.take s ++ R.take e) M1) (m2 : St k (L.drop s ++ R.drop e) M2) : St k (L ++ R) (M1 ++ M2) := by
 have h := St.append m1 m2 (fun x hx y hy => by
  rcases List.mem_append.1 hx with hx | hx <;> rcases List.mem_append.1 hy with hy | hy
  ·
   obtain ⟨a, ha, hal, rfl⟩ := mem_take hx
   obtain ⟨b, hb, hbl, rfl⟩ := mem_drop hy
   exact srt_le hL (by omega) hbl
  ·
   exact h1 x hx y hy
  ·
   have := h2 y hy x hx; omega
  ·
   obtain ⟨a, ha, hal, rfl⟩ := mem_take hx
   obtain ⟨b, hb, hbl, rfl⟩ := mem_drop hy
   exact srt_le hR (by omega) hbl)
 refine St.trans (fun c => ?_) h
 have e1 : L ++ R = L.take s ++ (L.drop s ++ R.take e) ++ R.drop e := by
  conv => lhs; rw [← List.take_append_drop s L, ← List.take_append_drop e R]
  simp only [List.append_assoc]
 have e2 : L.take s ++ R.take e ++ (L.drop s ++ R.drop e) = L.take s ++ (R.take e ++ L.drop s) ++ R.drop e := by simp only [List.append_assoc]
 rw [e1, e2]
 exact filt_mid (fun c => filt_swap (fun x hx y hy => by have := h2 x hx y hy; omega) c) c
end
/-- A number on its way up through a row. -/
theorem up_step (P R1 Q : List Int) (x : Int) (t : Nat) (h : t < R1.length) : swap (P ++ R1.take t ++ x :: (R1.drop t) ++ Q) (P.length + t) (P.length + t + 1) = P ++ R1.take (t + 1) ++ x :: (R1.drop (t + 1)) ++ Q := by
 rw [drop_cons R1 t h, take_snoc R1 t h]
 have hl : (R1.take t).length = t := by rw [List.length_take]; omega
 have := swap_at (P ++ R1.take t) [] (R1.drop (t + 1) ++ Q) x (R1.getD t 0)
 simp only [List.length_append, hl, List.length_nil, Nat.add_zero, List.nil_append] at this
 simpa [List.append_assoc] using this
/-- A number on its way down through a row. -/
theorem down_step (P L2 Q : List Int) (y : Int) (t : Nat) (h : t < L2.length) : swap (P ++ L2.take (t + 1) ++ y :: (L2.drop (t + 1)) ++ Q) (P.length + t + 1) (P.length + t) = P ++ L2.take t ++ y :: (L2.drop t) ++ Q := by
 rw [drop_cons L2 t h, take_snoc L2 t h, swap_comm _ (by omega)]
 have hl : (L2.take t).length = t := by rw [List.length_take]; omega
 have := swap_at (P ++ L2.take t) [] (L2.drop (t + 1) ++ Q) (L2.getD t 0) y
 simp only [List.length_append, hl, List.length_nil, Nat.add_zero, List.nil_append] at this
 simpa [List.append_assoc] using this
/-- A search by halves: below i it goes on, from j on it does not. -/
def Bis (T : Nat → Prop) (lo hi i j : Nat) : Prop := lo ≤ i ∧ i ≤ j ∧ j ≤ hi ∧ (i = lo ∨ T (i - 1)) ∧ (j = hi ∨ ¬ T j)
theorem Bis.start {T : Nat → Prop} {lo hi : Nat} (h : lo ≤ hi) : Bis T lo hi lo hi := ⟨Nat.le_refl _, h, Nat.le_refl _, .inl rfl, .inl rfl⟩
theorem Bis.up {T : Nat → Prop} {lo hi i j h : Nat} (b : Bis T lo hi i j) (h1 : i ≤ h) (h2 : h < j) (t : T h) : Bis T lo hi (h + 1) j := ⟨by have := b.1; omega, h2, b.2.2.1, .inr t, b.2.2.2.2⟩
theorem Bis.down {T : Nat → Prop} {lo hi i j h : Nat} (b : Bis T lo hi i j) (h1 : i ≤ h) (h2 : h < j) (t : ¬ T h) : Bis T lo hi i h := ⟨b.1, h1, by have := b.2.2.1; omega, b.2.2.2.1, .inr t⟩
section
variable {k : Int → Int}
theorem left_done {T : Nat → Prop} {x : Int} {R : List Int} {m i : Nat} (hR : Srt k R) (hT : ∀ s, s < R.length → (T (m + s) ↔ k (R.getD s 0) < k x)) (b : Bis T m (m + R.length) i i) : St k ([x] ++ R) (R.take (i - m) ++ x :: R.drop (i - m)) := by
 obtain ⟨b1, -, b3, b4, b5⟩ := b
 refine one_left hR (fun s h1 h2 => ?_) (fun s h1 h2 h3 => ?_)
 ·
  rcases b4 with e | e
  ·
   omega
  ·
   rw [show i - 1 = m + (i - 1 - m) by omega] at e
   have := (hT _ (by omega)).1 e
   have := srt_le hR (s := s) (t := i - 1 - m) (by omega) (by omega)
   omega
 ·
  rcases b5 with e | e
  ·
   omega
  ·
   rw [show i = m + (i - m) by omega] at e
   have e2 : ¬ k (R.getD (i - m) 0) < k x := fun h => e ((hT _ (by omega)).2 h)
   have := srt_le hR h1 h2
   omega
theorem right_done {T : Nat → Prop} {y : Int} {L : List Int} {m i : Nat} (hL : Srt k L) (hT : ∀ s, s < L.length → (T (m + s) ↔ ¬ k y < k (L.getD s 0))) (b : Bis T m (m + L.length) i i) : St k (L ++ [y]) (L.take (i - m) ++ y :: L.drop (i - m)) := by
 obtain ⟨b1, -, b3, b4, b5⟩ := b
 refine one_right hL (fun s h1 h2 h3 => ?_) (fun s h1 h2 => ?_)
 ·
  rcases b4 with e | e
  ·
   omega
  ·
   rw [show i - 1 = m + (i - 1 - m) by omega] at e
   have := (hT _ (by omega)).1 e
   have := srt_le hL (s := s) (t := i - 1 - m) (by omega) (by omega)
   omega
 ·
  rcases b5 with e | e
  ·
   omega
  ·
   rw [show i = m + (i - m) by omega] at e
   have e2 : ¬ ¬ k y < k (L.getD (i - m) 0) := fun h => e ((hT _ (by omega)).2 h)
   have := srt_le hL h1 h2
   omega
theorem at_ahead (P L R Q : List Int) (s : Nat) (h : s < L.length) : (P ++ L ++ R ++ Q).getD (P.length + s) 0 = L.getD s 0 := by
 have := at_seg P L (R ++ Q) s h
 rw [← this, List.append_assoc (P ++ L)]
theorem at_behind (P L R Q : List Int) (s : Nat) (h : s < R.length) : (P ++ L ++ R ++ Q).getD (P.length + L.length + s) 0 = R.getD s 0 := by
 have := at_seg (P ++ L) R Q s h
 rw [← this, List.length_append]
/-- Where the merge cuts: the search's end, by the places of both rows. -/
theorem gen_cut {T : Nat → Prop} {P L R Q : List Int} {o ia im ib mid nn lo hi s e : Nat} (hL : Srt k L) (hR : Srt k R) (hP : P.length = o + ia) (hl : ia + L.length = im) (hr : im + R.length = ib) (h1 : 0 < L.length) (h2 : 0 < R.length)
  (hm : mid = (ia + ib) / 2) (hn : nn = mid + im) (hlh : (mid < im ∧ lo = nn - ib ∧ hi = mid) ∨ (¬ mid < im ∧ lo = ia ∧ hi = im))
  (hT : ∀ c, lo ≤ c → c < hi → (T c ↔ ¬ k ((P ++ L ++ R ++ Q).getD (o + (nn - 1 - c)) 0) < k ((P ++ L ++ R ++ Q).getD (o + c) 0))) (b : Bis T lo hi s s) (he : e = nn - s) :
  (ia ≤ s ∧ s ≤ im ∧ s ≤ mid ∧ im ≤ e ∧ mid ≤ e ∧ e ≤ ib ∧ s + (e - im) = mid ∧ mid + (im - s) = e) ∧ (∀ x ∈ L.take (s - ia), ∀ y ∈ R.drop (e - im), k x ≤ k y) ∧ (∀ x ∈ L.drop (s - ia), ∀ y ∈ R.take (e - im), k y < k x) := by
 obtain ⟨b1, -, b3, b4, b5⟩ := b
 have hs : ia ≤ s ∧ s ≤ im ∧ s ≤ mid ∧ im ≤ e ∧ mid ≤ e ∧ e ≤ ib ∧ s + (e - im) = mid ∧ mid + (im - s) = e := by omega
 refine ⟨hs, fun x hx y hy => ?_, fun x hx y hy => ?_⟩
 ·
  obtain ⟨t, ht, htl, rfl⟩ := mem_take hx
  obtain ⟨u, hu, hul, rfl⟩ := mem_drop hy
  rcases b4 with e4 | e4
  ·
   exfalso; omega
  ·
   have e5 := (hT (s - 1) (by omega) (by omega)).1 e4
   have a1 : (P ++ L ++ R ++ Q).getD (o + (s - 1)) 0 = L.getD (s - 1 - ia) 0 := by rw [← at_ahead P L R Q (s - 1 - ia) (by omega)]; congr 1; omega
   have a2 : (P ++ L ++ R ++ Q).getD (o + (nn - 1 - (s - 1))) 0 = R.getD (e - im) 0 := by rw [← at_behind P L R Q (e - im) (by omega)]; congr 1; omega
   rw [a1, a2] at e5
   have := srt_le hL (s := t) (t := s - 1 - ia) (by omega) (by omega)
   have := srt_le hR hu hul
   omega
 ·
  obtain ⟨t, ht, htl, rfl⟩ := mem_drop hx
  obtain ⟨u, hu, hul, rfl⟩ := mem_take hy
  rcases b5 with e4 | e4
  ·
   exfalso; omega
  ·
   have e5 : ¬ ¬ _ := fun h => e4 ((hT s (by omega) (by omega)).2 h)
   have a1 : (P ++ L ++ R ++ Q).getD (o + s) 0 = L.getD (s - ia) 0 := by rw [← at_ahead P L R Q (s - ia) (by omega)]; congr 1; omega
   have a2 : (P ++ L ++ R ++ Q).getD (o + (nn - 1 - s)) 0 = R.getD (e - 1 - im) 0 := by rw [← at_behind P L R Q (e - 1 - im) (by omega)]; congr 1; omega
   rw [a1, a2] at e5
   have := srt_le hL ht htl
   have := srt_le hR (s := u) (t := e - 1 - im) (by omega) (by omega)
   omega
end
/-- The halves that the merge brings side by side. -/
theorem gen_rot (P L R Q : List Int) (s e ia im : Nat) (o : Nat) (hP : P.length = o + ia) (hl : ia + L.length = im) (h1 : ia ≤ s) (h2 : s ≤ im) (h3 : im ≤ e) (h4 : e - im ≤ R.length) : Rot (P ++ (L.take (s - ia) ++ R.take (e - im)) ++ (L.drop (s - ia) ++ R.drop (e - im)) ++ Q) (o + im) (P ++ L ++ R ++ Q) (im - s) (e - im) :=
 ⟨P ++ L.take (s - ia), L.drop (s - ia), R.take (e - im), R.drop (e - im) ++ Q, by
  simp only [List.append_assoc]; rw [← List.append_assoc (L.take _), List.take_append_drop, ← List.append_assoc (R.take _), List.take_append_drop], by simp only [List.append_assoc], by rw [List.length_drop]; omega, by rw [List.length_take]; omega, by rw [List.length_append, List.length_take]; omega⟩
theorem gen_same (P L R Q : List Int) (s e ia im : Nat) (hl : ia + L.length = im) (h3 : im ≤ e) (h : ¬ (s < im ∧ im < e)) : P ++ (L.take (s - ia) ++ R.take (e - im)) ++ (L.drop (s - ia) ++ R.drop (e - im)) ++ Q = P ++ L ++ R ++ Q := by
 by_cases h1 : s < im
 ·
  have h2 : e - im = 0 := by omega
  rw [h2, List.take_zero, List.drop_zero, List.append_nil]
  simp only [List.append_assoc]; rw [← List.append_assoc (L.take _), List.take_append_drop]
 ·
  rw [List.take_of_length_le (by omega), List.drop_of_length_le (by omega)]
  simp only [List.append_assoc, List.nil_append]; rw [← List.append_assoc (R.take _), List.take_append_drop]
theorem w_sub (x y z : Nat) (h : y + z = x) (hx : x ≤ 4611686018427387904) : wrap64 ((x : Int) - (y : Int)) = (z : Int) := by unfold wrap64; omega
theorem w_add (x y z : Nat) (h : x + y = z) (hz : z ≤ 4611686018427387904) : wrap64 ((x : Int) + (y : Int)) = (z : Int) := by unfold wrap64; omega
theorem w_pred (x z : Nat) (h : z + 1 = x) (hx : x ≤ 4611686018427387904) : wrap64 ((x : Int) - 1) = (z : Int) := by unfold wrap64; omega
theorem w_mod (x : Nat) (hx : x ≤ 4611686018427387904) : (x : Int) % 18446744073709551616 = (x : Int) := by omega
theorem w_half (x y : Nat) (h : y = x / 2) : (x : Int) / 2 = (y : Int) := by omega
theorem not_one (x : Nat) (h : 1 < x) : ((x : Int) == 1) = false ∧ ((x : Int) = 1) = False ∧ (x = 1) = False := ⟨by rw [beq_eq_false_iff_ne]; omega, eq_false (by omega), eq_false (by omega)⟩
/-- The places that the general merge reckons with. -/
theorem gen_places (ia im ib l r : Nat) (hL : ia + l = im) (hR : im + r = ib) (hl : 1 < l) (hr : 1 < r) : ∃ s0 mid nn p : Nat, s0 = ia + ib ∧ mid = s0 / 2 ∧ nn = mid + im ∧ p + 1 = nn ∧ mid = (ia + ib) / 2 ∧ ia < mid ∧ mid < ib ∧ nn ≤ ib + ib :=
 ⟨ia + ib, (ia + ib) / 2, (ia + ib) / 2 + im, (ia + ib) / 2 + im - 1, rfl, rfl, rfl, by omega, rfl, by omega, by omega, by omega⟩
theorem gen_lo1 (ia im ib l r mid nn : Nat) (hL : ia + l = im) (hR : im + r = ib) (hl : 1 < l) (hr : 1 < r) (hm : mid = (ia + ib) / 2) (hn : nn = mid + im) (h : mid < im) : ia ≤ nn - ib ∧ nn - ib ≤ mid ∧ mid ≤ im ∧ mid ≤ mid ∧ nn ≤ ib + (nn - ib) ∧ im + mid ≤ nn ∧ ib ≤ nn := by omega
theorem gen_lo2 (ia im ib l r mid nn : Nat) (hL : ia + l = im) (hR : im + r = ib) (hl : 1 < l) (hr : 1 < r) (hm : mid = (ia + ib) / 2) (hn : nn = mid + im) (h : ¬ mid < im) : ia ≤ ia ∧ ia ≤ im ∧ im ≤ im ∧ im ≤ mid ∧ nn ≤ ib + ia ∧ im + im ≤ nn := by omega
theorem gen_lens (L R : List Int) (ia im ib i e mid : Nat) (hl : ia + L.length = im) (hr : im + R.length = ib) (h : ia ≤ i ∧ i ≤ im ∧ i ≤ mid ∧ im ≤ e ∧ mid ≤ e ∧ e ≤ ib ∧ i + (e - im) = mid ∧ mid + (im - i) = e) : ia + (L.take (i - ia)).length = i ∧ i + (R.take (e - im)).length = mid ∧ mid + (L.drop (i - ia)).length = e ∧ e + (R.drop (e - im)).length = ib := by
 simp only [List.length_take, List.length_drop]; omega
theorem srt_nil_left {k : Int → Int} {A B : List Int} (h : A.length = 0) (hB : Srt k B) : Srt k (A ++ B) := by rw [List.eq_nil_of_length_eq_zero h]; exact hB
theorem srt_nil_right {k : Int → Int} {A B : List Int} (h : B.length = 0) (hA : Srt k A) : Srt k (A ++ B) := by rw [List.eq_nil_of_length_eq_zero h, List.append_nil]; exact hA
theorem nat_sub_cast (x y : Nat) : ((x + y : Nat) : Int) - (x : Int) = (y : Int) := by omega
end Go.Proofs.YtfagobhhhljajaaW.PrintSort
-- cut down by a program of this session (wip/tools/trimwords.py) from printed words: what this claim names, and no more
namespace Go.Proofs.YtfagobhhhljajaaW.PrintSort
open Go Go.RowKit Go.Proofs.YtfagobhhhljajaaW.PrintWords
set_option linter.unusedVariables false
set_option linter.unusedSimpArgs false
/-- A row, and the same row with each block of b sorted; the last block may be shorter. -/
inductive Bl (k : Int → Int) (b : Nat) : List Int → List Int → Prop
 | last {T T' : List Int} : T.length ≤ b → St k T T' → Bl k b T T'
 | cons {U U' S X : List Int} : U.length = b → St k U U' → Bl k b S X → Bl k b (U ++ S) (U' ++ X)
/-- Blocks that others may follow. -/
def Pre (k : Int → Int) (b : Nat) (S M : List Int) : Prop := M.length = S.length ∧ ∀ T X, Bl k b T X → Bl k b (S ++ T) (M ++ X)
section
variable {k : Int → Int} {b : Nat}
theorem Pre.nil : Pre k b [] [] := ⟨rfl, fun T X h => h⟩
theorem Pre.snoc {S M U U' : List Int} (h : Pre k b S M) (hU : U.length = b) (hs : St k U U') : Pre k b (S ++ U) (M ++ U') :=
 ⟨by rw [List.length_append, List.length_append, h.1, hs.len], fun T X hT => by rw [List.append_assoc, List.append_assoc]; exact h.2 _ _ (.cons hU hs hT)⟩
theorem Bl.len {S X : List Int} (h : Bl k b S X) : X.length = S.length := by
 induction h with
 | last _ hs => exact hs.len
 | cons hU hs _ ih => rw [List.length_append, List.length_append, hs.len, ih]
theorem Bl.one {S X : List Int} (h : Bl k b S X) (hl : S.length ≤ b) : St k S X := by
 cases h with
 | last _ hs => exact hs
 | cons hU hs h2 =>
  rename_i U U' S2 X2
  rw [List.length_append] at hl
  have e1 : S2 = [] := List.eq_nil_of_length_eq_zero (by omega)
  have e2 : X2 = [] := List.eq_nil_of_length_eq_zero (by have := h2.len; rw [e1] at this; exact this)
  rw [e1, e2, List.append_nil, List.append_nil]; exact hs
theorem Bl.first {S X : List Int} (h : Bl k b S X) (hl : b < S.length) : ∃ U U' S2 X2, S = U ++ S2 ∧ X = U' ++ X2 ∧ U.length = b ∧ St k U U' ∧ Bl k b S2 X2 := by
 cases h with
 | last h1 _ => omega
 | cons hU hs h2 => exact ⟨_, _, _, _, rfl, rfl, hU, hs, h2⟩
theorem Bl.full {S X : List Int} (h : Bl k b S X) (hl : b ≤ S.length) (hb : 0 < b) : ∃ U U' S2 X2, S = U ++ S2 ∧ X = U' ++ X2 ∧ U.length = b ∧ St k U U' ∧ Bl k b S2 X2 := by
 rcases Nat.lt_or_ge b S.length with h1 | h1
 ·
  exact h.first h1
 ·
  exact ⟨S, X, [], [], by simp, by simp, by omega, h.one h1, .last (by simp) (St.refl List.Pairwise.nil)⟩
/-- Two full blocks stand at the front. -/
theorem Bl.two {S X : List Int} (h : Bl k b S X) (hl : b + b ≤ S.length) (hb : 0 < b) : ∃ U U' V V' S2 X2, S = U ++ V ++ S2 ∧ X = U' ++ V' ++ X2 ∧ U.length = b ∧ V.length = b ∧ St k U U' ∧ St k V V' ∧ Bl k b S2 X2 := by
 obtain ⟨U, U', S1, X1, rfl, rfl, hU, hs, h1⟩ := h.first (by omega)
 obtain ⟨V, V', S2, X2, rfl, rfl, hV, hv, h2⟩ := h1.full (by rw [List.length_append] at hl; omega) hb
 exact ⟨U, U', V, V', S2, X2, by simp, by simp, hU, hV, hs, hv, h2⟩
/-- A full block, and what is left, no longer than one. -/
theorem Bl.rest {S X : List Int} (h : Bl k b S X) (h1 : b < S.length) (h2 : S.length ≤ b + b) : ∃ U U' V V', S = U ++ V ∧ X = U' ++ V' ∧ U.length = b ∧ St k U U' ∧ St k V V' := by
 obtain ⟨U, U', S1, X1, rfl, rfl, hU, hs, h3⟩ := h.first h1
 exact ⟨U, U', S1, X1, rfl, rfl, hU, hs, h3.one (by rw [List.length_append] at h2; omega)⟩
theorem St.both {U U' V V' M : List Int} (h1 : St k U U') (h2 : St k V V') (h : St k (U' ++ V') M) : St k (U ++ V) M := St.trans (fun c => by rw [List.filter_append, List.filter_append, h1.2, h2.2]) h
end
end Go.Proofs.YtfagobhhhljajaaW.PrintSort
/- Rows of which each run of positive keys is sorted by itself, plain (no program in sight). No condition. -/
namespace Go.Proofs.YtfagobhhhljajaaW.PrintSort
open Go Go.RowKit Go.Proofs.YtfagobhhhljajaaW.PrintWords
set_option linter.unusedVariables false
set_option linter.unusedSimpArgs false
/-- A number, put into a sorted row behind those alike. -/
def insR (k : Int → Int) (x : Int) : List Int → List Int
 | [] => [x]
 | y :: t => if k x < k y then x :: y :: t else y :: insR k x t
/-- A row, of which each run of positive keys is sorted by itself; ahead of it a run that is sorted. -/
def ordA (k : Int → Int) : List Int → List Int → List Int
 | acc, [] => acc
 | acc, x :: t => if 0 < k x then ordA k (insR k x acc) t else acc ++ x :: ordA k [] t
/-- What stands behind a run. -/
def tlA (k : Int → Int) : List Int → List Int
 | [] => []
 | x :: t => x :: ordA k [] t
section
variable {k : Int → Int}
theorem insR_mem {x y : Int} : ∀ {l : List Int}, y ∈ insR k x l ↔ y = x ∨ y ∈ l
 | [] => by simp [insR]
 | z :: t => by
  unfold insR
  split
  ·
   simp
  ·
   simp only [List.mem_cons, insR_mem (l := t)]
   constructor
   ·
    rintro (h | h | h)
    ·
     exact .inr (.inl h)
    ·
     exact .inl h
    ·
     exact .inr (.inr h)
   ·
    rintro (h | h | h)
    ·
     exact .inr (.inl h)
    ·
     exact .inl h
    ·
     exact .inr (.inr h)
theorem insR_srt {x : Int} : ∀ {l : List Int}, Srt k l → Srt k (insR k x l)
 | [], _ => by simp [insR, Srt]
 | z :: t, h => by
  have h' := List.pairwise_cons.1 h
  unfold insR
  split
  ·
   rename_i hk
   refine List.pairwise_cons.2 ⟨fun y hy => ?_, h⟩
   rcases List.mem_cons.1 hy with rfl | hy
   ·
    omega
   ·
    have := h'.1 y hy; omega
  ·
   rename_i hk
   refine List.pairwise_cons.2 ⟨fun y hy => ?_, insR_srt h'.2⟩
   rcases insR_mem.1 hy with rfl | hy
   ·
    omega
   ·
    exact h'.1 y hy
theorem insR_filt {x : Int} (c : Int) : ∀ {l : List Int}, Srt k l → (insR k x l).filter (fun y => k y == c) = (l ++ [x]).filter (fun y => k y == c)
 | [], _ => by simp [insR]
 | z :: t, h => by
  have h' := List.pairwise_cons.1 h
  unfold insR
  split
  ·
   rename_i hk
   by_cases hx : k x = c
   ·
    have e : (z :: t).filter (fun y => k y == c) = [] := List.filter_eq_nil_iff.2 (fun y hy hc => by
     rw [beq_iff_eq] at hc
     rcases List.mem_cons.1 hy with rfl | hy
     ·
      omega
     ·
      have := h'.1 y hy; omega)
    rw [List.filter_cons_of_pos (by simp [hx]), List.filter_append, e, List.nil_append, List.filter_cons_of_pos (by simp [hx])]
    rfl
   ·
    rw [List.filter_cons_of_neg (by simp [hx]), List.filter_append, List.filter_cons_of_neg (a := x) (by simp [hx])]
    simp
  ·
   rw [List.cons_append, List.filter_cons, List.filter_cons, insR_filt c h'.2]
theorem fold_st : ∀ (run acc : List Int), Srt k acc → St k (acc ++ run) (run.foldl (fun l x => insR k x l) acc)
 | [], acc, h => by rw [List.append_nil]; exact St.refl h
 | x :: run, acc, h => by
  have h1 := fold_st run (insR k x acc) (insR_srt h)
  refine St.trans (fun c => ?_) h1
  rw [List.filter_append, insR_filt c h, ← List.filter_append, List.append_assoc]; rfl
theorem fold_eq {run X : List Int} (h : St k run X) : run.foldl (fun l x => insR k x l) [] = X := by
 have h1 := fold_st (k := k) run [] List.Pairwise.nil
 rw [List.nil_append] at h1
 exact St.unique h1.1 h.1 (fun c => (h1.2 c).trans (h.2 c).symm)
theorem ordA_run : ∀ (run acc rest : List Int), (∀ y ∈ run, 0 < k y) → ordA k acc (run ++ rest) = ordA k (run.foldl (fun l x => insR k x l) acc) rest
 | [], _, _, _ => rfl
 | x :: run, acc, rest, h => by
  rw [List.cons_append, ordA, if_pos (h x (by simp)), ordA_run run _ rest (fun y hy => h y (by simp [hy]))]
  rfl
theorem ordA_len : ∀ (s acc : List Int), (ordA k acc s).length = acc.length + s.length
 | [], acc => by simp [ordA]
 | x :: t, acc => by
  have hi : ∀ l : List Int, (insR k x l).length = l.length + 1 := fun l => by
   induction l with
   | nil => rfl
   | cons y t ih => unfold insR; split <;> simp [ih]
  unfold ordA
  split
  ·
   rw [ordA_len t, hi, List.length_cons]; omega
  ·
   rw [List.length_append, List.length_cons, ordA_len t]; simp
/-- A run that is sorted, and what stands behind it. -/
theorem ordA_step {run X rest : List Int} (h : St k run X) (hp : ∀ y ∈ run, 0 < k y) (hr : ∀ x t, rest = x :: t → ¬ 0 < k x) : ordA k [] (run ++ rest) = X ++ tlA k rest := by
 rw [ordA_run run [] rest hp, fold_eq h]
 cases rest with
 | nil => simp [ordA, tlA]
 | cons x t => rw [ordA, if_neg (hr x t rfl), tlA]
end
/-- How far the row is sorted. -/
def Way (k : Int → Int) (s : List Int) (i : Nat) (D : List Int) : Prop := ∃ M T, D = M ++ T ∧ ordA k [] s = M ++ ordA k [] T ∧ D.length = s.length ∧ (M.length = i ∨ (T = [] ∧ s.length < i)) ∧ i ≤ s.length + 1
section
variable {k : Int → Int}
theorem Way.start {s : List Int} : Way k s 0 s := ⟨[], s, rfl, rfl, rfl, .inl rfl, by omega⟩
theorem Way.done {s D : List Int} {i : Nat} (h : Way k s i D) (hi : s.length ≤ i) : D = ordA k [] s := by
 obtain ⟨M, T, rfl, h2, h3, h4, _⟩ := h
 rw [List.length_append] at h3
 have hT : T = [] := by
  rcases h4 with h4 | h4
  ·
   exact List.eq_nil_of_length_eq_zero (by omega)
  ·
   exact h4.1
 rw [h2, hT]; rfl
/-- The row is cut at i and n: what stands between is the next run. -/
theorem Way.cut {s D : List Int} {i n : Nat} (h : Way k s i D) (h1 : i < s.length) (h2 : i ≤ n) (h3 : n ≤ s.length) (hp : ∀ j, i ≤ j → j < n → 0 < k (D.getD j 0)) (hn : n < s.length → ¬ 0 < k (D.getD n 0)) :
  ∃ M R Q, D = M ++ R ++ Q ∧ M.length = i ∧ R.length = n - i ∧ ∀ X, St k R X → Way k s (n + 1) (M ++ X ++ Q) := by
 obtain ⟨M, T, rfl, e2, e3, e4, e5⟩ := h
 have hM : M.length = i := by
  rcases e4 with h4 | h4
  ·
   exact h4
  ·
   omega
 rw [List.length_append] at e3
 refine ⟨M, T.take (n - i), T.drop (n - i), by rw [List.append_assoc, List.take_append_drop], hM, by rw [List.length_take]; omega, fun X hX => ?_⟩
 have hpr : ∀ y ∈ T.take (n - i), 0 < k y := fun y hy => by
  obtain ⟨j, hj, rfl⟩ := List.getElem_of_mem hy
  rw [List.length_take] at hj
  have := hp (i + j) (by omega) (by omega)
  rw [List.getD_eq_getElem?_getD, List.getElem?_append_right (by omega), show i + j - M.length = j by omega, List.getElem?_eq_getElem (by omega)] at this
  rw [List.getElem_take]
  exact this
 have hrest : ∀ x t, T.drop (n - i) = x :: t → ¬ 0 < k x := fun x t hx => by
  have hlt : n - i < T.length := by
   have := congrArg List.length hx
   rw [List.length_drop, List.length_cons] at this
   omega
  have := hn (by omega)
  rw [List.getD_eq_getElem?_getD, List.getElem?_append_right (by omega), hM, ← List.head?_drop, hx] at this
  exact this
 have e6 := ordA_step hX hpr hrest
 rw [List.take_append_drop] at e6
 have hXl : X.length = n - i := by rw [hX.len, List.length_take]; omega
 cases hd : T.drop (n - i) with
 | nil =>
  have hl := congrArg List.length hd
  rw [List.length_drop, List.length_nil] at hl
  rw [hd] at e6
  exact ⟨M ++ X, [], by simp, by rw [e2, e6]; simp [ordA, tlA], by simp only [List.length_append, List.append_nil]; omega, .inr ⟨rfl, by omega⟩, by omega⟩
 | cons x t =>
  have hl := congrArg List.length hd
  rw [List.length_drop, List.length_cons] at hl
  rw [hd] at e6
  exact ⟨M ++ X ++ [x], t, by simp, by rw [e2, e6]; simp [tlA], by simp only [List.length_append, List.length_cons]; omega, .inl (by simp only [List.length_append, List.length_singleton]; omega), by omega⟩
end
end Go.Proofs.YtfagobhhhljajaaW.PrintSort

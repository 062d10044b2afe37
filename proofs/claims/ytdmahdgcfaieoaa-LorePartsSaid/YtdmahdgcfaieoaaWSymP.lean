-- cut down by a program of this session (wip/tools/trimwords.py) from printed words: what this claim names, and no more
import Derived.Test.YtdmahdgcfaieoaaWSortP
namespace Go.Proofs.YtdmahdgcfaieoaaW.PrintSort
open Go Go.RowKit Go.Proofs.YtdmahdgcfaieoaaW.PrintWords
set_option linter.unusedVariables false
set_option linter.unusedSimpArgs false
section
variable {k : Int → Int}
theorem at_seg (P R Q : List Int) (s : Nat) (h : s < R.length) : (P ++ R ++ Q).getD (P.length + s) 0 = R.getD s 0 := by
  rw [List.getD_eq_getElem?_getD, List.getD_eq_getElem?_getD, List.append_assoc, List.getElem?_append_right (by omega), Nat.add_sub_cancel_left, List.getElem?_append_left h]
theorem srt_le {R : List Int} (h : Srt k R) {s t : Nat} (hst : s ≤ t) (ht : t < R.length) : k (R.getD s 0) ≤ k (R.getD t 0) := by
  have e1 : R.getD s 0 = R[s]'(by omega) := by simp [List.getD_eq_getElem?_getD, show s < R.length by omega]
  have e2 : R.getD t 0 = R[t] := by simp [List.getD_eq_getElem?_getD, ht]
  rw [e1, e2]
  rcases Nat.lt_or_eq_of_le hst with h1 | h1
  · exact List.pairwise_iff_getElem.1 h s t (by omega) ht h1
  · subst h1; exact Int.le_refl _
theorem srt_take {R : List Int} (h : Srt k R) (m : Nat) : Srt k (R.take m) := List.Pairwise.sublist (List.take_sublist _ _) h
theorem srt_drop {R : List Int} (h : Srt k R) (m : Nat) : Srt k (R.drop m) := List.Pairwise.sublist (List.drop_sublist _ _) h
theorem mem_take {R : List Int} {m : Nat} {y : Int} (h : y ∈ R.take m) : ∃ s, s < m ∧ s < R.length ∧ y = R.getD s 0 := by
  obtain ⟨s, hs, rfl⟩ := List.getElem_of_mem h
  have h2 : s < m ∧ s < R.length := by rw [List.length_take] at hs; omega
  exact ⟨s, h2.1, h2.2, by simp [List.getD_eq_getElem?_getD, h2.2]⟩
theorem mem_drop {R : List Int} {m : Nat} {y : Int} (h : y ∈ R.drop m) : ∃ s, m ≤ s ∧ s < R.length ∧ y = R.getD s 0 := by
  obtain ⟨s, hs, rfl⟩ := List.getElem_of_mem h
  have h2 : s < R.length - m := by simpa using hs
  exact ⟨m + s, by omega, by omega, by simp [List.getD_eq_getElem?_getD, show m + s < R.length by omega]⟩
/-- One number ahead of a sorted row: it goes behind those that are less. -/
theorem one_left {x : Int} {R : List Int} {m : Nat} (hR : Srt k R) (h1 : ∀ s, s < m → s < R.length → k (R.getD s 0) < k x) (h2 : ∀ s, m ≤ s → s < R.length → ¬ k (R.getD s 0) < k x) : St k ([x] ++ R) (R.take m ++ x :: R.drop m) := by
  have a1 : ∀ y ∈ R.take m, k y < k x := fun y hy => by obtain ⟨s, hs, hl, rfl⟩ := mem_take hy; exact h1 s hs hl
  have a2 : ∀ y ∈ R.drop m, k x ≤ k y := fun y hy => by obtain ⟨s, hs, hl, rfl⟩ := mem_drop hy; have := h2 s hs hl; omega
  refine ⟨List.pairwise_append.2 ⟨srt_take hR m, List.pairwise_cons.2 ⟨a2, srt_drop hR m⟩, fun y hy z hz => ?_⟩, fun c => ?_⟩
  · have := a1 y hy
    rcases List.mem_cons.1 hz with rfl | hz
    · omega
    · have := a2 z hz; omega
  · have := filt_swap (k := k) (a := [x]) (b := R.take m) (fun a ha b hb => by have := a1 b hb; have : a = x := (by simpa using ha); subst this; omega) c
    have e : R.take m ++ x :: R.drop m = (R.take m ++ [x]) ++ R.drop m := by simp
    rw [e, List.filter_append, this, ← List.filter_append, List.append_assoc, List.take_append_drop]
/-- One number behind a sorted row: it goes ahead of those that are greater. -/
theorem one_right {y : Int} {L : List Int} {m : Nat} (hL : Srt k L) (h1 : ∀ s, s < m → s < L.length → ¬ k y < k (L.getD s 0)) (h2 : ∀ s, m ≤ s → s < L.length → k y < k (L.getD s 0)) : St k (L ++ [y]) (L.take m ++ y :: L.drop m) := by
  have a1 : ∀ x ∈ L.take m, k x ≤ k y := fun x hx => by obtain ⟨s, hs, hl, rfl⟩ := mem_take hx; have := h1 s hs hl; omega
  have a2 : ∀ x ∈ L.drop m, k y < k x := fun x hx => by obtain ⟨s, hs, hl, rfl⟩ := mem_drop hx; exact h2 s hs hl
  refine ⟨List.pairwise_append.2 ⟨srt_take hL m, List.pairwise_cons.2 ⟨fun x hx => by have := a2 x hx; omega, srt_drop hL m⟩, fun x hx z hz => ?_⟩, fun c => ?_⟩
  · have := a1 x hx
    rcases List.mem_cons.1 hz with rfl | hz
    · omega
    · have := a2 z hz; omega
  · have := filt_swap (k := k) (a := L.drop m) (b := [y]) (fun a ha b hb => by have := a2 a ha; have : b = y := (by simpa using hb); subst this; omega) c
    have e : L.take m ++ y :: L.drop m = L.take m ++ ([y] ++ L.drop m) := by simp
    rw [e, List.filter_append, this, ← List.filter_append, ← List.append_assoc, List.take_append_drop]
/-- Two sorted rows, cut so that the ahead parts hold nothing greater than the behind parts. -/
theorem St.cross {L R M1 M2 : List Int} {s e : Nat} (hL : Srt k L) (hR : Srt k R)
    (h1 : ∀ x ∈ L.take s, ∀ y ∈ R.drop e, k x ≤ k y) (h2 : ∀ x ∈ L.drop s, ∀ y ∈ R.take e, k y < k x)
    (m1 : St k (L.take s ++ R.take e) M1) (m2 : St k (L.drop s ++ R.drop e) M2) : St k (L ++ R) (M1 ++ M2) := by
  have h := St.append m1 m2 (fun x hx y hy => by
    rcases List.mem_append.1 hx with hx | hx <;> rcases List.mem_append.1 hy with hy | hy
    · obtain ⟨a, ha, hal, rfl⟩ := mem_take hx
      obtain ⟨b, hb, hbl, rfl⟩ := mem_drop hy
      exact srt_le hL (by omega) hbl
    · exact h1 x hx y hy
    · have := h2 y hy x hx; omega
    · obtain ⟨a, ha, hal, rfl⟩ := mem_take hx
      obtain ⟨b, hb, hbl, rfl⟩ := mem_drop hy
      exact srt_le hR (by omega) hbl)
  refine St.trans (fun c => ?_) h
  have e1 : L ++ R = L.take s ++ (L.drop s ++ R.take e) ++ R.drop e := by
    conv => lhs; rw [← List.take_append_drop s L, ← List.take_append_drop e R]
    simp only [List.append_assoc]
  have e2 : L.take s ++ R.take e ++ (L.drop s ++ R.drop e) = L.take s ++ (R.take e ++ L.drop s) ++ R.drop e := by simp only [List.append_assoc]
  rw [e1, e2]
  exact filt_mid (fun c => filt_swap (fun x hx y hy => by have := h2 x hx y hy; omega) c) c
end
/-- A number on its way up through a row. -/
theorem up_step (P R1 Q : List Int) (x : Int) (t : Nat) (h : t < R1.length) : swap (P ++ R1.take t ++ x :: (R1.drop t) ++ Q) (P.length + t) (P.length + t + 1) = P ++ R1.take (t + 1) ++ x :: (R1.drop (t + 1)) ++ Q := by
  rw [drop_cons R1 t h, take_snoc R1 t h]
  have hl : (R1.take t).length = t := by rw [List.length_take]; omega
  have := swap_at (P ++ R1.take t) [] (R1.drop (t + 1) ++ Q) x (R1.getD t 0)
  simp only [List.length_append, hl, List.length_nil, Nat.add_zero, List.nil_append] at this
  simpa [List.append_assoc] using this
/-- A number on its way down through a row. -/
theorem down_step (P L2 Q : List Int) (y : Int) (t : Nat) (h : t < L2.length) : swap (P ++ L2.take (t + 1) ++ y :: (L2.drop (t + 1)) ++ Q) (P.length + t + 1) (P.length + t) = P ++ L2.take t ++ y :: (L2.drop t) ++ Q := by
  rw [drop_cons L2 t h, take_snoc L2 t h, swap_comm _ (by omega)]
  have hl : (L2.take t).length = t := by rw [List.length_take]; omega
  have := swap_at (P ++ L2.take t) [] (L2.drop (t + 1) ++ Q) (L2.getD t 0) y
  simp only [List.length_append, hl, List.length_nil, Nat.add_zero, List.nil_append] at this
  simpa [List.append_assoc] using this
/-- A search by halves: below i it goes on, from j on it does not. -/
def Bis (T : Nat → Prop) (lo hi i j : Nat) : Prop := lo ≤ i ∧ i ≤ j ∧ j ≤ hi ∧ (i = lo ∨ T (i - 1)) ∧ (j = hi ∨ ¬ T j)
theorem Bis.start {T : Nat → Prop} {lo hi : Nat} (h : lo ≤ hi) : Bis T lo hi lo hi := ⟨Nat.le_refl _, h, Nat.le_refl _, .inl rfl, .inl rfl⟩
theorem Bis.up {T : Nat → Prop} {lo hi i j h : Nat} (b : Bis T lo hi i j) (h1 : i ≤ h) (h2 : h < j) (t : T h) : Bis T lo hi (h + 1) j := ⟨by have := b.1; omega, h2, b.2.2.1, .inr t, b.2.2.2.2⟩
theorem Bis.down {T : Nat → Prop} {lo hi i j h : Nat} (b : Bis T lo hi i j) (h1 : i ≤ h) (h2 : h < j) (t : ¬ T h) : Bis T lo hi i h := ⟨b.1, h1, by have := b.2.2.1; omega, b.2.2.2.1, .inr t⟩
section
variable {k : Int → Int}
theorem left_done {T : Nat → Prop} {x : Int} {R : List Int} {m i : Nat} (hR : Srt k R) (hT : ∀ s, s < R.length → (T (m + s) ↔ k (R.getD s 0) < k x)) (b : Bis T m (m + R.length) i i) : St k ([x] ++ R) (R.take (i - m) ++ x :: R.drop (i - m)) := by
  obtain ⟨b1, -, b3, b4, b5⟩ := b
  refine one_left hR (fun s h1 h2 => ?_) (fun s h1 h2 h3 => ?_)
  · rcases b4 with e | e
    · omega
    · rw [show i - 1 = m + (i - 1 - m) by omega] at e
      have := (hT _ (by omega)).1 e
      have := srt_le hR (s := s) (t := i - 1 - m) (by omega) (by omega)
      omega
  · rcases b5 with e | e
    · omega
    · rw [show i = m + (i - m) by omega] at e
      have e2 : ¬ k (R.getD (i - m) 0) < k x := fun h => e ((hT _ (by omega)).2 h)
      have := srt_le hR h1 h2
      omega
theorem right_done {T : Nat → Prop} {y : Int} {L : List Int} {m i : Nat} (hL : Srt k L) (hT : ∀ s, s < L.length → (T (m + s) ↔ ¬ k y < k (L.getD s 0))) (b : Bis T m (m + L.length) i i) : St k (L ++ [y]) (L.take (i - m) ++ y :: L.drop (i - m)) := by
  obtain ⟨b1, -, b3, b4, b5⟩ := b
  refine one_right hL (fun s h1 h2 h3 => ?_) (fun s h1 h2 => ?_)
  · rcases b4 with e | e
    · omega
    · rw [show i - 1 = m + (i - 1 - m) by omega] at e
      have := (hT _ (by omega)).1 e
      have := srt_le hL (s := s) (t := i - 1 - m) (by omega) (by omega)
      omega
  · rcases b5 with e | e
    · omega
    · rw [show i = m + (i - m) by omega] at e
      have e2 : ¬ ¬ k y < k (L.getD (i - m) 0) := fun h => e ((hT _ (by omega)).2 h)
      have := srt_le hL h1 h2
      omega
theorem at_ahead (P L R Q : List Int) (s : Nat) (h : s < L.length) : (P ++ L ++ R ++ Q).getD (P.length + s) 0 = L.getD s 0 := by
  have := at_seg P L (R ++ Q) s h
  rw [← this, List.append_assoc (P ++ L)]
theorem at_behind (P L R Q : List Int) (s : Nat) (h : s < R.length) : (P ++ L ++ R ++ Q).getD (P.length + L.length + s) 0 = R.getD s 0 := by
  have := at_seg (P ++ L) R Q s h
  rw [← this, List.length_append]
/-- Where the merge cuts: the search's end, by the places of both rows. -/
theorem gen_cut {T : Nat → Prop} {P L R Q : List Int} {o ia im ib mid nn lo hi s e : Nat} (hL : Srt k L) (hR : Srt k R) (hP : P.length = o + ia) (hl : ia + L.length = im) (hr : im + R.length = ib) (h1 : 0 < L.length) (h2 : 0 < R.length)
    (hm : mid = (ia + ib) / 2) (hn : nn = mid + im) (hlh : (mid < im ∧ lo = nn - ib ∧ hi = mid) ∨ (¬ mid < im ∧ lo = ia ∧ hi = im))
    (hT : ∀ c, lo ≤ c → c < hi → (T c ↔ ¬ k ((P ++ L ++ R ++ Q).getD (o + (nn - 1 - c)) 0) < k ((P ++ L ++ R ++ Q).getD (o + c) 0))) (b : Bis T lo hi s s) (he : e = nn - s) :
    (ia ≤ s ∧ s ≤ im ∧ s ≤ mid ∧ im ≤ e ∧ mid ≤ e ∧ e ≤ ib ∧ s + (e - im) = mid ∧ mid + (im - s) = e) ∧ (∀ x ∈ L.take (s - ia), ∀ y ∈ R.drop (e - im), k x ≤ k y) ∧ (∀ x ∈ L.drop (s - ia), ∀ y ∈ R.take (e - im), k y < k x) := by
  obtain ⟨b1, -, b3, b4, b5⟩ := b
  have hs : ia ≤ s ∧ s ≤ im ∧ s ≤ mid ∧ im ≤ e ∧ mid ≤ e ∧ e ≤ ib ∧ s + (e - im) = mid ∧ mid + (im - s) = e := by omega
  refine ⟨hs, fun x hx y hy => ?_, fun x hx y hy => ?_⟩
  · obtain ⟨t, ht, htl, rfl⟩ := mem_take hx
    obtain ⟨u, hu, hul, rfl⟩ := mem_drop hy
    rcases b4 with e4 | e4
    · exfalso; omega
    · have e5 := (hT (s - 1) (by omega) (by omega)).1 e4
      have a1 : (P ++ L ++ R ++ Q).getD (o + (s - 1)) 0 = L.getD (s - 1 - ia) 0 := by rw [← at_ahead P L R Q (s - 1 - ia) (by omega)]; congr 1; omega
      have a2 : (P ++ L ++ R ++ Q).getD (o + (nn - 1 - (s - 1))) 0 = R.getD (e - im) 0 := by rw [← at_behind P L R Q (e - im) (by omega)]; congr 1; omega
      rw [a1, a2] at e5
      have := srt_le hL (s := t) (t := s - 1 - ia) (by omega) (by omega)
      have := srt_le hR hu hul
      omega
  · obtain ⟨t, ht, htl, rfl⟩ := mem_drop hx
    obtain ⟨u, hu, hul, rfl⟩ := mem_take hy
    rcases b5 with e4 | e4
    · exfalso; omega
    · have e5 : ¬ ¬ _ := fun h => e4 ((hT s (by omega) (by omega)).2 h)
      have a1 : (P ++ L ++ R ++ Q).getD (o + s) 0 = L.getD (s - ia) 0 := by rw [← at_ahead P L R Q (s - ia) (by omega)]; congr 1; omega
      have a2 : (P ++ L ++ R ++ Q).getD (o + (nn - 1 - s)) 0 = R.getD (e - 1 - im) 0 := by rw [← at_behind P L R Q (e - 1 - im) (by omega)]; congr 1; omega
      rw [a1, a2] at e5
      have := srt_le hL ht htl
      have := srt_le hR (s := u) (t := e - 1 - im) (by omega) (by omega)
      omega
end
/-- The halves that the merge brings side by side. -/
theorem gen_rot (P L R Q : List Int) (s e ia im : Nat) (o : Nat) (hP : P.length = o + ia) (hl : ia + L.length = im) (h1 : ia ≤ s) (h2 : s ≤ im) (h3 : im ≤ e) (h4 : e - im ≤ R.length) : Rot (P ++ (L.take (s - ia) ++ R.take (e - im)) ++ (L.drop (s - ia) ++ R.drop (e - im)) ++ Q) (o + im) (P ++ L ++ R ++ Q) (im - s) (e - im) :=
  ⟨P ++ L.take (s - ia), L.drop (s - ia), R.take (e - im), R.drop (e - im) ++ Q, by
    simp only [List.append_assoc]; rw [← List.append_assoc (L.take _), List.take_append_drop, ← List.append_assoc (R.take _), List.take_append_drop], by simp only [List.append_assoc], by rw [List.length_drop]; omega, by rw [List.length_take]; omega, by rw [List.length_append, List.length_take]; omega⟩
theorem gen_same (P L R Q : List Int) (s e ia im : Nat) (hl : ia + L.length = im) (h3 : im ≤ e) (h : ¬ (s < im ∧ im < e)) : P ++ (L.take (s - ia) ++ R.take (e - im)) ++ (L.drop (s - ia) ++ R.drop (e - im)) ++ Q = P ++ L ++ R ++ Q := by
  by_cases h1 : s < im
  · have h2 : e - im = 0 := by omega
    rw [h2, List.take_zero, List.drop_zero, List.append_nil]
    simp only [List.append_assoc]; rw [← List.append_assoc (L.take _), List.take_append_drop]
  · rw [List.take_of_length_le (by omega), List.drop_of_length_le (by omega)]
    simp only [List.append_assoc, List.nil_append]; rw [← List.append_assoc (R.take _), List.take_append_drop]
theorem w_sub (x y z : Nat) (h : y + z = x) (hx : x ≤ 4611686018427387904) : wrap64 ((x : Int) - (y : Int)) = (z : Int) := by unfold wrap64; omega
theorem w_add (x y z : Nat) (h : x + y = z) (hz : z ≤ 4611686018427387904) : wrap64 ((x : Int) + (y : Int)) = (z : Int) := by unfold wrap64; omega
theorem w_pred (x z : Nat) (h : z + 1 = x) (hx : x ≤ 4611686018427387904) : wrap64 ((x : Int) - 1) = (z : Int) := by unfold wrap64; omega
theorem w_mod (x : Nat) (hx : x ≤ 4611686018427387904) : (x : Int) % 18446744073709551616 = (x : Int) := by omega
theorem w_half (x y : Nat) (h : y = x / 2) : (x : Int) / 2 = (y : Int) := by omega
theorem not_one (x : Nat) (h : 1 < x) : ((x : Int) == 1) = false ∧ ((x : Int) = 1) = False ∧ (x = 1) = False := ⟨by rw [beq_eq_false_iff_ne]; omega, eq_false (by omega), eq_false (by omega)⟩
/-- The places that the general merge reckons with. -/
theorem gen_places (ia im ib l r : Nat) (hL : ia + l = im) (hR : im + r = ib) (hl : 1 < l) (hr : 1 < r) : ∃ s0 mid nn p : Nat, s0 = ia + ib ∧ mid = s0 / 2 ∧ nn = mid + im ∧ p + 1 = nn ∧ mid = (ia + ib) / 2 ∧ ia < mid ∧ mid < ib ∧ nn ≤ ib + ib :=
  ⟨ia + ib, (ia + ib) / 2, (ia + ib) / 2 + im, (ia + ib) / 2 + im - 1, rfl, rfl, rfl, by omega, rfl, by omega, by omega, by omega⟩
theorem gen_lo1 (ia im ib l r mid nn : Nat) (hL : ia + l = im) (hR : im + r = ib) (hl : 1 < l) (hr : 1 < r) (hm : mid = (ia + ib) / 2) (hn : nn = mid + im) (h : mid < im) : ia ≤ nn - ib ∧ nn - ib ≤ mid ∧ mid ≤ im ∧ mid ≤ mid ∧ nn ≤ ib + (nn - ib) ∧ im + mid ≤ nn ∧ ib ≤ nn := by omega
theorem gen_lo2 (ia im ib l r mid nn : Nat) (hL : ia + l = im) (hR : im + r = ib) (hl : 1 < l) (hr : 1 < r) (hm : mid = (ia + ib) / 2) (hn : nn = mid + im) (h : ¬ mid < im) : ia ≤ ia ∧ ia ≤ im ∧ im ≤ im ∧ im ≤ mid ∧ nn ≤ ib + ia ∧ im + im ≤ nn := by omega
theorem gen_lens (L R : List Int) (ia im ib i e mid : Nat) (hl : ia + L.length = im) (hr : im + R.length = ib) (h : ia ≤ i ∧ i ≤ im ∧ i ≤ mid ∧ im ≤ e ∧ mid ≤ e ∧ e ≤ ib ∧ i + (e - im) = mid ∧ mid + (im - i) = e) : ia + (L.take (i - ia)).length = i ∧ i + (R.take (e - im)).length = mid ∧ mid + (L.drop (i - ia)).length = e ∧ e + (R.drop (e - im)).length = ib := by
  simp only [List.length_take, List.length_drop]; omega
theorem srt_nil_left {k : Int → Int} {A B : List Int} (h : A.length = 0) (hB : Srt k B) : Srt k (A ++ B) := by rw [List.eq_nil_of_length_eq_zero h]; exact hB
theorem srt_nil_right {k : Int → Int} {A B : List Int} (h : B.length = 0) (hA : Srt k A) : Srt k (A ++ B) := by rw [List.eq_nil_of_length_eq_zero h, List.append_nil]; exact hA
theorem nat_sub_cast (x y : Nat) : ((x + y : Nat) : Int) - (x : Int) = (y : Int) := by omega
end Go.Proofs.YtdmahdgcfaieoaaW.PrintSort

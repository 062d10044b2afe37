-- printed by a program of this session (wip/tools), a turned form of the kit's print
import Derived.Test.YtbajekndbamcmaaPAtlasBackx8
import Derived.Test.YtbajekndbamcmaaPAtlasBackx3
import Derived.Test.YtbajekndbamcmaaPAtlasBackx4
import Derived.Test.YtbajekndbamcmaaPAtlasBackx6
import Derived.Test.YtbajekndbamcmaaPAtlasBackx7
import Derived.Test.YtbajekndbamcmaaWReg2
import Derived.Test.YtbajekndbamcmaaWFn
namespace Go.Proofs.Ytbajekndbamcmaa.PAtlasBack
open Go.RowKit Go.Proofs.YtbajekndbamcmaaW.PrintWords Go.Proofs.YtbajekndbamcmaaW.PrintLast Go.Proofs.YtbajekndbamcmaaW.PrintMore
attribute [local go_sem] max2_int min2_int max_two min_two max_three min_three max_four min_four max2_str min2_str str_geq str_leq str_gtr   -- for this text's walks alone
open Go.Proofs.YtbajekndbamcmaaW.PrintOrd Go.Proofs.YtbajekndbamcmaaW.PrintReg
set_option linter.unusedVariables false
set_option linter.unusedSimpArgs false

-- plain facts on rows of spans that have all keys once (pasted into Pure texts)
/-- Is a key in a span? -/
def hasL (f t k : List UInt8) : Bool := !Op.bytesLess k f && (t == [] || Op.bytesLess k t)
/-- Spans that stand one behind the other, from a key on to the end. -/
def Chain {α : Type} (F T : α → List UInt8) : List UInt8 → List α → Prop
  | _, [] => False
  | a, [s] => F s = a ∧ T s = []
  | a, s :: t :: r => F s = a ∧ T s ≠ [] ∧ Op.bytesLess (F s) (T s) = true ∧ Chain F T (T s) (t :: r)
theorem chain_cons {α : Type} {F T : α → List UInt8} {a : List UInt8} {s : α} {r : List α} :
    Chain F T a (s :: r) ↔ F s = a ∧ ((r = [] ∧ T s = []) ∨ (r ≠ [] ∧ T s ≠ [] ∧ Op.bytesLess (F s) (T s) = true ∧ Chain F T (T s) r)) := by
  cases r <;> simp [Chain]
theorem chain_count {α : Type} {F T : α → List UInt8} (k : List UInt8) : ∀ (l : List α) (a : List UInt8), Chain F T a l → (l.filter (fun s => hasL (F s) (T s) k)).length = if Op.bytesLess k a = true then 0 else 1
  | [], _, h => by cases h
  | s :: r, a, h => by
    obtain ⟨hF, h2⟩ := chain_cons.1 h
    clear h
    subst hF
    rcases h2 with ⟨rfl, hT⟩ | ⟨hr, hT, hlt, hc⟩
    · cases e : Op.bytesLess k (F s) <;> simp [hasL, hT, e]
    · have ih := chain_count k r _ hc
      have hT' : (T s == []) = false := by simpa using hT
      cases e : Op.bytesLess k (F s) with
      | true =>
        have e2 : Op.bytesLess k (T s) = true := bl_trans _ _ _ e hlt
        rw [e2, if_pos rfl] at ih
        have hs : hasL (F s) (T s) k = false := by simp [hasL, e]
        rw [List.filter_cons_of_neg (by simp [hs]), ih, if_pos rfl]
      | false =>
        cases e2 : Op.bytesLess k (T s) with
        | true =>
          rw [e2, if_pos rfl] at ih
          have hs : hasL (F s) (T s) k = true := by simp [hasL, e, e2]
          rw [List.filter_cons_of_pos (by simp [hs]), List.length_cons, ih, if_neg (by simp)]
        | false =>
          rw [e2, if_neg (by simp)] at ih
          have hs : hasL (F s) (T s) k = false := by
            unfold hasL; rw [e, e2, hT']; rfl
          rw [List.filter_cons_of_neg (by simp [hs]), ih, if_neg (by simp)]
theorem firstAt_cases {α : Type} (p : α → Bool) (l : List α) (d : α) : (firstAt p l = -1 ∧ ∀ x ∈ l, p x = false) ∨ ∃ i : Nat, i < l.length ∧ firstAt p l = i ∧ p (l.getD i d) = true := by
  unfold firstAt
  cases e : l.findIdx? p with
  | none => exact Or.inl ⟨rfl, fun x hx => by simpa using (List.findIdx?_eq_none_iff.1 e) x hx⟩
  | some i =>
    obtain ⟨hi, hp, _⟩ := List.findIdx?_eq_some_iff_getElem.1 e
    exact Or.inr ⟨i, hi, rfl, by rw [List.getD_eq_getElem?_getD, List.getElem?_eq_getElem hi]; simpa using hp⟩
theorem wrapN (n : Nat) (h : n < 9223372036854775807) : wrap64 ((n : Int) + 1) = ((n + 1 : Nat) : Int) := by unfold wrap64; omega
theorem drop_at {α : Type} {l : List α} {i : Nat} {d : α} (h : i < l.length) : l.drop i = l.getD i d :: l.drop (i + 1) := by
  rw [List.drop_eq_getElem_cons h, List.getD_eq_getElem?_getD, List.getElem?_eq_getElem h]; rfl
theorem take_at {α : Type} {l : List α} {i : Nat} {d : α} (h : i < l.length) : l.take (i + 1) = l.take i ++ [l.getD i d] := by
  rw [List.take_succ_eq_append_getElem h, List.getD_eq_getElem?_getD, List.getElem?_eq_getElem h]; rfl
-- plain facts on the printed functions of atlas (pasted into Pure texts behind Chain)
abbrev F28 (s : S28) : List UInt8 := s.f0.toList
abbrev T28 (s : S28) : List UInt8 := s.f1.toList
abbrev F30 (s : S30) : List UInt8 := s.f0.f0.toList
abbrev T30 (s : S30) : List UInt8 := s.f0.f1.toList
theorem whole_l0 (l : List S28) (hlen : l.length ≤ 100) : ∀ (n i k : Nat) (a : ByteArray), n = l.length - i → i ≤ l.length → n + 1 ≤ k →
    ∃ b, span_Whole.l0 k l a l (l.length : Int) (i : Int) = some b ∧ (b = true ↔ if i < l.length then ((0 < i → a.toList ≠ []) ∧ Chain F28 T28 a.toList (l.drop i)) else (0 < l.length ∧ a.toList = []))
  | n, i, 0, _, _, _, h => by omega
  | n, i, k + 1, a, hn, hi, hk => by
    simp only [span_Whole.l0]
    by_cases hlt : i < l.length
    · rw [if_pos (by omega), if_pos (by omega), if_pos (by omega)]
      have hrd : rd_T28 l (i : Int) = l.getD i z28 := by simp [rd_T28]
      have hd := drop_at (d := z28) hlt
      rw [hrd, if_pos hlt, hd]
      generalize hs : l.getD i z28 = s at *
      have hw := wrapN i (by omega)
      obtain ⟨b, hb, hc⟩ := whole_l0 l hlen (n - 1) (i + 1) k s.f1 (by omega) (by omega) (by omega)
      have hnx : (i + 1 < l.length) ↔ l.drop (i + 1) ≠ [] := by rw [ne_eq, List.drop_eq_nil_iff]; omega
      obtain ⟨e, he⟩ : ∃ e, span_Empty.f s.f0 s.f1 = some e := by unfold span_Empty.f; split <;> exact ⟨_, rfl⟩
      have hem : e = false ↔ (s.f1.toList = [] ∨ Op.bytesLess s.f0.toList s.f1.toList = true) := by
        unfold span_Empty.f at he
        by_cases h : s.f1.toList = []
        · rw [if_pos h] at he; cases he; simp [h]
        · rw [if_neg h] at he; cases he; simp [h]
      rw [he]
      simp only [Option.bind_some]
      rw [chain_cons]
      cases e with
      | true =>
        refine ⟨false, rfl, ?_⟩
        constructor
        · intro h; cases h
        · rintro ⟨_, _, h⟩
          rcases h with ⟨_, h⟩ | ⟨_, _, h, _⟩
          · have := hem.2 (Or.inl h); cases this
          · have := hem.2 (Or.inr h); cases this
      | false =>
        have hem := hem.1 rfl
        simp only [Bool.false_eq_true, if_false]
        have fin : F28 s = a.toList → (0 < i → a.toList ≠ []) → (b = true ↔ (0 < i → a.toList ≠ []) ∧ F28 s = a.toList ∧ ((l.drop (i + 1) = [] ∧ T28 s = []) ∨ (l.drop (i + 1) ≠ [] ∧ T28 s ≠ [] ∧ Op.bytesLess (F28 s) (T28 s) = true ∧ Chain F28 T28 (T28 s) (l.drop (i + 1))))) := by
          intro hF hp
          rw [hc]
          by_cases hx : i + 1 < l.length
          · rw [if_pos hx]
            have hne := hnx.1 hx
            constructor
            · rintro ⟨h1, h2⟩
              have h1 := h1 (by omega)
              exact ⟨hp, hF, Or.inr ⟨hne, h1, (hem.resolve_left h1), h2⟩⟩
            · rintro ⟨_, _, h⟩
              rcases h with ⟨h, _⟩ | ⟨_, h1, _, h2⟩
              · exact absurd h hne
              · exact ⟨fun _ => h1, h2⟩
          · rw [if_neg hx]
            have hne : l.drop (i + 1) = [] := by
              by_cases h : l.drop (i + 1) = []
              · exact h
              · exact absurd (hnx.2 h) hx
            constructor
            · rintro ⟨_, h⟩; exact ⟨hp, hF, Or.inl ⟨hne, h⟩⟩
            · rintro ⟨_, _, h⟩
              rcases h with ⟨_, h⟩ | ⟨h, _⟩
              · exact ⟨by omega, h⟩
              · exact absurd hne h
        by_cases hF : s.f0.toList = a.toList
        · rw [if_pos hF]
          by_cases h0 : 0 < i
          · rw [if_pos (by omega)]
            by_cases ha : a.toList = []
            · rw [if_pos ha]
              exact ⟨false, rfl, ⟨fun h => (by cases h), fun h => absurd ha (h.1 h0)⟩⟩
            · rw [if_neg ha, hw, hb]
              exact ⟨b, rfl, fin hF (fun _ => ha)⟩
          · rw [if_neg (by omega), hw, hb]
            exact ⟨b, rfl, fin hF (fun h => absurd h h0)⟩
        · rw [if_neg hF]
          exact ⟨false, rfl, ⟨fun h => (by cases h), fun h => absurd h.2.1 hF⟩⟩
    · rw [if_neg (by omega), if_neg hlt]
      by_cases hp : 0 < l.length
      · rw [if_pos (by omega)]
        exact ⟨_, rfl, by simp [hp]⟩
      · rw [if_neg (by omega)]
        exact ⟨_, rfl, by simp [hp]⟩
theorem whole_iff (l : List S28) (hlen : l.length ≤ 100) (k : Nat) (hk : l.length + 1 ≤ k) : ∃ b, span_Whole.f k l = some b ∧ (b = true ↔ Chain F28 T28 [] l) := by
  obtain ⟨b, hb, hc⟩ := whole_l0 l hlen l.length 0 k ⟨#[]⟩ (by omega) (by omega) hk
  refine ⟨b, by unfold span_Whole.f; simpa using hb, ?_⟩
  rw [hc]
  have he : (⟨#[]⟩ : ByteArray).toList = [] := by rw [ByteArray.toList_eq]
  by_cases h : 0 < l.length
  · rw [if_pos h, he]; simp
  · have : l = [] := List.eq_nil_of_length_eq_zero (by omega)
    subst this
    simp [Chain]
/-- An atlas that may be. -/
def Valid (e : Int) (L : List S30) : Prop := 1 ≤ L.length ∧ L.length ≤ 12 ∧ 1 ≤ e ∧ Chain F30 T30 [] L ∧ ∀ s ∈ L, 1 ≤ s.f1 ∧ s.f1 ≤ 5 ∧ 1 ≤ s.f2 ∧ s.f2 ≤ e
theorem chain_map {α β : Type} {F T : β → List UInt8} (g : α → β) : ∀ (l : List α) (a : List UInt8), Chain F T a (l.map g) ↔ Chain (fun x => F (g x)) (fun x => T (g x)) a l
  | [], _ => Iff.rfl
  | s :: r, a => by
    rw [List.map_cons, chain_cons, chain_cons, chain_map g r]
    simp
abbrev okS (e : Int) (s : S30) : Prop := 1 ≤ s.f1 ∧ s.f1 ≤ 5 ∧ 1 ≤ s.f2 ∧ s.f2 ≤ e
theorem may_l0 (e : Int) (L : List S30) (hlen : L.length ≤ 12) : ∀ (n i k : Nat), n = L.length - i → i ≤ L.length → n + L.length + 3 ≤ k →
    ∃ b, atlas_May.l0 k 5 ((L.take i).map (fun s => s.f0)) L (L.length : Int) (i : Int) e L = some b ∧ (b = true ↔ Chain F30 T30 [] L ∧ ∀ j, i ≤ j → j < L.length → okS e (L.getD j z30))
  | n, i, 0, _, _, h => by omega
  | n, i, k + 1, hn, hi, hk => by
    simp only [atlas_May.l0]
    by_cases hlt : i < L.length
    · rw [if_pos (by omega), if_pos (by omega), if_pos (by omega)]
      have hrd : rd_T30 L (i : Int) = L.getD i z30 := by simp [rd_T30]
      rw [hrd]
      have no : ¬ okS e (L.getD i z30) → ((false = true) ↔ Chain F30 T30 [] L ∧ ∀ j, i ≤ j → j < L.length → okS e (L.getD j z30)) :=
        fun h => ⟨fun x => (by cases x), fun x => absurd (x.2 i (Nat.le_refl _) hlt) h⟩
      by_cases c1 : (L.getD i z30).f1 < 1
      · rw [if_pos c1]; exact ⟨false, rfl, no (fun h => by have := h.1; omega)⟩
      rw [if_neg c1]
      by_cases c2 : (L.getD i z30).f1 > 5
      · rw [if_pos c2]; exact ⟨false, rfl, no (fun h => by have := h.2.1; omega)⟩
      rw [if_neg c2]
      by_cases c3 : (L.getD i z30).f2 < 1
      · rw [if_pos c3]; exact ⟨false, rfl, no (fun h => by have := h.2.2.1; omega)⟩
      rw [if_neg c3]
      by_cases c4 : (L.getD i z30).f2 > e
      · rw [if_pos c4]; exact ⟨false, rfl, no (fun h => by have := h.2.2.2; omega)⟩
      rw [if_neg c4, if_pos (by simp; omega), wrapN i (by omega)]
      have yes : okS e (L.getD i z30) := ⟨by omega, by omega, by omega, by omega⟩
      obtain ⟨b, hb, hc⟩ := may_l0 e L hlen (n - 1) (i + 1) k (by omega) (by omega) (by omega)
      rw [take_at (d := z30) hlt, List.map_append] at hb
      refine ⟨b, hb, hc.trans ⟨fun h => ⟨h.1, fun j hj hj' => ?_⟩, fun h => ⟨h.1, fun j hj hj' => h.2 j (by omega) hj'⟩⟩⟩
      rcases Nat.lt_or_eq_of_le hj with h' | rfl
      · exact h.2 j h' hj'
      · exact yes
    · rw [if_neg (by omega)]
      have hi' : i = L.length := by omega
      subst hi'
      rw [List.take_length]
      obtain ⟨b, hb, hc⟩ := whole_iff (L.map (fun s => s.f0)) (by simp; omega) k (by simp; omega)
      rw [hb]
      refine ⟨b, rfl, hc.trans ?_⟩
      rw [chain_map]
      exact ⟨fun h => ⟨h, fun j h1 h2 => by omega⟩, fun h => h.1⟩
theorem may_iff (e : Int) (L : List S30) (k : Nat) (hk : 40 ≤ k) : ∃ b, atlas_May.f k e L 5 = some b ∧ (b = true ↔ Valid e L) := by
  obtain ⟨k, rfl⟩ : ∃ m, k = m + 1 := ⟨k - 1, by omega⟩
  unfold atlas_May.f
  rw [if_neg (by omega), if_neg (by omega)]
  have jT : atlas_May.j0 (k + 1) 5 true e L = some false := by simp [atlas_May.j0]
  by_cases h1 : (L.length : Int) < 1
  · rw [if_pos h1, jT]; exact ⟨false, rfl, ⟨fun h => (by cases h), fun h => by have := h.1; omega⟩⟩
  rw [if_neg h1]
  by_cases h2 : (L.length : Int) > 12
  · rw [if_pos h2, jT]; exact ⟨false, rfl, ⟨fun h => (by cases h), fun h => by have := h.2.1; omega⟩⟩
  rw [if_neg h2]
  by_cases h3 : e < 1
  · rw [decide_eq_true h3, jT]; exact ⟨false, rfl, ⟨fun h => (by cases h), fun h => by have := h.2.2.1; omega⟩⟩
  rw [decide_eq_false h3]
  obtain ⟨b, hb, hc⟩ := may_l0 e L (by omega) L.length 0 k (by omega) (by omega) (by omega)
  refine ⟨b, by simpa [atlas_May.j0] using hb, hc.trans ⟨fun h => ⟨by omega, by omega, by omega, h.1, fun s hs => ?_⟩, fun h => ⟨h.2.2.2.1, fun j _ hj => h.2.2.2.2 _ ?_⟩⟩⟩
  · obtain ⟨j, hj, rfl⟩ := List.getElem_of_mem hs
    have := h.2 j (by omega) hj
    rw [List.getD_eq_getElem?_getD, List.getElem?_eq_getElem hj] at this
    exact this
  · rw [List.getD_eq_getElem?_getD, List.getElem?_eq_getElem hj]
    exact List.getElem_mem hj
theorem may_yes (e : Int) (L : List S30) (h : Valid e L) (k : Nat) (hk : 40 ≤ k) : atlas_May.f k e L 5 = some true := by
  obtain ⟨b, hb, hc⟩ := may_iff e L k hk
  rw [hb, hc.2 h]
theorem goes_cases (e : Int) (L : List S30) (k : Nat) (hk : 40 ≤ k) : (atlas_goes.f k e L 5 = some false) ∨ (atlas_goes.f k e L 5 = some true ∧ Valid e L ∧ e < 268435455) := by
  obtain ⟨b, hb, hc⟩ := may_iff e L k hk
  unfold atlas_goes.f
  rw [hb]
  cases b with
  | false => left; rfl
  | true =>
    by_cases h : e < 268435455
    · right; exact ⟨by simp [h], hc.1 rfl, h⟩
    · left; simp [h]
/-- The spans of a row but the last. -/
def Path {α : Type} (F T : α → List UInt8) : List UInt8 → List α → List UInt8 → Prop
  | a, [], b => a = b
  | a, s :: r, b => F s = a ∧ T s ≠ [] ∧ Op.bytesLess (F s) (T s) = true ∧ Path F T (T s) r b
theorem chain_append {α : Type} {F T : α → List UInt8} {M : List α} (hM : M ≠ []) : ∀ (A : List α) (a : List UInt8), Chain F T a (A ++ M) ↔ ∃ b, Path F T a A b ∧ Chain F T b M
  | [], a => ⟨fun h => ⟨a, rfl, h⟩, fun ⟨b, h, h'⟩ => by cases h; exact h'⟩
  | s :: r, a => by
    rw [List.cons_append, chain_cons, chain_append hM r]
    have hne : r ++ M ≠ [] := by simp [hM]
    constructor
    · rintro ⟨hF, ⟨h, _⟩ | ⟨_, h1, h2, b, h3, h4⟩⟩
      · exact absurd h hne
      · exact ⟨b, ⟨hF, h1, h2, h3⟩, h4⟩
    · rintro ⟨b, ⟨hF, h1, h2, h3⟩, h4⟩
      exact ⟨hF, Or.inr ⟨hne, h1, h2, b, h3, h4⟩⟩
theorem parts_at {L : List S30} {i : Nat} (h : i < L.length) : L = L.take i ++ L.getD i z30 :: L.drop (i + 1) := by
  rw [← drop_at (d := z30) h, List.take_append_drop]
abbrev setE (e : Int) (s : S30) : S30 := ⟨⟨s.f0.f0, s.f0.f1⟩, s.f1, e⟩
abbrev rng (i j : Nat) : List Int := (List.range' i (j - i)).map (fun n : Nat => (n : Int))
theorem rng_succ {i m : Nat} (h : i ≤ m) : rng i (m + 1) = rng i m ++ [(m : Int)] := by
  have : m + 1 - i = (m - i) + 1 := by omega
  simp only [rng, this, List.range'_concat, List.map_append]
  simp
  omega
theorem changed_l1 (i j : Nat) (e1 : Int) (X : List S30) (hj : j ≤ 100) : ∀ (n m k : Nat), n = j - m → i ≤ m → m ≤ j → n + 1 ≤ k → atlas_changed.l1 k (j : Int) (rng i m) (m : Int) e1 X = some (e1, X, rng i j, 0)
  | n, m, 0, _, _, _, h => by omega
  | n, m, k + 1, hn, hi, hm, hk => by
    simp only [atlas_changed.l1]
    by_cases h : m < j
    · have := changed_l1 i j e1 X hj (n - 1) (m + 1) k (by omega) (by omega) (by omega) (by omega)
      rw [rng_succ hi] at this
      rw [if_pos (by omega), if_pos (by simp; omega), wrapN m (by omega)]
      exact this
    · have : m = j := by omega
      subst this
      rw [if_neg (by omega)]
theorem changed_l0 (e e1 : Int) (L new T : List S30) (i j : Nat) (hij : i ≤ j) (hj : j ≤ L.length) (hL : L.length ≤ 12) (hT : T.length ≤ 12) (hnew : new.length ≤ 12) :
    ∀ (n m k : Nat), n = new.length - m → m ≤ new.length → n + 20 ≤ k →
      atlas_changed.l0 k (i : Int) (j : Int) new (new.length : Int) (m : Int) e L e1 (T ++ (new.take m).map (setE e1)) = some (e1, (T ++ new.map (setE e1)) ++ L.drop j, rng i j, 0)
  | n, m, 0, _, _, h => by omega
  | n, m, k + 1, hn, hm, hk => by
    simp only [atlas_changed.l0]
    by_cases h : m < new.length
    · have hrd : rd_T30 new (m : Int) = new.getD m z30 := by simp [rd_T30]
      have := changed_l0 e e1 L new T i j hij hj hL hT hnew (n - 1) (m + 1) k (by omega) (by omega) (by omega)
      rw [take_at (d := z30) h, List.map_append, ← List.append_assoc] at this
      rw [if_pos (by omega), if_pos (by omega), if_pos (by omega), if_pos (by simp; omega), wrapN m (by omega), hrd]
      exact this
    · have : m = new.length := by omega
      subst this
      rw [if_neg (by omega), if_pos (by omega), if_pos (by omega), List.take_length]
      simp only [Option.bind_some, Int.toNat_natCast]
      rw [if_pos (by simp; omega)]
      have := changed_l1 i j e1 ((T ++ new.map (setE e1)) ++ L.drop j) (by omega) (j - i) i k (by omega) (by omega) (by omega) (by omega)
      simpa [rng] using this
theorem changed_eq (e : Int) (L new : List S30) (i j : Nat) (hij : i ≤ j) (hj : j ≤ L.length) (hL : L.length ≤ 12) (hnew : new.length ≤ 12) (he : 1 ≤ e) (he' : e < 268435455) (k : Nat) (hk : 40 ≤ k) :
    atlas_changed.f k e L (i : Int) (j : Int) new = some (e + 1, (L.take i ++ new.map (setE (e + 1))) ++ L.drop j, rng i j, 0) := by
  unfold atlas_changed.f
  have hw : wrap64 (e + 1) = e + 1 := by unfold wrap64; omega
  have hc : atlas_Shard_89.f (L.take (i : Int).toNat) = some (L.take i) := by
    unfold atlas_Shard_89.f
    rw [if_pos (by simp; omega)]; simp
  rw [if_pos (by omega), if_pos (by omega), hc, hw]
  simp only [Option.bind_some]
  have := changed_l0 e (e + 1) L new (L.take i) i j hij hj hL (by simp; omega) hnew new.length 0 k (by omega) (by omega) (by omega)
  simpa using this
/-- What a change comes to. -/
def Good (e : Int) (L : List S30) (r : Option (Int × List S30 × List Int × Int)) : Prop :=
  ∃ e' L' g c, r = some (e', L', g, c) ∧ (c ≠ 0 ∨ (c = 0 ∧ e' = e + 1 ∧ (1 ≤ e ∧ e < 268435455) ∧ Valid (e + 1) L' ∧ 1 ≤ g.length ∧ ∀ s ∈ L', s ∈ L ∨ s.f2 = e + 1))
theorem good_err (e : Int) (L : List S30) (c : Int) (h : c ≠ 0) : Good e L (some (0, ([] : List S30), ([] : List Int), c)) := ⟨_, _, _, _, rfl, Or.inl h⟩
theorem good_changed {e : Int} {L A M B X : List S30} (hv : Valid e L) (hL : L = A ++ (M ++ B)) (hX : X ≠ []) (hM : M ≠ []) (hc : ∀ b, Chain F30 T30 b (M ++ B) → Chain F30 T30 b (X ++ B)) (hx : ∀ s ∈ X, 1 ≤ s.f1 ∧ s.f1 ≤ 5) (hl : A.length + X.length + B.length ≤ 12) :
    Valid (e + 1) ((A ++ X.map (setE (e + 1))) ++ B) ∧ ∀ s ∈ (A ++ X.map (setE (e + 1))) ++ B, s ∈ L ∨ s.f2 = e + 1 := by
  have hmap : ∀ (X : List S30) (b : List UInt8), X ≠ [] → Chain F30 T30 b (X ++ B) → Chain F30 T30 b (X.map (setE (e + 1)) ++ B) := by
    intro X
    induction X with
    | nil => intro b h _; exact absurd rfl h
    | cons s r ih =>
      intro b _ h
      rw [List.map_cons, List.cons_append, chain_cons]
      rw [List.cons_append, chain_cons] at h
      obtain ⟨hF, h⟩ := h
      refine ⟨hF, ?_⟩
      rcases h with ⟨h1, h2⟩ | ⟨h1, h2, h3, h4⟩
      · left
        have := List.append_eq_nil_iff.1 h1
        exact ⟨by simp [this.1, this.2], h2⟩
      · right
        refine ⟨?_, h2, h3, ?_⟩
        · intro h5
          have := List.append_eq_nil_iff.1 h5
          exact h1 (by rw [List.map_eq_nil_iff.1 this.1, this.2]; rfl)
        · cases r with
          | nil => exact h4
          | cons s' r' => exact ih _ (by simp) h4
  obtain ⟨h1, h2, h3, h4, h5⟩ := hv
  rw [hL] at h4
  rw [chain_append (by simp [hM])] at h4
  obtain ⟨b, hp, hb⟩ := h4
  have hxl : 1 ≤ X.length := by cases X; exact absurd rfl hX; simp
  refine ⟨⟨by simp; omega, by simp; omega, by omega, ?_, fun s hs => ?_⟩, fun s hs => ?_⟩
  · rw [List.append_assoc, chain_append (by simp [hX])]
    exact ⟨b, hp, hmap X b hX (hc b hb)⟩
  · rw [List.append_assoc, List.mem_append, List.mem_append, List.mem_map] at hs
    rcases hs with hs | ⟨x, hx', rfl⟩ | hs
    · have := h5 s (by rw [hL]; simp [hs]); omega
    · have := hx x hx'; simp only [setE]; omega
    · have := h5 s (by rw [hL]; simp [hs]); omega
  · rw [List.append_assoc, List.mem_append, List.mem_append, List.mem_map] at hs
    rcases hs with hs | ⟨x, hx', rfl⟩ | hs
    · left; rw [hL]; simp [hs]
    · right; rfl
    · left; rw [hL]; simp [hs]
theorem find_valid {e : Int} {L : List S30} (hv : Valid e L) (key : ByteArray) : ∃ i : Nat, i < L.length ∧ atlas_Shard_52.f L key = some (i : Int) ∧ hasB (L.getD i z30).f0.f0 (L.getD i z30).f0.f1 key = true := by
  have hc := chain_count key.toList _ _ hv.2.2.2.1
  rw [bl_nil, if_neg (by simp)] at hc
  unfold atlas_Shard_52.f
  rw [if_pos (by have := hv.2.1; omega)]
  rcases firstAt_cases (fun s : S30 => hasB s.f0.f0 s.f0.f1 key) L z30 with ⟨_, h2⟩ | ⟨i, h1, h2, h3⟩
  · exfalso
    have : L.filter (fun s => hasL (F30 s) (T30 s) key.toList) = [] := by
      rw [List.filter_eq_nil_iff]
      intro s hs
      have := h2 s hs
      simpa [hasB, hasL] using this
    rw [this] at hc
    simp at hc
  · exact ⟨i, h1, by rw [h2], h3⟩
theorem split_good (e : Int) (L : List S30) (key : ByteArray) (k : Nat) (hk : 60 ≤ k) : Good e L (atlas_Split.f k e L key) := by
  unfold atlas_Split.f
  rcases goes_cases e L k (by omega) with h | ⟨h, hv, he⟩
  · rw [h]; exact good_err e L 1 (by decide)
  rw [h]
  obtain ⟨i, hi, hf, hh⟩ := find_valid hv key
  have hrd : rd_T30 L (i : Int) = L.getD i z30 := by simp [rd_T30]
  simp only [Option.bind_some, if_true]
  rw [hf]
  simp only [Option.bind_some]
  rw [if_pos (by omega), if_pos (by omega), hrd]
  by_cases hF : (L.getD i z30).f0.f0.toList = key.toList
  · rw [if_pos hF]; exact good_err e L 1 (by decide)
  rw [if_neg hF]
  by_cases h12 : (L.length : Int) = 12
  · rw [if_pos h12]; exact good_err e L 8 (by decide)
  rw [if_neg h12]
  have hp := parts_at hi
  generalize L.getD i z30 = s at *
  have hl := hv.2.1
  rw [wrapN i (by omega), changed_eq e L _ i (i + 1) (by omega) (by omega) hl (by simp) hv.2.2.1 he k (by omega)]
  have hlt : Op.bytesLess s.f0.f0.toList key.toList = true := by
    have hb : Op.bytesLess key.toList s.f0.f0.toList = false := by
      cases hq : Op.bytesLess key.toList s.f0.f0.toList with
      | false => rfl
      | true => simp [hasB, hq] at hh
    rcases bl_tri s.f0.f0.toList key.toList with h | h | h
    · exact h
    · exact absurd h hF
    · rw [h] at hb; cases hb
  have hkn : key.toList ≠ [] := by intro h; rw [h, bl_nil] at hlt; cases hlt
  have hkt : s.f0.f1.toList = [] ∨ Op.bytesLess key.toList s.f0.f1.toList = true := by
    cases hq : Op.bytesLess key.toList s.f0.f0.toList with
    | true => simp [hasB, hq] at hh
    | false => simpa [hasB, hq] using hh
  obtain ⟨g1, g2⟩ := good_changed (A := L.take i) (M := [s]) (B := L.drop (i + 1)) (X := [⟨⟨s.f0.f0, key⟩, s.f1, 0⟩, ⟨⟨key, s.f0.f1⟩, s.f1, 0⟩]) hv (by simpa using hp) (by simp) (by simp)
    (fun b hb => by
      rw [List.singleton_append, chain_cons] at hb
      simp only [List.cons_append, List.nil_append]
      rw [chain_cons, chain_cons]
      obtain ⟨h1, h2⟩ := hb
      refine ⟨h1, Or.inr ⟨by simp, hkn, hlt, rfl, ?_⟩⟩
      rcases h2 with ⟨h3, h4⟩ | ⟨h3, h4, h5, h6⟩
      · exact Or.inl ⟨h3, h4⟩
      · exact Or.inr ⟨h3, h4, hkt.resolve_left h4, h6⟩)
    (fun x hx => by
      have hs := hv.2.2.2.2 s (by rw [hp]; simp)
      simp only [List.mem_cons, List.not_mem_nil, or_false] at hx
      rcases hx with rfl | rfl <;> exact ⟨hs.1, hs.2.1⟩) (by simp; omega)
  exact ⟨_, _, _, _, rfl, Or.inr ⟨rfl, rfl, ⟨hv.2.2.1, he⟩, g1, by simp, g2⟩⟩
theorem move_good (e : Int) (L : List S30) (m n : Int) (k : Nat) (hk : 60 ≤ k) : Good e L (atlas_Move.f k e L m n 5) := by
  unfold atlas_Move.f
  rcases goes_cases e L k (by omega) with h | ⟨h, hv, he⟩
  · rw [h]; exact good_err e L 1 (by decide)
  rw [h]
  simp only [Option.bind_some, if_true]
  by_cases c1 : m < 0
  · rw [if_pos c1]; exact good_err e L 1 (by decide)
  rw [if_neg c1]
  by_cases c2 : m ≥ (L.length : Int)
  · rw [if_pos c2]; exact good_err e L 1 (by decide)
  rw [if_neg c2]
  by_cases c3 : n < 1
  · rw [if_pos c3]; exact good_err e L 1 (by decide)
  rw [if_neg c3]
  by_cases c4 : n > 5
  · rw [if_pos c4]; exact good_err e L 1 (by decide)
  rw [if_neg c4]
  obtain ⟨i, rfl⟩ : ∃ i : Nat, m = i := ⟨m.toNat, by omega⟩
  have hi : i < L.length := by omega
  rw [if_pos (by omega), if_pos (by omega)]
  have hrd : rd_T30 L (i : Int) = L.getD i z30 := by simp [rd_T30]
  rw [hrd]
  by_cases c5 : (L.getD i z30).f1 = n
  · rw [if_pos c5]; exact good_err e L 1 (by decide)
  rw [if_neg c5]
  have hp := parts_at hi
  generalize L.getD i z30 = s at *
  have hl := hv.2.1
  rw [wrapN i (by omega), changed_eq e L _ i (i + 1) (by omega) (by omega) hl (by simp) hv.2.2.1 he k (by omega)]
  obtain ⟨g1, g2⟩ := good_changed (A := L.take i) (M := [s]) (B := L.drop (i + 1)) (X := [⟨⟨s.f0.f0, s.f0.f1⟩, n, 0⟩]) hv (by simpa using hp) (by simp) (by simp)
    (fun b hb => by
      rw [List.singleton_append, chain_cons] at hb ⊢
      exact hb)
    (fun x hx => by
      simp only [List.mem_cons, List.not_mem_nil, or_false] at hx
      subst hx; exact ⟨by simp; omega, by simp; omega⟩) (by simp; omega)
  exact ⟨_, _, _, _, rfl, Or.inr ⟨rfl, rfl, ⟨hv.2.2.1, he⟩, g1, by simp, g2⟩⟩
theorem merge_good (e : Int) (L : List S30) (m : Int) (k : Nat) (hk : 60 ≤ k) : Good e L (atlas_Merge.f k e L m) := by
  unfold atlas_Merge.f
  rcases goes_cases e L k (by omega) with h | ⟨h, hv, he⟩
  · rw [h]; exact good_err e L 1 (by decide)
  rw [h]
  simp only [Option.bind_some, if_true]
  by_cases c1 : m < 0
  · rw [if_pos c1]; exact good_err e L 1 (by decide)
  rw [if_neg c1]
  have hl := hv.2.1
  have hw1 : wrap64 ((L.length : Int) - 1) = (L.length : Int) - 1 := by unfold wrap64; omega
  rw [hw1]
  by_cases c2 : m ≥ (L.length : Int) - 1
  · rw [if_pos c2]; exact good_err e L 1 (by decide)
  rw [if_neg c2]
  obtain ⟨i, rfl⟩ : ∃ i : Nat, m = i := ⟨m.toNat, by omega⟩
  have hi : i < L.length := by omega
  have hi1 : i + 1 < L.length := by omega
  rw [if_pos (by omega), if_pos (by omega), wrapN i (by omega), if_pos (by omega), if_pos (by omega)]
  have hrd : rd_T30 L (i : Int) = L.getD i z30 := by simp [rd_T30]
  have hrd1 : rd_T30 L ((i + 1 : Nat) : Int) = L.getD (i + 1) z30 := by simp [rd_T30]
  have hw2 : wrap64 ((i : Int) + 2) = ((i + 2 : Nat) : Int) := by unfold wrap64; omega
  rw [hrd, hrd1, hw2]
  have hp := parts_at hi
  have hd := drop_at (d := z30) hi1
  rw [hd] at hp
  generalize L.getD i z30 = s at *
  generalize L.getD (i + 1) z30 = t at *
  rw [changed_eq e L _ i (i + 2) (by omega) (by omega) hl (by simp) hv.2.2.1 he k (by omega)]
  obtain ⟨g1, g2⟩ := good_changed (A := L.take i) (M := [s, t]) (B := L.drop (i + 2)) (X := [⟨⟨s.f0.f0, t.f0.f1⟩, s.f1, 0⟩]) hv (by simpa using hp) (by simp) (by simp)
    (fun b hb => by
      simp only [List.cons_append, List.nil_append] at hb ⊢
      rw [chain_cons, chain_cons] at hb
      rw [chain_cons]
      obtain ⟨h1, h2⟩ := hb
      refine ⟨h1, ?_⟩
      rcases h2 with ⟨h3, _⟩ | ⟨_, h4, h5, h6, h7⟩
      · cases h3
      · rcases h7 with ⟨h8, h9⟩ | ⟨h8, h9, h10, h11⟩
        · exact Or.inl ⟨h8, h9⟩
        · refine Or.inr ⟨h8, h9, ?_, h11⟩
          rw [h6] at h10
          exact bl_trans _ _ _ h5 h10)
    (fun x hx => by
      have hs := hv.2.2.2.2 s (by rw [hp]; simp)
      simp only [List.mem_cons, List.not_mem_nil, or_false] at hx
      subst hx; exact ⟨hs.1, hs.2.1⟩) (by simp; omega)
  exact ⟨_, _, _, _, rfl, Or.inr ⟨rfl, rfl, ⟨hv.2.2.1, he⟩, g1, by simp, g2⟩⟩
theorem rw0 (l : List S28) (hlen : l.length ≤ 100) : ∀ (n i k : Nat), n = l.length - i → i ≤ l.length → n + 1 ≤ k →
    ∃ b, gazetteerref5_Whole.l0 k l (i : Int) = some b ∧ (b = true → 0 < l.length ∧ (i < l.length → Chain F28 T28 (if i = 0 then [] else T28 (l.getD (i - 1) z28)) (l.drop i)))
  | n, i, 0, _, _, h => by omega
  | n, i, k + 1, hn, hi, hk => by
    simp only [gazetteerref5_Whole.l0]
    by_cases hlt : i < l.length
    · rw [if_pos (by omega), if_pos (by omega)]
      have hrd : rd_T28 l (i : Int) = l.getD i z28 := by simp [rd_T28]
      have hd := drop_at (d := z28) hlt
      rw [hrd, hd]
      generalize hs : l.getD i z28 = s at *
      have hw := wrapN i (by omega)
      obtain ⟨b, hb, hc⟩ := rw0 l hlen (n - 1) (i + 1) k (by omega) (by omega) (by omega)
      have hlast : ((i : Int) == wrap64 ((l.length : Int) - 1)) = decide (l.drop (i + 1) = []) := by
        have : wrap64 ((l.length : Int) - 1) = (l.length : Int) - 1 := by unfold wrap64; omega
        rw [this, Bool.eq_iff_iff]; simp [List.drop_eq_nil_iff]; omega
      have step : ∀ (a : List UInt8), a = (if i = 0 then [] else T28 (l.getD (i - 1) z28)) → (gazetteerref5_Empty.f s.f0 s.f1 = some false) → F28 s = a →
          ∃ b', (if (((i : Int) == wrap64 ((l.length : Int) - 1)) != (s.f1.toList == [])) = true then some false else gazetteerref5_Whole.l0 k l (wrap64 ((i : Int) + 1))) = some b' ∧ (b' = true → 0 < l.length ∧ (i < l.length → Chain F28 T28 a (s :: l.drop (i + 1)))) := by
        intro a ha he hF
        rw [hlast, hw, hb]
        by_cases c : (decide (l.drop (i + 1) = []) != (s.f1.toList == [])) = true
        · rw [if_pos c]; exact ⟨false, rfl, by simp⟩
        · rw [if_neg c]
          refine ⟨b, rfl, fun hb' => ⟨by omega, fun _ => ?_⟩⟩
          have hne := (hc hb').2
          replace c : decide (l.drop (i + 1) = []) = (s.f1.toList == []) := by simpa using c
          rw [chain_cons]
          refine ⟨hF, ?_⟩
          by_cases hr : l.drop (i + 1) = []
          · left; refine ⟨hr, ?_⟩
            rw [decide_eq_true hr] at c; simpa using c.symm
          · right
            rw [decide_eq_false hr] at c
            have hT : s.f1.toList ≠ [] := by simpa using c.symm
            refine ⟨hr, hT, ?_, ?_⟩
            · unfold gazetteerref5_Empty.f at he
              rw [if_neg hT] at he
              simpa using he
            · have := hne (by rw [List.drop_eq_nil_iff] at hr; omega)
              rw [if_neg (by omega), show i + 1 - 1 = i by omega, hs] at this
              exact this
      obtain ⟨e, he⟩ : ∃ e, gazetteerref5_Empty.f s.f0 s.f1 = some e := by unfold gazetteerref5_Empty.f; split <;> exact ⟨_, rfl⟩
      rw [he]
      simp only [Option.bind_some]
      cases e with
      | true => exact ⟨false, rfl, by simp⟩
      | false =>
        simp only [Bool.false_eq_true, if_false]
        by_cases h0 : i = 0
        · subst h0
          rw [if_pos (by rfl)]
          by_cases hF : s.f0.toList = []
          · rw [if_pos hF]
            exact step [] (by simp) he hF
          · rw [if_neg hF]; exact ⟨false, rfl, by simp⟩
        · rw [if_neg (by omega)]
          have hm : wrap64 ((i : Int) - 1) = ((i - 1 : Nat) : Int) := by unfold wrap64; omega
          rw [hm, if_pos (by omega), if_pos (by omega)]
          have hrd' : rd_T28 l ((i - 1 : Nat) : Int) = l.getD (i - 1) z28 := by simp [rd_T28]
          rw [hrd']
          by_cases hF : s.f0.toList = (l.getD (i - 1) z28).f1.toList
          · rw [if_pos hF]
            rw [if_neg h0]
            exact step _ (by rw [if_neg h0]) he hF
          · rw [if_neg hF]; exact ⟨false, rfl, by simp⟩
    · rw [if_neg (by omega)]
      exact ⟨_, rfl, fun h => ⟨by simpa using h, fun h' => absurd h' hlt⟩⟩
theorem rwh (l : List S28) (hlen : l.length ≤ 100) (k : Nat) (hk : l.length + 1 ≤ k) : ∃ b, gazetteerref5_Whole.f k l = some b ∧ (b = true → Chain F28 T28 [] l) := by
  obtain ⟨b, hb, hc⟩ := rw0 l hlen l.length 0 k (by omega) (by omega) hk
  refine ⟨b, hb, fun h => ?_⟩
  obtain ⟨h1, h2⟩ := hc h
  simpa using h2 h1
abbrev sp (s : S38) : S28 := ⟨s.f0.f0, s.f0.f1⟩
theorem rm0 (e : Int) (l : List S38) (hlen : l.length ≤ 100) : ∀ (n i k : Nat), n = l.length - i → i ≤ l.length → n + l.length + 3 ≤ k → (∀ j < i, 1 ≤ (l.getD j z38).f1 ∧ (l.getD j z38).f1 ≤ 5 ∧ 1 ≤ (l.getD j z38).f2 ∧ (l.getD j z38).f2 ≤ e) →
    ∃ b, gazetteerref5_AtlasMay.l0 k 5 ((l.take i).map sp) (i : Int) e l = some b ∧ (b = true → Chain F28 T28 [] (l.map sp) ∧ ∀ j < l.length, 1 ≤ (l.getD j z38).f1 ∧ (l.getD j z38).f1 ≤ 5 ∧ 1 ≤ (l.getD j z38).f2 ∧ (l.getD j z38).f2 ≤ e)
  | n, i, 0, _, _, h, _ => by omega
  | n, i, k + 1, hn, hi, hk, hj => by
    simp only [gazetteerref5_AtlasMay.l0]
    by_cases hlt : i < l.length
    · rw [if_pos (by omega), if_pos (by omega)]
      have hrd : rd_T38 l (i : Int) = l.getD i z38 := by simp [rd_T38]
      rw [hrd]
      by_cases c1 : (l.getD i z38).f1 < 1
      · rw [if_pos c1]; exact ⟨false, rfl, by simp⟩
      rw [if_neg c1]
      by_cases c2 : (l.getD i z38).f1 > 5
      · rw [if_pos c2]; exact ⟨false, rfl, by simp⟩
      rw [if_neg c2]
      by_cases c3 : (l.getD i z38).f2 < 1
      · rw [if_pos c3]; exact ⟨false, rfl, by simp⟩
      rw [if_neg c3]
      by_cases c4 : (l.getD i z38).f2 > e
      · rw [if_pos c4]; exact ⟨false, rfl, by simp⟩
      rw [if_neg c4, if_pos (by simp; omega), wrapN i (by omega)]
      have := rm0 e l hlen (n - 1) (i + 1) k (by omega) (by omega) (by omega) (fun j hj' => by
        rcases Nat.lt_succ_iff_lt_or_eq.1 hj' with h | rfl
        · exact hj j h
        · omega)
      rw [take_at (d := z38) hlt, List.map_append] at this
      exact this
    · rw [if_neg (by omega)]
      have hi' : i = l.length := by omega
      subst hi'
      rw [List.take_length]
      obtain ⟨b, hb, hc⟩ := rwh (l.map sp) (by simpa using hlen) k (by simp; omega)
      rw [hb]
      exact ⟨b, rfl, fun h => ⟨hc h, hj⟩⟩
theorem refmay (e : Int) (l : List S38) (hlen : l.length ≤ 100) (k : Nat) (hk : 2 * l.length + 4 ≤ k) : ∃ b, gazetteerref5_AtlasMay.f k e l 5 = some b ∧ (b = true → (1 ≤ l.length ∧ l.length ≤ 12 ∧ 1 ≤ e) ∧ Chain F28 T28 [] (l.map sp) ∧ ∀ j < l.length, 1 ≤ (l.getD j z38).f1 ∧ (l.getD j z38).f1 ≤ 5 ∧ 1 ≤ (l.getD j z38).f2 ∧ (l.getD j z38).f2 ≤ e) := by
  obtain ⟨k, rfl⟩ : ∃ m, k = m + 1 := ⟨k - 1, by omega⟩
  have hj : ∀ b : Bool, ∃ b', gazetteerref5_AtlasMay.j0 (k + 1) 5 b e l = some b' ∧ (b' = true → b = false ∧ Chain F28 T28 [] (l.map sp) ∧ ∀ j < l.length, 1 ≤ (l.getD j z38).f1 ∧ (l.getD j z38).f1 ≤ 5 ∧ 1 ≤ (l.getD j z38).f2 ∧ (l.getD j z38).f2 ≤ e) := by
    intro b
    simp only [gazetteerref5_AtlasMay.j0]
    cases b with
    | true => exact ⟨false, rfl, by simp⟩
    | false =>
      have := rm0 e l hlen l.length 0 k (by omega) (by omega) (by omega) (by omega)
      simpa using this
  unfold gazetteerref5_AtlasMay.f
  rw [if_neg (by omega), if_neg (by omega)]
  split
  · obtain ⟨b, h1, h2⟩ := hj true
    exact ⟨b, h1, fun h => by have := (h2 h).1; cases this⟩
  · split
    · obtain ⟨b, h1, h2⟩ := hj true
      exact ⟨b, h1, fun h => by have := (h2 h).1; cases this⟩
    · obtain ⟨b, h1, h2⟩ := hj (decide (e < 1))
      exact ⟨b, h1, fun h => by have h3 := h2 h; have h4 := of_decide_eq_false h3.1; exact ⟨by omega, h3.2⟩⟩
theorem few_l0 (l : List S28) (hlen : l.length ≤ 100) : ∀ (n i k : Nat) (c : Int), n = l.length - i → i ≤ l.length → n + 1 ≤ k → ∃ b, gazetteerlaw5_Few.l0 k l c (i : Int) = some b
  | n, i, 0, _, _, _, h => by omega
  | n, i, k + 1, c, hn, hi, hk => by
    simp only [gazetteerlaw5_Few.l0]
    by_cases hlt : i < l.length
    · rw [if_pos (by omega), if_pos (by omega), wrapN i (by omega)]
      exact few_l0 l hlen (n - 1) (i + 1) k _ (by omega) (by omega) (by omega)
    · rw [if_neg (by omega)]
      split <;> exact ⟨_, rfl⟩
theorem sm0 (e : Int) (l : List S38) : ∀ (n i k : Nat), n = 100 - i → i ≤ 100 → i ≤ l.length → n + 202 ≤ k → ∃ b, gazetteerlaw14_Small.l0 k ((l.take i).map sp) (i : Int) e l = some b ∧ (b = true → l.length ≤ 60)
  | n, i, 0, _, _, _, h => by omega
  | n, i, k + 1, hn, hi, hi', hk => by
    have fin : ∃ b, (if (l.length : Int) ≤ 60 then (gazetteerlaw5_Few.f k ((l.take i).map sp)).bind fun t => some t else some false) = some b ∧ (b = true → l.length ≤ 60) := by
      by_cases c : (l.length : Int) ≤ 60
      · rw [if_pos c]
        obtain ⟨b, hb⟩ := few_l0 ((l.take i).map sp) (by simp; omega) _ 0 k 0 rfl (by omega) (by simp; omega)
        refine ⟨b, ?_, fun _ => by omega⟩
        unfold gazetteerlaw5_Few.f
        rw [show ((0 : Nat) : Int) = 0 from rfl] at hb
        rw [hb]; rfl
      · rw [if_neg c]; exact ⟨false, rfl, by simp⟩
    simp only [gazetteerlaw14_Small.l0]
    by_cases hlt : i < l.length
    · rw [if_pos (by omega)]
      by_cases h100 : i < 100
      · rw [if_pos (by omega), if_pos (by omega), if_pos (by simp; omega), wrapN i (by omega)]
        have hrd : rd_T38 l (i : Int) = l.getD i z38 := by simp [rd_T38]
        rw [hrd]
        have := sm0 e l (n - 1) (i + 1) k (by omega) (by omega) (by omega) (by omega)
        rw [take_at (d := z38) hlt, List.map_append] at this
        exact this
      · rw [if_neg (by omega)]
        exact fin
    · rw [if_neg (by omega)]
      exact fin
theorem small (e : Int) (l : List S38) (k : Nat) (hk : 302 ≤ k) : ∃ b, gazetteerlaw14_Small.f k e l = some b ∧ (b = true → l.length ≤ 60) := by
  have := sm0 e l 100 0 k (by omega) (by omega) (by omega) (by omega)
  simpa [gazetteerlaw14_Small.f] using this
abbrev mk (s : S38) : S30 := ⟨⟨s.f0.f0, s.f0.f1⟩, s.f1, s.f2⟩
theorem md0 (a e : Int) (l : List S38) (hlen : l.length ≤ 100) : ∀ (n i k : Nat), n = l.length - i → i ≤ l.length → n + 1 ≤ k → gazetteerlaw14_Made.l0 k (i : Int) a l e ((l.take i).map mk) = some (e, l.map mk)
  | n, i, 0, _, _, h => by omega
  | n, i, k + 1, hn, hi, hk => by
    simp only [gazetteerlaw14_Made.l0]
    by_cases hlt : i < l.length
    · have hrd : rd_T38 l (i : Int) = l.getD i z38 := by simp [rd_T38]
      rw [if_pos (by omega), if_pos (by omega), if_pos (by simp; omega), wrapN i (by omega), hrd]
      have := md0 a e l hlen (n - 1) (i + 1) k (by omega) (by omega) (by omega)
      rw [take_at (d := z38) hlt, List.map_append] at this
      exact this
    · have hi' : i = l.length := by omega
      subst hi'
      rw [if_neg (by omega), List.take_length]
theorem made (e : Int) (l : List S38) (hlen : l.length ≤ 100) (k : Nat) (hk : l.length + 1 ≤ k) : gazetteerlaw14_Made.f k e l = some (e, l.map mk) := by
  have := md0 e e l hlen l.length 0 k (by omega) (by omega) hk
  simpa [gazetteerlaw14_Made.f] using this
/-- What the law says at the end of its count. -/
theorem split_val (e : Int) (L : List S30) (key : ByteArray) (k : Nat) (hk : 60 ≤ k) (hv : Valid e L) (he : e < 268435455) :
    (∃ c, c ≠ 0 ∧ atlas_Split.f k e L key = some (0, ([] : List S30), ([] : List Int), c)) ∨
    ∃ i, i < L.length ∧ L.length < 12 ∧ atlas_Split.f k e L key = some (e + 1, (L.take i ++ [⟨⟨(L.getD i z30).f0.f0, key⟩, (L.getD i z30).f1, e + 1⟩, ⟨⟨key, (L.getD i z30).f0.f1⟩, (L.getD i z30).f1, e + 1⟩]) ++ L.drop (i + 1), [(i : Int)], 0) := by
  unfold atlas_Split.f
  rcases goes_cases e L k (by omega) with h | ⟨h, _, _⟩
  · rw [h]; exact .inl ⟨1, by decide, rfl⟩
  rw [h]
  obtain ⟨i, hi, hf, hh⟩ := find_valid hv key
  have hrd : rd_T30 L (i : Int) = L.getD i z30 := by simp [rd_T30]
  simp only [Option.bind_some, if_true]
  rw [hf]
  simp only [Option.bind_some]
  rw [if_pos (by omega), if_pos (by omega), hrd]
  by_cases hF : (L.getD i z30).f0.f0.toList = key.toList
  · rw [if_pos hF]; exact .inl ⟨1, by decide, rfl⟩
  rw [if_neg hF]
  by_cases h12 : (L.length : Int) = 12
  · rw [if_pos h12]; exact .inl ⟨8, by decide, rfl⟩
  rw [if_neg h12]
  have hl := hv.2.1
  rw [wrapN i (by omega), changed_eq e L _ i (i + 1) (by omega) (by omega) hl (by simp) hv.2.2.1 he k (by omega)]
  exact .inr ⟨i, hi, by omega, by simp⟩
theorem goes_yes (e : Int) (L : List S30) (k : Nat) (hk : 40 ≤ k) (hv : Valid e L) (he : e < 268435455) : atlas_goes.f k e L 5 = some true := by
  unfold atlas_goes.f
  rw [may_yes e L hv k hk]
  simp [he]
theorem merge_val (e : Int) (L : List S30) (i : Nat) (k : Nat) (hk : 60 ≤ k) (hv : Valid e L) (he : e < 268435455) (hi1 : i + 1 < L.length) :
    atlas_Merge.f k e L (i : Int) = some (e + 1, (L.take i ++ [⟨⟨(L.getD i z30).f0.f0, (L.getD (i + 1) z30).f0.f1⟩, (L.getD i z30).f1, e + 1⟩]) ++ L.drop (i + 2), [(i : Int), ((i + 1 : Nat) : Int)], 0) := by
  unfold atlas_Merge.f
  rw [goes_yes e L k (by omega) hv he]
  simp only [Option.bind_some, if_true]
  have hl := hv.2.1
  have hw1 : wrap64 ((L.length : Int) - 1) = (L.length : Int) - 1 := by unfold wrap64; omega
  rw [if_neg (by omega), hw1, if_neg (by omega)]
  rw [if_pos (by omega), if_pos (by omega), wrapN i (by omega), if_pos (by omega), if_pos (by omega)]
  have hrd : rd_T30 L (i : Int) = L.getD i z30 := by simp [rd_T30]
  have hrd1 : rd_T30 L ((i + 1 : Nat) : Int) = L.getD (i + 1) z30 := by simp [rd_T30]
  have hw2 : wrap64 ((i : Int) + 2) = ((i + 2 : Nat) : Int) := by unfold wrap64; omega
  rw [hrd, hrd1, hw2]
  rw [changed_eq e L _ i (i + 2) (by omega) (by omega) hl (by simp) hv.2.2.1 he k (by omega)]
  have : rng i (i + 2) = [(i : Int), ((i + 1 : Nat) : Int)] := by
    simp only [rng, show i + 2 - i = 2 by omega]; rfl
  rw [this]
  simp
theorem move_val (e : Int) (L : List S30) (i : Nat) (n : Int) (k : Nat) (hk : 60 ≤ k) (hv : Valid e L) (he : e < 268435455) (hi : i < L.length) (h1 : 1 ≤ n) (h5 : n ≤ 5) (hn : (L.getD i z30).f1 ≠ n) :
    atlas_Move.f k e L (i : Int) n 5 = some (e + 1, (L.take i ++ [⟨⟨(L.getD i z30).f0.f0, (L.getD i z30).f0.f1⟩, n, e + 1⟩]) ++ L.drop (i + 1), [(i : Int)], 0) := by
  unfold atlas_Move.f
  rw [goes_yes e L k (by omega) hv he]
  simp only [Option.bind_some, if_true]
  have hl := hv.2.1
  rw [if_neg (by omega), if_neg (by omega), if_neg (by omega), if_neg (by omega), if_pos (by omega), if_pos (by omega)]
  have hrd : rd_T30 L (i : Int) = L.getD i z30 := by simp [rd_T30]
  rw [hrd, if_neg hn, wrapN i (by omega), changed_eq e L _ i (i + 1) (by omega) (by omega) hl (by simp) hv.2.2.1 he k (by omega)]
  simp
theorem good_valid {e : Int} {L L' : List S30} {r : Option (Int × List S30 × List Int × Int)} {e' : Int} {g : List Int} (hg : Good e L r) (h : r = some (e', L', g, 0)) : Valid (e + 1) L' := by
  obtain ⟨a, b, c, d, h1, h2⟩ := hg
  rw [h] at h1
  obtain ⟨rfl, rfl, rfl, rfl⟩ := by simpa using h1
  rcases h2 with h2 | h2
  · exact absurd rfl h2
  · exact h2.2.2.2.1
theorem same_two (k : Nat) (a b : Int) : gazetteerlaw14_same.f (k + 5) [a, b] [a, b] = some true := by
  have w1 : wrap64 1 = 1 := by unfold wrap64; omega
  have w2 : wrap64 2 = 2 := by unfold wrap64; omega
  simp [gazetteerlaw14_same.f, gazetteerlaw14_same.l0, rd, rdOf, w1, w2]
theorem getD_mid {L M : List S30} {i : Nat} {x : S30} (hi : i < L.length) (h : M = (L.take i ++ [x]) ++ L.drop (i + 1)) : M.length = L.length ∧ M.getD i z30 = x ∧ ∀ j, j ≠ i → M.getD j z30 = L.getD j z30 := by
  subst h
  have ht : (L.take i).length = i := by rw [List.length_take]; omega
  refine ⟨by simp; omega, ?_, fun j hj => ?_⟩
  · simp [List.getD_eq_getElem?_getD, List.getElem?_append, ht]
  · simp only [List.getD_eq_getElem?_getD]
    congr 1
    rcases Nat.lt_or_gt_of_ne hj with h | h
    · rw [List.append_assoc, List.getElem?_append_left (by omega), List.getElem?_take_of_lt h]
    · rw [List.getElem?_append_right (by simp; omega), List.getElem?_drop]
      congr 1
      simp; omega
/-- What a split and a merge come to. -/
theorem back_split (e : Int) (L : List S30) (key : ByteArray) (k : Nat) (hk : 60 ≤ k) (hv : Valid e L) (he : e ≤ 134217728) :
    (∃ c, c ≠ 0 ∧ atlas_Split.f k e L key = some (0, ([] : List S30), ([] : List Int), c)) ∨
    ∃ (i : Nat) (L1 L2 : List S30), i < L.length ∧ L1.length ≤ 12 ∧ atlas_Split.f k e L key = some (e + 1, L1, [(i : Int)], 0) ∧ atlas_Merge.f k (e + 1) L1 (i : Int) = some (e + 2, L2, [(i : Int), ((i + 1 : Nat) : Int)], 0) ∧ L2.length = L.length ∧
      (L2.getD i z30).f0 = (L.getD i z30).f0 ∧ (L2.getD i z30).f1 = (L.getD i z30).f1 ∧ (L2.getD i z30).f2 = e + 2 ∧ ∀ j, j ≠ i → L2.getD j z30 = L.getD j z30 := by
  rcases split_val e L key k hk hv (by omega) with h | ⟨i, hi, h12, h⟩
  · exact .inl h
  · refine .inr ?_
    generalize hL1 : (L.take i ++ [⟨⟨(L.getD i z30).f0.f0, key⟩, (L.getD i z30).f1, e + 1⟩, ⟨⟨key, (L.getD i z30).f0.f1⟩, (L.getD i z30).f1, e + 1⟩]) ++ L.drop (i + 1) = L1 at h
    have hv1 : Valid (e + 1) L1 := good_valid (split_good e L key k hk) h
    have ht : (L.take i).length = i := by rw [List.length_take]; omega
    have hl1 : L1.length = L.length + 1 := by rw [← hL1]; simp; omega
    have hm := merge_val (e + 1) L1 i k hk hv1 (by omega) (by omega)
    have g0 : L1.getD i z30 = ⟨⟨(L.getD i z30).f0.f0, key⟩, (L.getD i z30).f1, e + 1⟩ := by
      rw [← hL1]; simp [List.getD_eq_getElem?_getD, List.getElem?_append, ht]
    have g1 : L1.getD (i + 1) z30 = ⟨⟨key, (L.getD i z30).f0.f1⟩, (L.getD i z30).f1, e + 1⟩ := by
      rw [← hL1]; simp [List.getD_eq_getElem?_getD, List.getElem?_append, ht]
    have g2 : L1.take i = L.take i := by
      rw [← hL1, List.append_assoc, List.take_append_of_le_length (by omega), List.take_take, Nat.min_self]
    have g3 : L1.drop (i + 2) = L.drop (i + 1) := by
      rw [← hL1, List.drop_append_of_le_length (by simp; omega), List.drop_of_length_le (by simp; omega), List.nil_append]
    rw [g0, g1, g2, g3] at hm
    have he2 : e + 1 + 1 = e + 2 := by omega
    rw [he2] at hm
    obtain ⟨q1, q2, q3⟩ := getD_mid (x := ⟨⟨(L.getD i z30).f0.f0, (L.getD i z30).f0.f1⟩, (L.getD i z30).f1, e + 2⟩) hi rfl
    exact ⟨i, L1, _, hi, hv1.2.1, h, hm, q1, by rw [q2], by rw [q2], by rw [q2], q3⟩
/-- What a move there and back comes to. -/
theorem back_move (e : Int) (L : List S30) (i : Nat) (k : Nat) (hk : 60 ≤ k) (hv : Valid e L) (he : e ≤ 134217728) (hi : i < L.length) :
    ∃ (n : Int) (M1 M2 : List S30) (g1 g2 : List Int), n = 1 + (L.getD i z30).f1 % 5 ∧ (1 ≤ (L.getD i z30).f1 ∧ (L.getD i z30).f1 ≤ 5) ∧ atlas_Move.f k e L (i : Int) n 5 = some (e + 1, M1, g1, 0) ∧ atlas_Move.f k (e + 1) M1 (i : Int) (L.getD i z30).f1 5 = some (e + 2, M2, g2, 0) ∧
      M1.length = L.length ∧ M2.length = L.length ∧ (M1.getD i z30).f1 = n ∧ (M2.getD i z30).f1 = (L.getD i z30).f1 ∧ (M2.getD i z30).f0 = (L.getD i z30).f0 := by
  have hs := hv.2.2.2.2 (L.getD i z30) (by rw [List.getD_eq_getElem?_getD, List.getElem?_eq_getElem hi]; exact List.getElem_mem hi)
  have m1 := move_val e L i (1 + (L.getD i z30).f1 % 5) k hk hv (by omega) hi (by omega) (by omega) (by omega)
  have hv1 := good_valid (move_good e L i (1 + (L.getD i z30).f1 % 5) k hk) m1
  obtain ⟨q1, q2, q3⟩ := getD_mid (x := ⟨⟨(L.getD i z30).f0.f0, (L.getD i z30).f0.f1⟩, 1 + (L.getD i z30).f1 % 5, e + 1⟩) hi rfl
  generalize (L.take i ++ [⟨⟨(L.getD i z30).f0.f0, (L.getD i z30).f0.f1⟩, 1 + (L.getD i z30).f1 % 5, e + 1⟩]) ++ L.drop (i + 1) = M1 at *
  have m2 := move_val (e + 1) M1 i (L.getD i z30).f1 k hk hv1 (by omega) (by rw [q1]; exact hi) hs.1 hs.2.1 (by rw [q2]; show 1 + _ ≠ _; omega)
  obtain ⟨p1, p2, p3⟩ := getD_mid (L := M1) (x := ⟨⟨(M1.getD i z30).f0.f0, (M1.getD i z30).f0.f1⟩, (L.getD i z30).f1, e + 1 + 1⟩) (by rw [q1]; exact hi) rfl
  have he2 : e + 1 + 1 = e + 2 := by omega
  rw [he2] at m2
  rw [he2] at p1 p2
  exact ⟨_, M1, _, _, _, rfl, ⟨hs.1, hs.2.1⟩, m1, m2, q1, p1.trans q1, by rw [q2], by rw [p2], by rw [p2, q2]⟩
/-- The model's atlas, made. -/
theorem valid_made (e : Int) (l : List S38) (hl : 1 ≤ l.length ∧ l.length ≤ 12 ∧ 1 ≤ e) (hc : Chain F28 T28 [] (l.map sp)) (hs : ∀ j < l.length, 1 ≤ (l.getD j z38).f1 ∧ (l.getD j z38).f1 ≤ 5 ∧ 1 ≤ (l.getD j z38).f2 ∧ (l.getD j z38).f2 ≤ e) : Valid e (l.map mk) := by
  refine ⟨by simpa using hl.1, by simpa using hl.2.1, hl.2.2, ?_, fun s h => ?_⟩
  · rw [chain_map] at hc ⊢
    exact hc
  · rw [List.mem_map] at h
    obtain ⟨x, hx, rfl⟩ := h
    obtain ⟨j, hj, rfl⟩ := List.getElem_of_mem hx
    have := hs j hj
    rw [List.getD_eq_getElem?_getD, List.getElem?_eq_getElem hj] at this
    exact this
theorem awake_eq (k : Nat) : gazetteerlaw14_awake.f (k + 20) = some true := by
  simp [gazetteerlaw14_awake.f, atlas_First.f, atlas_Split.f, atlas_goes.f, atlas_May.f, atlas_May.j0, atlas_May.l0, span_Whole.f, span_Whole.l0, span_Empty.f, atlas_Shard_52.f, firstAt, hasB, atlas_changed.f, atlas_changed.l0, atlas_changed.l1, atlas_Shard_89.f, atlas_Owner.f, gazetteerlaw14_same.f, gazetteerlaw14_same.l0, ByteArray.toList_eq, Op.bytesLess, rd_T28, rd_T30, rd, wrap64, List.findIdx?_cons]
theorem eqA28 (d : Nat) (w : World) (x0 y0 : ByteArray) (x1 y1 : ByteArray) :
  (Op.equalIn (d + 2) 28 (.agg #[.string x0, .string x1]) (.agg #[.string y0, .string y1])).run Try.prog w = .ok (x0.toList == y0.toList && (x1.toList == y1.toList)) w := by
 refine eqA_of Try.underlying28 (by kernel_rfl) ?_
 refine eqf_cons (by rfl) (by go_simp; rfl) (by go_simp; rfl) (by go_simp) ?_
 exact eqf_last (by rfl) (by go_simp; rfl) (by go_simp; rfl) (by go_simp)

end Go.Proofs.Ytbajekndbamcmaa.PAtlasBack

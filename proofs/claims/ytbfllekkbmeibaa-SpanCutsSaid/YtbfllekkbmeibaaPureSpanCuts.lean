/- SpanCuts, the plain law over the printed functions: all keys cut at any places, sorted, are whole; each key in just one part. No condition. -/
import Derived.Test.YtbfllekkbmeibaaPSpanCutsy
import Derived.Test.YtbfllekkbmeibaaWOrd
namespace Go.Proofs.Ytbfllekkbmeibaa.Pure
set_option linter.unusedVariables false
set_option linter.unusedSimpArgs false
open Go.RowKit Go.Proofs.Ytbfllekkbmeibaa.PSpanCuts Go.Proofs.YtbfllekkbmeibaaW.PrintWords Go.Proofs.YtbfllekkbmeibaaW.PrintLast Go.Proofs.YtbfllekkbmeibaaW.PrintMore Go.Proofs.YtbfllekkbmeibaaW.PrintOrd

-- plain facts on rows of spans that have all keys once (pasted into Pure texts)
/-- Is a key in a span? -/
def hasL (f t k : List UInt8) : Bool := !Op.bytesLess k f && (t == [] || Op.bytesLess k t)
/-- Spans that stand one behind the other, from a key on to the end. -/
def Chain {α : Type} (F T : α → List UInt8) : List UInt8 → List α → Prop
  | _, [] => False
  | a, [s] => F s = a ∧ T s = []
  | a, s :: t :: r => F s = a ∧ T s ≠ [] ∧ Op.bytesLess (F s) (T s) = true ∧ Chain F T (T s) (t :: r)
theorem chain_cons {α : Type} {F T : α → List UInt8} {a : List UInt8} {s : α} {r : List α} :
    Chain F T a (s :: r) ↔ F s = a ∧ ((r = [] ∧ T s = []) ∨ (r ≠ [] ∧ T s ≠ [] ∧ Op.bytesLess (F s) (T s) = true ∧ Chain F T (T s) r)) := by
  cases r <;> simp [Chain]
theorem chain_count {α : Type} {F T : α → List UInt8} (k : List UInt8) : ∀ (l : List α) (a : List UInt8), Chain F T a l → (l.filter (fun s => hasL (F s) (T s) k)).length = if Op.bytesLess k a = true then 0 else 1
  | [], _, h => by cases h
  | s :: r, a, h => by
    obtain ⟨hF, h2⟩ := chain_cons.1 h
    clear h
    subst hF
    rcases h2 with ⟨rfl, hT⟩ | ⟨hr, hT, hlt, hc⟩
    · cases e : Op.bytesLess k (F s) <;> simp [hasL, hT, e]
    · have ih := chain_count k r _ hc
      have hT' : (T s == []) = false := by simpa using hT
      cases e : Op.bytesLess k (F s) with
      | true =>
        have e2 : Op.bytesLess k (T s) = true := bl_trans _ _ _ e hlt
        rw [e2, if_pos rfl] at ih
        have hs : hasL (F s) (T s) k = false := by simp [hasL, e]
        rw [List.filter_cons_of_neg (by simp [hs]), ih, if_pos rfl]
      | false =>
        cases e2 : Op.bytesLess k (T s) with
        | true =>
          rw [e2, if_pos rfl] at ih
          have hs : hasL (F s) (T s) k = true := by simp [hasL, e, e2]
          rw [List.filter_cons_of_pos (by simp [hs]), List.length_cons, ih, if_neg (by simp)]
        | false =>
          rw [e2, if_neg (by simp)] at ih
          have hs : hasL (F s) (T s) k = false := by
            unfold hasL; rw [e, e2, hT']; rfl
          rw [List.filter_cons_of_neg (by simp [hs]), ih, if_neg (by simp)]
theorem firstAt_cases {α : Type} (p : α → Bool) (l : List α) (d : α) : (firstAt p l = -1 ∧ ∀ x ∈ l, p x = false) ∨ ∃ i : Nat, i < l.length ∧ firstAt p l = i ∧ p (l.getD i d) = true := by
  unfold firstAt
  cases e : l.findIdx? p with
  | none => exact Or.inl ⟨rfl, fun x hx => by simpa using (List.findIdx?_eq_none_iff.1 e) x hx⟩
  | some i =>
    obtain ⟨hi, hp, _⟩ := List.findIdx?_eq_some_iff_getElem.1 e
    exact Or.inr ⟨i, hi, rfl, by rw [List.getD_eq_getElem?_getD, List.getElem?_eq_getElem hi]; simpa using hp⟩
theorem wrapN (n : Nat) (h : n < 9223372036854775807) : wrap64 ((n : Int) + 1) = ((n + 1 : Nat) : Int) := by unfold wrap64; omega
theorem drop_at {α : Type} {l : List α} {i : Nat} {d : α} (h : i < l.length) : l.drop i = l.getD i d :: l.drop (i + 1) := by
  rw [List.drop_eq_getElem_cons h, List.getD_eq_getElem?_getD, List.getElem?_eq_getElem h]; rfl
theorem take_at {α : Type} {l : List α} {i : Nat} {d : α} (h : i < l.length) : l.take (i + 1) = l.take i ++ [l.getD i d] := by
  rw [List.take_succ_eq_append_getElem h, List.getD_eq_getElem?_getD, List.getElem?_eq_getElem h]; rfl
-- span.Whole over rows of S38 (pasted into Pure texts behind Chain)
abbrev F38 (s : S38) : List UInt8 := s.f0.toList
abbrev T38 (s : S38) : List UInt8 := s.f1.toList
theorem whole_l0 (l : List S38) (hlen : l.length ≤ 100) : ∀ (n i k : Nat) (a : ByteArray), n = l.length - i → i ≤ l.length → n + 1 ≤ k →
    ∃ b, span_Whole.l0 k l a l (l.length : Int) (i : Int) = some b ∧ (b = true ↔ if i < l.length then ((0 < i → a.toList ≠ []) ∧ Chain F38 T38 a.toList (l.drop i)) else (0 < l.length ∧ a.toList = []))
  | n, i, 0, _, _, _, h => by omega
  | n, i, k + 1, a, hn, hi, hk => by
    simp only [span_Whole.l0]
    by_cases hlt : i < l.length
    · rw [if_pos (by omega), if_pos (by omega), if_pos (by omega)]
      have hrd : rd_T38 l (i : Int) = l.getD i z38 := by simp [rd_T38]
      have hd := drop_at (d := z38) hlt
      rw [hrd, if_pos hlt, hd]
      generalize hs : l.getD i z38 = s at *
      have hw := wrapN i (by omega)
      obtain ⟨b, hb, hc⟩ := whole_l0 l hlen (n - 1) (i + 1) k s.f1 (by omega) (by omega) (by omega)
      have hnx : (i + 1 < l.length) ↔ l.drop (i + 1) ≠ [] := by rw [ne_eq, List.drop_eq_nil_iff]; omega
      obtain ⟨e, he⟩ : ∃ e, span_Empty.f s.f0 s.f1 = some e := by unfold span_Empty.f; split <;> exact ⟨_, rfl⟩
      have hem : e = false ↔ (s.f1.toList = [] ∨ Op.bytesLess s.f0.toList s.f1.toList = true) := by
        unfold span_Empty.f at he
        by_cases h : s.f1.toList = []
        · rw [if_pos h] at he; cases he; simp [h]
        · rw [if_neg h] at he; cases he; simp [h]
      rw [he]
      simp only [Option.bind_some]
      rw [chain_cons]
      cases e with
      | true =>
        refine ⟨false, rfl, ?_⟩
        constructor
        · intro h; cases h
        · rintro ⟨_, _, h⟩
          rcases h with ⟨_, h⟩ | ⟨_, _, h, _⟩
          · have := hem.2 (Or.inl h); cases this
          · have := hem.2 (Or.inr h); cases this
      | false =>
        have hem := hem.1 rfl
        simp only [Bool.false_eq_true, if_false]
        have fin : F38 s = a.toList → (0 < i → a.toList ≠ []) → (b = true ↔ (0 < i → a.toList ≠ []) ∧ F38 s = a.toList ∧ ((l.drop (i + 1) = [] ∧ T38 s = []) ∨ (l.drop (i + 1) ≠ [] ∧ T38 s ≠ [] ∧ Op.bytesLess (F38 s) (T38 s) = true ∧ Chain F38 T38 (T38 s) (l.drop (i + 1))))) := by
          intro hF hp
          rw [hc]
          by_cases hx : i + 1 < l.length
          · rw [if_pos hx]
            have hne := hnx.1 hx
            constructor
            · rintro ⟨h1, h2⟩
              have h1 := h1 (by omega)
              exact ⟨hp, hF, Or.inr ⟨hne, h1, (hem.resolve_left h1), h2⟩⟩
            · rintro ⟨_, _, h⟩
              rcases h with ⟨h, _⟩ | ⟨_, h1, _, h2⟩
              · exact absurd h hne
              · exact ⟨fun _ => h1, h2⟩
          · rw [if_neg hx]
            have hne : l.drop (i + 1) = [] := by
              by_cases h : l.drop (i + 1) = []
              · exact h
              · exact absurd (hnx.2 h) hx
            constructor
            · rintro ⟨_, h⟩; exact ⟨hp, hF, Or.inl ⟨hne, h⟩⟩
            · rintro ⟨_, _, h⟩
              rcases h with ⟨_, h⟩ | ⟨h, _⟩
              · exact ⟨by omega, h⟩
              · exact absurd hne h
        by_cases hF : s.f0.toList = a.toList
        · rw [if_pos hF]
          by_cases h0 : 0 < i
          · rw [if_pos (by omega)]
            by_cases ha : a.toList = []
            · rw [if_pos ha]
              exact ⟨false, rfl, ⟨fun h => (by cases h), fun h => absurd ha (h.1 h0)⟩⟩
            · rw [if_neg ha, hw, hb]
              exact ⟨b, rfl, fin hF (fun _ => ha)⟩
          · rw [if_neg (by omega), hw, hb]
            exact ⟨b, rfl, fin hF (fun h => absurd h h0)⟩
        · rw [if_neg hF]
          exact ⟨false, rfl, ⟨fun h => (by cases h), fun h => absurd h.2.1 hF⟩⟩
    · rw [if_neg (by omega), if_neg hlt]
      by_cases hp : 0 < l.length
      · rw [if_pos (by omega)]
        exact ⟨_, rfl, by simp [hp]⟩
      · rw [if_neg (by omega)]
        exact ⟨_, rfl, by simp [hp]⟩
theorem whole_iff (l : List S38) (hlen : l.length ≤ 100) (k : Nat) (hk : l.length + 1 ≤ k) : ∃ b, span_Whole.f k l = some b ∧ (b = true ↔ Chain F38 T38 [] l) := by
  obtain ⟨b, hb, hc⟩ := whole_l0 l hlen l.length 0 k ⟨#[]⟩ (by omega) (by omega) hk
  refine ⟨b, by unfold span_Whole.f; simpa using hb, ?_⟩
  rw [hc]
  have he : (⟨#[]⟩ : ByteArray).toList = [] := by rw [ByteArray.toList_eq]
  by_cases h : 0 < l.length
  · rw [if_pos h, he]; simp
  · have : l = [] := List.eq_nil_of_length_eq_zero (by omega)
    subst this
    simp [Chain]
theorem has_f (x y k : ByteArray) : span_Has.f x y k = some (hasL x.toList y.toList k.toList) := by
  unfold span_Has.f hasL
  by_cases h1 : Op.bytesLess k.toList x.toList = true
  · simp [h1]
  · rw [if_neg h1]
    replace h1 := Bool.eq_false_iff.mpr h1
    by_cases h2 : y.toList = ([] : List UInt8) <;> simp [h1, h2]
theorem awake_eq (k : Nat) : gazetteerlaw5_awake.f (k + 4) = some true := by
  simp [gazetteerlaw5_awake.f, span_Has.f, span_Within.f, span_Empty.f, span_End.f, span_Whole.f, span_Whole.l0, ByteArray.toList_eq, Op.bytesLess, rd_T38, wrap64]
/-- All keys from one on, cut at places. -/
def partsP (a : ByteArray) : List ByteArray → List S38
  | [] => [⟨a, ⟨#[]⟩⟩]
  | c :: r => ⟨a, c⟩ :: partsP c r
theorem partsP_len : ∀ (l : List ByteArray) (a : ByteArray), (partsP a l).length = l.length + 1
  | [], _ => rfl
  | c :: r, _ => by simp [partsP, partsP_len r]
theorem partsP_ne (l : List ByteArray) (a : ByteArray) : partsP a l ≠ [] := by
  intro h; have := partsP_len l a; rw [h] at this; simp at this
theorem parts_l0 (x : List ByteArray) (hx : x.length ≤ 100) : ∀ (n i k : Nat) (acc : List S38) (a : ByteArray), n = x.length - i → i ≤ x.length → n + 1 ≤ k → acc.length ≤ i →
    gazetteerlaw5_parts.l0 k x acc a (i : Int) = some (acc ++ partsP a (x.drop i))
  | 0, i, k + 1, acc, a, hn, hi, hk, ha => by
    have : i = x.length := by omega
    subst this
    simp only [gazetteerlaw5_parts.l0]
    rw [if_neg (by omega), if_pos (by omega), List.drop_length]
    rfl
  | n + 1, i, k + 1, acc, a, hn, hi, hk, ha => by
    simp only [gazetteerlaw5_parts.l0]
    have hr : rdOf ByteArray.empty x (i : Int) = x.getD i ByteArray.empty := by simp [rdOf]
    rw [if_pos (by omega), if_pos (by omega), if_pos (by omega), wrapN i (by omega), hr, parts_l0 x hx n (i + 1) k _ _ (by omega) (by omega) (by omega) (by simp; omega), drop_at (d := ByteArray.empty) (show i < x.length by omega)]
    simp [partsP]
theorem parts_eq (x : List ByteArray) (hx : x.length ≤ 100) (k : Nat) (hk : x.length + 1 ≤ k) : gazetteerlaw5_parts.f k x = some (partsP ⟨#[]⟩ x) := by
  unfold gazetteerlaw5_parts.f
  have := parts_l0 x hx x.length 0 k [] ⟨#[]⟩ (by omega) (by omega) hk (by simp)
  simpa using this
/-- Places that rise from one on. -/
def Srt : List UInt8 → List ByteArray → Prop
  | _, [] => True
  | a, c :: r => Op.bytesLess a c.toList = true ∧ Srt c.toList r
theorem ne_of_less {a b : List UInt8} (h : Op.bytesLess a b = true) : b ≠ [] := by
  intro e; rw [e, bl_nil] at h; cases h
theorem less_of_ne {b : List UInt8} (h : b ≠ []) : Op.bytesLess [] b = true := by
  cases b with
  | nil => exact absurd rfl h
  | cons _ _ => rfl
theorem Srt.low {a : List UInt8} : ∀ {l : List ByteArray}, Srt a l → Srt [] l
  | [], _ => trivial
  | _ :: _, h => ⟨less_of_ne (ne_of_less h.1), h.2⟩
theorem chain_parts : ∀ (l : List ByteArray) (a : ByteArray), Srt a.toList l → Chain F38 T38 a.toList (partsP a l)
  | [], a, _ => by
    have he : (⟨#[]⟩ : ByteArray).toList = [] := by rw [ByteArray.toList_eq]
    exact ⟨rfl, he⟩
  | c :: r, a, h => by
    unfold partsP
    rw [chain_cons]
    exact ⟨rfl, Or.inr ⟨partsP_ne _ _, ne_of_less h.1, h.1, chain_parts r c h.2⟩⟩
def ins (c : ByteArray) : List ByteArray → List ByteArray
  | [] => [c]
  | x :: r => if Op.bytesLess x.toList c.toList = true then x :: ins c r else if x.toList = c.toList then x :: r else c :: x :: r
theorem ins_len (c : ByteArray) : ∀ l : List ByteArray, (ins c l).length ≤ l.length + 1
  | [] => by simp [ins]
  | x :: r => by
    have := ins_len c r
    unfold ins; split
    · simp; omega
    · split <;> simp
theorem ins_srt (c : ByteArray) : ∀ (l : List ByteArray) (a : List UInt8), Srt a l → Op.bytesLess a c.toList = true → Srt a (ins c l)
  | [], a, _, h => ⟨h, trivial⟩
  | x :: r, a, hs, h => by
    unfold ins
    split
    · exact ⟨hs.1, ins_srt c r _ hs.2 (by assumption)⟩
    · split
      · exact hs
      · rename_i h1 h2
        refine ⟨h, ?_, hs.2⟩
        rcases bl_tri x.toList c.toList with h3 | h3 | h3
        · exact absurd h3 h1
        · exact absurd h3 h2
        · exact h3

theorem l1_eq (x0 : List ByteArray) (hx0 : x0.length ≤ 30) (x1 : ByteArray) (at_ : List ByteArray) (hat : at_.length ≤ 40) (j : Nat) (hj : j < x0.length) (K : Nat) :
    ∀ (m i k : Nat), m = at_.length - i → i ≤ at_.length → K + m + 1 ≤ k →
      (∀ k', K ≤ k' → gazetteerlaw5_SpanCuts.l0 k' x0 x1 (at_.take i ++ ins (x0.getD j ByteArray.empty) (at_.drop i)) ((j + 1 : Nat) : Int) = some true) →
      gazetteerlaw5_SpanCuts.l1 k x0 x1 at_ (j : Int) (i : Int) = some true
  | m, i, 0, hm, hi, hk, h => by omega
  | m, i, k + 1, hm, hi, hk, h => by
    have hr0 : rdOf ByteArray.empty x0 (j : Int) = x0.getD j ByteArray.empty := by simp [rdOf]
    have hr1 : rdOf ByteArray.empty at_ (i : Int) = at_.getD i ByteArray.empty := by simp [rdOf]
    have hwj := wrapN j (by omega)
    have hwi := wrapN i (by omega)
    by_cases hlt : i < at_.length
    · have ih := l1_eq x0 hx0 x1 at_ hat j hj K (m - 1) (i + 1) k (by omega) (by omega) (by omega)
      simp only [gazetteerlaw5_SpanCuts.l1]
      have hd := drop_at (d := ByteArray.empty) hlt
      have ht := take_at (d := ByteArray.empty) hlt
      rw [if_pos (by omega), if_pos (by omega), if_pos (by omega), if_pos (by omega), hr0, hr1, hwj, hwi]
      rw [hd] at h
      rw [ht] at ih
      generalize x0.getD j ByteArray.empty = c at *
      generalize hx : at_.getD i ByteArray.empty = x at *
      by_cases c1 : Op.bytesLess x.toList c.toList = true
      · rw [if_pos c1]
        refine ih (fun k' hk' => ?_)
        have := h k' hk'
        unfold ins at this
        rw [if_pos c1] at this
        simpa using this
      · rw [if_neg c1]
        have hk0 := h k (by omega)
        unfold ins at hk0
        rw [if_neg c1] at hk0
        by_cases c2 : x.toList = c.toList
        · rw [if_pos c2]
          rw [if_pos c2, ← hd, List.take_append_drop] at hk0
          exact hk0
        · rw [if_neg c2]
          rw [if_neg c2] at hk0
          simp only [Option.bind_some, Int.toNat_natCast]
          rw [if_pos (by omega), if_pos (by simp; omega)]
          rw [if_pos (by simp; omega), if_pos (by simp; omega), hd]
          simpa using hk0
    · have hi' : i = at_.length := by omega
      subst hi'
      have hk0 := h k (by omega)
      simp only [gazetteerlaw5_SpanCuts.l1]
      rw [if_neg (by omega), hr0, hwj]
      generalize x0.getD j ByteArray.empty = c at *
      simp only [Option.bind_some, Int.toNat_natCast]
      rw [if_pos (by omega), if_pos (by omega), if_pos (by simp; omega), if_pos (by omega), if_pos (by omega), if_pos (by simp; omega), if_pos (by simp; omega)]
      rw [List.drop_length] at hk0 ⊢
      simpa [ins] using hk0

/-- What the law asks of the places in the end. -/
theorem j5_eq (at_ : List ByteArray) (hat : at_.length ≤ 40) (hs : Srt [] at_) (k : Nat) (hk : 100 ≤ k) : gazetteerlaw5_SpanCuts.j5 k at_ (partsP ⟨#[]⟩ at_) false = some true := by
  obtain ⟨k, rfl⟩ : ∃ m, k = m + 1 := ⟨k - 1, by omega⟩
  have he : (⟨#[]⟩ : ByteArray).toList = [] := by rw [ByteArray.toList_eq]
  simp only [gazetteerlaw5_SpanCuts.j5, Bool.false_eq_true, if_false]
  cases at_ with
  | nil => simp
  | cons c r =>
    have hr0 : rdOf ByteArray.empty (c :: r) 0 = c := by simp [rdOf]
    simp only [List.length_cons] at hat
    rw [if_neg (by simp; omega), if_pos (by simp), hr0]
    simp only [Option.bind_some]
    rw [if_pos (by simp; omega), parts_eq _ (by simp; omega) k (by simp; omega)]
    simp only [Option.bind_some]
    obtain ⟨b, hb, hc⟩ := whole_iff (partsP ⟨#[]⟩ ([c] ++ c :: r)) (by rw [partsP_len]; simp; omega) k (by rw [partsP_len]; simp; omega)
    have b0 : b = false := by
      cases b with
      | false => rfl
      | true =>
        have := hc.1 rfl
        simp only [List.cons_append, List.nil_append, partsP] at this
        rw [chain_cons, chain_cons] at this
        obtain ⟨_, ⟨h, _⟩ | ⟨_, _, _, _, ⟨h, _⟩ | ⟨_, _, h, _⟩⟩⟩ := this
        · cases h
        · exact absurd h (partsP_ne _ _)
        · rw [show F38 ⟨c, c⟩ = T38 ⟨c, c⟩ from rfl, bl_irrefl] at h; cases h
    rw [hb, b0]
    simp only [Option.bind_some, Bool.false_eq_true, if_false]
    have hl : (partsP ⟨#[]⟩ (c :: r)).drop 1 = partsP c r := rfl
    rw [if_pos (by rw [partsP_len]; simp; omega)]
    rw [hl]
    obtain ⟨b, hb, hc⟩ := whole_iff (partsP c r) (by rw [partsP_len]; omega) k (by rw [partsP_len]; omega)
    have b0 : b = false := by
      cases b with
      | false => rfl
      | true =>
        have := hc.1 rfl
        exfalso
        cases r with
        | nil =>
          have h1 : c.toList = [] := this.1
          exact ne_of_less hs.1 h1
        | cons d r =>
          rw [partsP, chain_cons] at this
          have h1 : c.toList = [] := this.1
          exact ne_of_less hs.1 h1
    rw [hb, b0]
    simp only [Option.bind_some, Bool.false_eq_true, if_false]
    obtain ⟨b, hb, hc⟩ := whole_iff ([] : List S38) (by simp) k (by simp; omega)
    have b0 : b = false := by
      cases b with
      | false => rfl
      | true => have := hc.1 rfl; cases this
    rw [hb, b0]
    rfl

theorem whole_yes (l : List ByteArray) (hl : l.length ≤ 50) (hs : Srt [] l) (k : Nat) (hk : 100 ≤ k) : span_Whole.f k (partsP ⟨#[]⟩ l) = some true := by
  have he : (⟨#[]⟩ : ByteArray).toList = [] := by rw [ByteArray.toList_eq]
  obtain ⟨b, hb, hc⟩ := whole_iff (partsP ⟨#[]⟩ l) (by rw [partsP_len]; omega) k (by rw [partsP_len]; omega)
  rw [hb, hc.2 (by have := chain_parts l ⟨#[]⟩ (by rw [he]; exact hs); rwa [he] at this)]

theorem l2_eq (x1 : ByteArray) (at_ : List ByteArray) (hat : at_.length ≤ 40) (hs : Srt [] at_) :
    ∀ (m i k : Nat) (n : Nat), m = (partsP ⟨#[]⟩ at_).length - i → i ≤ (partsP ⟨#[]⟩ at_).length → 110 + m ≤ k → n ≤ 50 + i →
      n + (((partsP ⟨#[]⟩ at_).drop i).filter (fun s => hasL (F38 s) (T38 s) x1.toList)).length = 1 →
      gazetteerlaw5_SpanCuts.l2 k x1 at_ (partsP ⟨#[]⟩ at_) (n : Int) (i : Int) = some true
  | m, i, 0, n, hm, hi, hk, hn, h => by omega
  | m, i, k + 1, n, hm, hi, hk, hn, h => by
    have hl := partsP_len at_ ⟨#[]⟩
    by_cases hlt : i < (partsP ⟨#[]⟩ at_).length
    · have ih := fun n' => l2_eq x1 at_ hat hs (m - 1) (i + 1) k n' (by omega) (by omega) (by omega)
      simp only [gazetteerlaw5_SpanCuts.l2]
      rw [if_pos (by omega), if_pos (by omega), has_f, wrapN i (by omega), wrapN n (by omega)]
      simp only [Option.bind_some]
      have hrd : rd_T38 (partsP ⟨#[]⟩ at_) (i : Int) = (partsP ⟨#[]⟩ at_).getD i z38 := by simp [rd_T38]
      rw [drop_at (d := z38) hlt] at h
      rw [hrd]
      by_cases c : hasL (F38 ((partsP ⟨#[]⟩ at_).getD i z38)) (T38 ((partsP ⟨#[]⟩ at_).getD i z38)) x1.toList = true
      · rw [if_pos c]
        rw [List.filter_cons_of_pos (by exact c), List.length_cons] at h
        exact ih (n + 1) (by omega) (by omega)
      · rw [if_neg c]
        rw [List.filter_cons_of_neg (by exact c)] at h
        exact ih n (by omega) (by omega)
    · have hi' : i = (partsP ⟨#[]⟩ at_).length := by omega
      subst hi'
      rw [List.drop_length] at h
      have hn1 : n = 1 := by simpa using h
      subst hn1
      simp only [gazetteerlaw5_SpanCuts.l2]
      rw [if_neg (by omega), whole_yes at_ (by omega) hs k (by omega)]
      simp only [Option.bind_some, if_true]
      rw [if_pos (by rfl)]
      by_cases c : (at_.length : Int) > 0
      · rw [if_pos c, if_pos (by omega), parts_eq _ (by simp; omega) k (by simp; omega)]
        simp only [Option.bind_some]
        have hs1 : Srt [] (at_.drop 1) := by
          cases at_ with
          | nil => exact trivial
          | cons c r => exact Srt.low hs.2
        rw [whole_yes _ (by simp; omega) hs1 k (by omega)]
        simp only [Option.bind_some, Bool.not_true]
        exact j5_eq at_ hat hs k (by omega)
      · rw [if_neg c]
        exact j5_eq at_ hat hs k (by omega)

theorem l0_eq (x0 : List ByteArray) (hx0 : x0.length ≤ 30) (x1 : ByteArray) :
    ∀ (n i k : Nat) (at_ : List ByteArray), n = x0.length - i → i ≤ x0.length → at_.length ≤ i → Srt [] at_ → 40 * n + 300 ≤ k →
      gazetteerlaw5_SpanCuts.l0 k x0 x1 at_ (i : Int) = some true
  | 0, i, k, at_, hn, hi, ha, hs, hk => by
    obtain ⟨k, rfl⟩ : ∃ m, k = m + 1 := ⟨k - 1, by omega⟩
    simp only [gazetteerlaw5_SpanCuts.l0]
    rw [if_neg (by omega), parts_eq _ (by omega) k (by omega)]
    simp only [Option.bind_some]
    have he : (⟨#[]⟩ : ByteArray).toList = [] := by rw [ByteArray.toList_eq]
    have hc := chain_count x1.toList _ _ (chain_parts at_ ⟨#[]⟩ (by rw [he]; exact hs))
    rw [he, bl_nil, if_neg (by simp)] at hc
    have := l2_eq x1 at_ (by omega) hs (partsP ⟨#[]⟩ at_).length 0 k 0 (by omega) (by omega) (by rw [partsP_len]; omega) (by omega) (by rw [List.drop_zero, hc])
    simpa using this
  | n + 1, i, k, at_, hn, hi, ha, hs, hk => by
    obtain ⟨k, rfl⟩ : ∃ m, k = m + 2 := ⟨k - 2, by omega⟩
    have hr0 : rdOf ByteArray.empty x0 (i : Int) = x0.getD i ByteArray.empty := by simp [rdOf]
    simp only [gazetteerlaw5_SpanCuts.l0]
    rw [if_pos (by omega), if_pos (by omega), hr0]
    have ih := fun at' h1 h2 k' h3 => l0_eq x0 hx0 x1 n (i + 1) k' at' (by omega) (by omega) h1 h2 h3
    have jT : gazetteerlaw5_SpanCuts.j2 (k + 1) x0 x1 at_ (i : Int) true = some true := by simp [gazetteerlaw5_SpanCuts.j2]
    have jF : (x0.getD i ByteArray.empty).toList ≠ [] → gazetteerlaw5_SpanCuts.j2 (k + 1) x0 x1 at_ (i : Int) false = some true := by
      intro hc
      simp only [gazetteerlaw5_SpanCuts.j2, Bool.false_eq_true, if_false]
      refine l1_eq x0 hx0 x1 at_ (by omega) i (by omega) (40 * n + 300) at_.length 0 k (by omega) (by omega) (by omega) (fun k' hk' => ?_)
      rw [List.take_zero, List.drop_zero, List.nil_append]
      exact ih _ (by have := ins_len (x0.getD i ByteArray.empty) at_; omega) (ins_srt _ _ _ hs (less_of_ne hc)) k' hk'
    generalize x0.getD i ByteArray.empty = c at *
    by_cases c1 : (c.size : Int) > 300
    · rw [if_pos c1]; exact jT
    · rw [if_neg c1]
      by_cases c2 : c.toList = []
      · rw [show (c.toList == ([] : List UInt8)) = true by rw [c2]; rfl]; exact jT
      · rw [show (c.toList == ([] : List UInt8)) = false by simpa using c2]; exact jF c2

theorem SpanCuts : gazetteerlaw5_SpanCuts.Pure := by
  intro l0 a1 h0 h1
  obtain ⟨k, hk⟩ : ∃ k : Nat, k = 2000 := ⟨2000, rfl⟩
  refine ⟨k + 4, ?_⟩
  unfold gazetteerlaw5_SpanCuts.f
  refine bindE (awake_eq k) (iteT rfl ?_)
  have jT : gazetteerlaw5_SpanCuts.j0 (k + 4) l0 a1 true = some true := by simp [gazetteerlaw5_SpanCuts.j0]
  by_cases c : (l0.length : Int) > 30
  · exact iteT c jT
  · refine iteF c ?_
    cases hd : decide ((a1.size : Int) > 300) with
    | true => exact jT
    | false =>
      simp only [gazetteerlaw5_SpanCuts.j0, Bool.false_eq_true, if_false]
      exact l0_eq l0 (by omega) a1 l0.length 0 (k + 3) [] (by omega) (by omega) (by simp) trivial (by omega)
end Go.Proofs.Ytbfllekkbmeibaa.Pure

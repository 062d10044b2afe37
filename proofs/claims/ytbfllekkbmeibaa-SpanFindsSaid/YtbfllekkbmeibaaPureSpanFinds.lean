/- SpanFinds, the plain law over the printed functions: the first of the spans that has a key is found. No condition. -/
import Derived.Test.YtbfllekkbmeibaaPSpanFindsy
namespace Go.Proofs.Ytbfllekkbmeibaa.Pure
set_option linter.unusedVariables false
set_option linter.unusedSimpArgs false
open Go.RowKit Go.Proofs.Ytbfllekkbmeibaa.PSpanFinds Go.Proofs.YtbfllekkbmeibaaW.PrintWords Go.Proofs.YtbfllekkbmeibaaW.PrintLast Go.Proofs.YtbfllekkbmeibaaW.PrintMore

theorem refhas (x y k : ByteArray) : gazetteerref5_Has.f x y k = some (hasB x y k) := by
  unfold gazetteerref5_Has.f hasB
  by_cases h1 : Op.bytesLess k.toList x.toList = true
  · simp [h1]
  · rw [if_neg h1]
    replace h1 := Bool.eq_false_iff.mpr h1
    by_cases h2 : Op.bytesLess k.toList y.toList = true <;> simp [h1, h2]
theorem wrapN (n : Nat) (h : n < 9223372036854775807) : wrap64 ((n : Int) + 1) = ((n + 1 : Nat) : Int) := by unfold wrap64; omega
theorem awake_eq (k : Nat) : gazetteerlaw5_awake.f (k + 4) = some true := by
  simp [gazetteerlaw5_awake.f, span_Has.f, span_Within.f, span_Empty.f, span_End.f, span_Whole.f, span_Whole.l0, ByteArray.toList_eq, Op.bytesLess, rd_T38, wrap64]
theorem few_l0 (l : List S38) (hlen : l.length ≤ maxLen) : ∀ (n i k : Nat) (c : Int), n = l.length - i → i ≤ l.length → n + 1 ≤ k → ∃ b, gazetteerlaw5_Few.l0 k l c (i : Int) = some b ∧ (b = true → l.length ≤ 60)
  | 0, i, k + 1, c, hn, hi, hk => by
    have hi' : i = l.length := by omega
    subst hi'
    simp only [gazetteerlaw5_Few.l0]
    rw [if_neg (by omega)]
    by_cases h : (l.length : Int) ≤ 60
    · rw [if_pos h]; exact ⟨_, rfl, fun _ => by omega⟩
    · rw [if_neg h]; exact ⟨_, rfl, fun h => by cases h⟩
  | n + 1, i, k + 1, c, hn, hi, hk => by
    simp only [gazetteerlaw5_Few.l0]
    rw [if_pos (by omega), if_pos (by omega), wrapN i (by have : maxLen ≤ 9223372036854775807 := by decide
                                                          omega)]
    exact few_l0 l hlen n (i + 1) k _ (by omega) (by omega) (by omega)

def P (l : List S38) (key : ByteArray) (i : Int) : Bool := hasB (rd_T38 l i).f0 (rd_T38 l i).f1 key

theorem tail (x1 : List Int) (h1 : x1.length ≤ 60) (x2 : ByteArray) (x9 x10 : Int) (h : x9 = x10) :
    ((span_Find_uint8.f x1 x2).bind fun t135 => (if ((Op.bytesLess x2.toList ([98] : List UInt8)) = true) then (if x9 = x10 then (if ((t135 == 0) == false) = true then (some ((t135 == (-1)) == (!false))) else (some false)) else (some false)) else (if (Op.bytesLess x2.toList ([99] : List UInt8)) = true then (if x9 = x10 then (if ((t135 == 0) == (decide ((x1.length : Int) > 0))) = true then (some ((t135 == (-1)) == (!(decide ((x1.length : Int) > 0))))) else (some false)) else (some false)) else (if x9 = x10 then (if ((t135 == 0) == false) = true then (some ((t135 == (-1)) == (!false))) else (some false)) else (some false))))) = some true := by
  unfold span_Find_uint8.f
  rw [if_pos (by omega)]
  simp only [Option.bind_some]
  have hh : hasB ⟨#[98]⟩ ⟨#[99]⟩ x2 = (!Op.bytesLess x2.toList [98] && Op.bytesLess x2.toList [99]) := by
    simp [hasB, ByteArray.toList_eq]
  rw [hh]
  by_cases a : Op.bytesLess x2.toList ([98] : List UInt8) = true
  · simp [a, h]
  · rw [if_neg a]
    replace a := Bool.eq_false_iff.mpr a
    by_cases b : Op.bytesLess x2.toList ([99] : List UInt8) = true
    · by_cases c : 0 < (x1.length : Int)
      · simp [a, b, h, show 0 < x1.length by omega]
      · have : x1 = [] := List.eq_nil_of_length_eq_zero (by omega)
        subst this
        simp [a, b, h]
    · simp [a, b, h]

theorem l1_eq (l : List S38) (x1 : List Int) (h1 : x1.length ≤ 60) (x2 : ByteArray) (x7 : List Int) (hn : x7.length = l.length) (hl : l.length ≤ 60) (hat : ∀ j : Nat, j < l.length → x7.getD j 0 = (l.length : Int) - 1 - j) :
    ∀ (i k : Nat) (x10 : Int), i ≤ l.length → i + 1 ≤ k →
      ((x10 = -1 ∧ ∀ j, i ≤ j → j < l.length → P l x2 (x7.getD j 0) = false) ∨ ∃ j0 : Nat, i ≤ j0 ∧ j0 < l.length ∧ x10 = j0 ∧ P l x2 (x7.getD j0 0) = true ∧ ∀ j, i ≤ j → j < j0 → P l x2 (x7.getD j 0) = false) →
      gazetteerlaw5_SpanFinds.l1 k x1 x2 x7 (firstAt (P l x2) x7) x10 ((i : Int) - 1) l = some true
  | 0, k + 1, x10, hi, hk, h => by
    simp only [gazetteerlaw5_SpanFinds.l1]
    rw [if_neg (by omega)]
    refine tail x1 h1 x2 _ _ ?_
    rcases h with ⟨rfl, h⟩ | ⟨j0, _, hj, rfl, hp, h⟩
    · exact firstAt_none (d := (0 : Int)) (fun j hj => h j (by omega) (by omega))
    · exact firstAt_at (d := (0 : Int)) (by omega) hp (fun j hj => h j (by omega) hj)
  | i + 1, k + 1, x10, hi, hk, h => by
    have e : (((i + 1 : Nat) : Int) - 1) = (i : Int) := by omega
    rw [e]
    simp only [gazetteerlaw5_SpanFinds.l1]
    have hr : rd x7 (i : Int) = x7.getD i 0 := by simp [rd]
    have ha := hat i (by omega)
    have hw : wrap64 ((i : Int) - 1) = (i : Int) - 1 := by unfold wrap64; omega
    rw [if_pos (by omega), if_pos (by omega), if_pos (by omega), if_pos (by rw [hr, ha]; omega), if_pos (by rw [hr, ha]; omega), refhas, hr, hw]
    simp only [Option.bind_some]
    by_cases c : P l x2 (x7.getD i 0) = true
    · rw [if_pos (by simpa only [P] using c)]
      refine l1_eq l x1 h1 x2 x7 hn hl hat i k _ (by omega) (by omega) (Or.inr ⟨i, by omega, by omega, rfl, c, fun j a b => absurd a (by omega)⟩)
    · rw [if_neg (by simpa only [P] using c)]
      replace c := Bool.eq_false_iff.mpr c
      refine l1_eq l x1 h1 x2 x7 hn hl hat i k _ (by omega) (by omega) ?_
      rcases h with ⟨rfl, h⟩ | ⟨j0, g, hj, rfl, hp, h⟩
      · refine Or.inl ⟨rfl, fun j a b => ?_⟩
        by_cases e : j = i
        · subst e; exact c
        · exact h j (by omega) b
      · refine Or.inr ⟨j0, by omega, hj, rfl, hp, fun j a b => ?_⟩
        by_cases e : j = i
        · subst e; exact c
        · exact h j (by omega) b

theorem find_eq (l : List S38) (x2 : ByteArray) (x7 : List Int) (hn : x7.length = l.length) (hl : l.length ≤ 60) (hat : ∀ j : Nat, j < l.length → x7.getD j 0 = (l.length : Int) - 1 - j) :
    span_Find_int.f x7 l x2 = some (firstAt (P l x2) x7) := by
  unfold span_Find_int.f
  have h : (x7.length : Int) ≤ 9223372036854775806 ∧ ∀ i ∈ x7, 0 ≤ i ∧ i < (l.length : Int) := by
    refine ⟨by omega, fun i hi => ?_⟩
    obtain ⟨j, hj, rfl⟩ := List.getElem_of_mem hi
    have := hat j (by omega)
    rw [List.getD_eq_getElem?_getD, List.getElem?_eq_getElem hj, Option.getD_some] at this
    omega
  rw [if_pos h]
  rfl

theorem l0_eq (l : List S38) (x1 : List Int) (h1 : x1.length ≤ 60) (x2 : ByteArray) (hl : l.length ≤ 60) :
    ∀ (n i k : Nat) (x7 : List Int), n = l.length - i → i ≤ l.length → n + l.length + 2 ≤ k → x7.length = i → (∀ j : Nat, j < i → x7.getD j 0 = (l.length : Int) - 1 - j) →
      gazetteerlaw5_SpanFinds.l0 k x1 x2 x7 (i : Int) l = some true
  | 0, i, k + 1, x7, hn, hi, hk, hx, hat => by
    have hi' : i = l.length := by omega
    subst hi'
    simp only [gazetteerlaw5_SpanFinds.l0]
    rw [if_neg (by omega), find_eq l x2 x7 hx hl hat]
    simp only [Option.bind_some]
    have hw : wrap64 ((x7.length : Int) - 1) = ((l.length : Nat) : Int) - 1 := by rw [hx]; unfold wrap64; omega
    rw [hw]
    exact l1_eq l x1 h1 x2 x7 hx hl hat l.length k (-1) (by omega) (by omega) (Or.inl ⟨rfl, fun j a b => absurd a (by omega)⟩)
  | n + 1, i, k + 1, x7, hn, hi, hk, hx, hat => by
    simp only [gazetteerlaw5_SpanFinds.l0]
    have hw : wrap64 (wrap64 ((l.length : Int) - 1) - (i : Int)) = (l.length : Int) - 1 - i := by unfold wrap64; omega
    rw [if_pos (by omega), if_pos (by omega), wrapN i (by omega), hw]
    refine l0_eq l x1 h1 x2 hl n (i + 1) k _ (by omega) (by omega) (by omega) (by simp [hx]) (fun j hj => ?_)
    by_cases e : j = i
    · subst e
      simp [List.getD_eq_getElem?_getD, List.getElem?_append, hx]
    · have := hat j (by omega)
      rw [List.getD_eq_getElem?_getD, List.getElem?_append, if_pos (by omega), ← List.getD_eq_getElem?_getD]
      exact this

theorem SpanFinds : gazetteerlaw5_SpanFinds.Pure := by
  intro l0 l1 a2 h0 h1 h2
  refine ⟨2 * l0.length + 4 + 4, ?_⟩
  obtain ⟨b, hb, hb60⟩ := few_l0 l0 h0.1 l0.length 0 (2 * l0.length + 4 + 4) 0 (by omega) (by omega) (by omega)
  unfold gazetteerlaw5_SpanFinds.f gazetteerlaw5_Few.f
  have hb' : gazetteerlaw5_Few.l0 (2 * l0.length + 4 + 4) l0 0 0 = some b := hb
  rw [awake_eq, hb']
  simp only [Option.bind_some, if_true]
  have js : ∀ c : Bool, (c = false → l0.length ≤ 60 ∧ l1.length ≤ 60) → gazetteerlaw5_SpanFinds.j0 (2 * l0.length + 4 + 4) l1 a2 c l0 = some true := by
    intro c hc
    simp only [gazetteerlaw5_SpanFinds.j0]
    cases c with
    | true => simp
    | false =>
      obtain ⟨ha, hb⟩ := hc rfl
      simp only [Bool.false_eq_true, if_false]
      exact l0_eq l0 l1 hb a2 ha l0.length 0 _ [] (by omega) (by omega) (by omega) rfl (by omega)
  cases b with
  | false => simp only [Bool.false_eq_true, if_false]; exact js true (fun h => by cases h)
  | true =>
    simp only [if_true]
    have := hb60 rfl
    split
    · exact js true (fun h => by cases h)
    · exact js _ (fun h => ⟨this, by have := of_decide_eq_false h; omega⟩)
end Go.Proofs.Ytbfllekkbmeibaa.Pure

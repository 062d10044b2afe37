/- WeighParts, the plain law over the printed functions. No condition. -/
import Derived.Test.YtfagobhhhljajaaPWeighPartsy
namespace Go.Proofs.Ytfagobhhhljajaa.Pure
set_option linter.unusedVariables false
set_option linter.unusedSimpArgs false
open Go.RowKit Go.Proofs.Ytfagobhhhljajaa.PWeighParts Go.Proofs.YtfagobhhhljajaaW.PrintWords Go.Proofs.YtfagobhhhljajaaW.PrintLast Go.Proofs.YtfagobhhhljajaaW.PrintMore Go.Proofs.YtfagobhhhljajaaW.PrintSort
theorem wr (x : Int) (h0 : -9223372036854775808 ≤ x) (h1 : x ≤ 9223372036854775807) : wrap64 x = x := by
 unfold wrap64; omega
theorem rd_at (l : List Int) (i : Nat) (h : i < l.length) : rd l (i : Int) = l[i] := by
 unfold rd; simp [List.getD, h]
theorem rdT_at (l : List S42) (i : Nat) (h : i < l.length) : rd_T42 l (i : Int) = l[i] := by
 unfold rd_T42; simp [List.getD, h]
theorem drop_at {α : Type} (l : List α) (i : Nat) (h : i < l.length) : l.drop i = l[i] :: l.drop (i + 1) := (List.drop_eq_getElem_cons h)
/-! ### lore -/
theorem may_k (a : Int) (k : Nat) (hk : 1 ≤ k) : scalar_May.f k a = some (mayB a) := by
 obtain ⟨k, rfl⟩ : ∃ j, k = j + 1 := ⟨k - 1, by omega⟩
 unfold scalar_May.f utf8_ValidRune.f mayB
 by_cases h0 : 0 ≤ a
 ·
  by_cases h1 : a < 55296
  ·
   simp [utf8_ValidRune.j0, h0, h1]
  ·
   by_cases h2 : 57343 < a
   ·
    by_cases h3 : a ≤ 1114111 <;> simp [utf8_ValidRune.j0, h0, h1, h2, h3]
   ·
    simp [utf8_ValidRune.j0, h0, h1, h2]
 ·
  have h2 : ¬ 57343 < a := by omega
  simp [utf8_ValidRune.j0, h0, h2]
theorem rises_l (l : List S42) (hl : l.length ≤ 64) (d : Nat) : ∀ (k i : Nat), i ≤ l.length → l.length - i = d → d + 1 < k → ∃ b, lore_rises.l0 k l l (l.length : Int) (i : Int) = some b := by
 induction d with
 | zero =>
  intro k i hi hd hk
  obtain ⟨k, rfl⟩ : ∃ j, k = j + 1 := ⟨k - 1, by omega⟩
  simp only [lore_rises.l0]
  rw [if_neg (by omega)]
  exact ⟨_, rfl⟩
 | succ d ih =>
  intro k i hi hd hk
  obtain ⟨k, rfl⟩ : ∃ j, k = j + 1 := ⟨k - 1, by omega⟩
  simp only [lore_rises.l0]
  rw [if_pos (by omega), if_pos (by omega), if_pos (by omega), may_k _ k (by omega), Option.bind_some, wr ((i : Int) + 1) (by omega) (by omega), show ((i : Int) + 1) = ((i + 1 : Nat) : Int) by omega]
  obtain ⟨b, hb⟩ := ih k (i + 1) (by omega) (by omega) (by omega)
  rw [hb]
  by_cases h1 : mayB (rd_T42 l (i : Int)).f0 = true
  ·
   rw [if_pos h1]
   by_cases h2 : (i : Int) > 0
   ·
    rw [if_pos h2, wr ((i : Int) - 1) (by omega) (by omega), if_pos (by omega), if_pos (by omega)]
    split
    ·
     exact ⟨_, rfl⟩
    ·
     exact ⟨_, rfl⟩
   ·
    rw [if_neg h2]; exact ⟨_, rfl⟩
  ·
   rw [if_neg h1]; exact ⟨_, rfl⟩
theorem may_some (l : List S42) : ∃ b, lore_May.f l = some b ∧ (b = true → l.length ≤ 64 ∧ ∀ x ∈ l, oneB l x.f1 x.f2 = true) := by
 unfold lore_May.f
 by_cases h : (l.length : Int) > 64
 ·
  rw [if_pos h]; exact ⟨false, rfl, fun h => by cases h⟩
 ·
  rw [if_neg h]
  obtain ⟨t, ht⟩ := rises_l l (by omega) l.length 1000 0 (by omega) (by omega) (by omega)
  unfold lore_rises.f
  refine ⟨t && l.all (fun x => oneB l x.f1 x.f2), bindE ht rfl, fun hb => ⟨by omega, ?_⟩⟩
  rw [Bool.and_eq_true] at hb
  exact List.all_eq_true.1 hb.2
theorem firstAt_cases (l : List S42) (r : Int) : (firstAt (fun s : S42 => s.f0 == r) l = -1 ∧ ∀ s ∈ l, s.f0 ≠ r) ∨ ∃ (i : Nat) (h : i < l.length), firstAt (fun s : S42 => s.f0 == r) l = (i : Int) ∧ l[i].f0 = r := by
 unfold firstAt
 cases h : l.findIdx? (fun s : S42 => s.f0 == r) with
 | none => exact .inl ⟨rfl, fun s hs e => by have := List.findIdx?_eq_none_iff.1 h s hs; simp [e] at this⟩
 | some i =>
  obtain ⟨hi, hp, _⟩ := List.findIdx?_eq_some_iff_getElem.1 h
  exact .inr ⟨i, hi, rfl, by simpa using hp⟩
theorem row_cases (l : List S42) (r : Int) : rowOf l r = z42 ∨ rowOf l r ∈ l := by
 unfold rowOf
 rcases firstAt_cases l r with ⟨h, _⟩ | ⟨i, hi, h, _⟩
 ·
  rw [h]; exact .inl rfl
 ·
  rw [h, if_neg (by omega), rdT_at l i hi]; exact .inr (List.getElem_mem hi)
theorem piece_len (l : List S42) (r : Int) (m : Nat) (hm : 1 ≤ m) (h : ∀ x ∈ l, x.f2.length ≤ m) : (pieceOf l r).length ≤ m := by
 unfold pieceOf
 split
 ·
  simpa using hm
 ·
  rcases row_cases l r with e | e
  ·
   rw [e]; simp [z42]
  ·
   exact h _ e
theorem apart_len (l : List S42) (m : Nat) (hm : 1 ≤ m) (h : ∀ x ∈ l, x.f2.length ≤ m) : ∀ s : List Int, (apartL l s).length ≤ m * s.length
 | [] => by simp [apartL]
 | r :: s => by
  have h1 := apart_len l m hm h s
  have h2 := piece_len l r m hm h
  unfold apartL at h1 ⊢
  rw [List.flatMap_cons, List.length_append, List.length_cons, Nat.mul_add]
  omega
theorem order_len (l : List S42) (s : List Int) : (orderL l s).length = s.length := by
 unfold orderL; rw [Go.Proofs.YtfagobhhhljajaaW.PrintSort.ordA_len]; simp
theorem order_ok (l : List S42) (hl : l.length ≤ 1000000) (s : List Int) (hs : s.length ≤ 35184372088832) : lore_Order.f l s = some (orderL l s) := by
 unfold lore_Order.f; rw [if_pos ⟨by omega, hs⟩]
theorem apart_ok (l : List S42) (hl : l.length ≤ 1000000) (s : List Int) (hs : s.length ≤ 1000000) (ha : (apartL l s).length < 35184372088832) : lore_Apart.f l s = some (apartL l s) := by
 unfold lore_Apart.f; rw [if_pos ⟨by omega, by omega, ha⟩]
theorem class_ok (l : List S42) (hl : l.length ≤ 1000000) (r : Int) : lore_Class.f l r = some (clsOf l r) := by
 unfold lore_Class.f clsOf; rw [if_pos (by omega)]
theorem normal_ok (l : List S42) (s : List Int) (hl : l.length ≤ 1000000) (hs : s.length ≤ 1000000) (ha : (apartL l s).length < 35184372088832) :
  ∃ n e, lore_Normal.f l s = some (n, e) ∧ (e = 0 → lore_May.f l = some true ∧ (∀ r ∈ s, mayB r = true) ∧ n = orderL l (apartL l s)) := by
 obtain ⟨b, hb, hb2⟩ := may_some l
 unfold lore_Normal.f
 rw [hb, Option.bind_some]
 cases b with
 | false => exact ⟨[], 4, rfl, fun h => by cases h⟩
 | true =>
  rw [if_pos rfl]
  unfold slices_ContainsFunc_rune_rune.f
  rw [if_pos (by omega), Option.bind_some]
  cases hany : s.any (fun r => !mayB r) with
  | true => exact ⟨[], 2, rfl, fun h => by cases h⟩
  | false =>
   refine ⟨orderL l (apartL l s), 0, ?_, fun _ => ⟨rfl, fun r hr => ?_, rfl⟩⟩
   ·
    rw [if_neg (by simp)]
    refine bindE (apart_ok l hl s hs ha) ?_
    refine bindE (order_ok l hl _ (Nat.le_of_lt ha)) ?_
    rfl
   ·
    have := List.any_eq_false.1 hany r hr
    simpa using this
theorem normal_of (l : List S42) (s : List Int) (hl : l.length ≤ 1000000) (hs : s.length ≤ 1000000) (ha : (apartL l s).length < 35184372088832) (h1 : lore_May.f l = some true) (h2 : ∀ r ∈ s, mayB r = true) :
  lore_Normal.f l s = some (orderL l (apartL l s), 0) := by
 unfold lore_Normal.f slices_ContainsFunc_rune_rune.f
 have hany : s.any (fun r => !mayB r) = false := List.any_eq_false.2 (fun r hr => by simp [h2 r hr])
 rw [h1, Option.bind_some, if_pos rfl, if_pos (by omega), Option.bind_some, hany, if_neg (by simp)]
 refine bindE (apart_ok l hl s hs ha) ?_
 refine bindE (order_ok l hl _ (Nat.le_of_lt ha)) ?_
 rfl
/-! ### a lore that may be -/
def riseB (l : List S42) (i : Nat) : Bool := mayB (l.getD i z42).f0 && !(decide (0 < i) && decide ((l.getD i z42).f0 ≤ (l.getD (i - 1) z42).f0))
theorem rdT_getD (l : List S42) (i : Nat) : rd_T42 l (i : Int) = l.getD i z42 := by unfold rd_T42; rw [Int.toNat_natCast]
theorem rises_l2 (l : List S42) (hl : l.length ≤ 64) (d : Nat) : ∀ (k i : Nat), i ≤ l.length → l.length - i = d → d + 1 < k → lore_rises.l0 k l l (l.length : Int) (i : Int) = some (((List.range l.length).drop i).all (riseB l)) := by
 induction d with
 | zero =>
  intro k i hi hd hk
  obtain ⟨k, rfl⟩ : ∃ j, k = j + 1 := ⟨k - 1, by omega⟩
  simp only [lore_rises.l0]
  rw [if_neg (by omega), List.drop_eq_nil_of_le (by simp; omega)]; rfl
 | succ d ih =>
  intro k i hi hd hk
  obtain ⟨k, rfl⟩ : ∃ j, k = j + 1 := ⟨k - 1, by omega⟩
  have hlt : i < l.length := by omega
  have e : (List.range l.length).drop i = i :: (List.range l.length).drop (i + 1) := by
   rw [List.drop_eq_getElem_cons (by simpa using hlt), List.getElem_range]
  simp only [lore_rises.l0]
  rw [if_pos (by omega), if_pos (by omega), if_pos (by omega), may_k _ k (by omega), Option.bind_some, wr ((i : Int) + 1) (by omega) (by omega), show ((i : Int) + 1) = ((i + 1 : Nat) : Int) by omega, ih k (i + 1) (by omega) (by omega) (by omega), rdT_getD, e, List.all_cons]
  unfold riseB
  cases hm : mayB (l.getD i z42).f0 with
  | false => rw [if_neg (by simp)]; rfl
  | true =>
   rw [if_pos rfl]
   by_cases h0 : 0 < i
   ·
    rw [if_pos (by omega), wr ((i : Int) - 1) (by omega) (by omega), show ((i : Int) - 1) = ((i - 1 : Nat) : Int) by omega, if_pos (by omega), if_pos (by omega), rdT_getD, decide_eq_true h0]
    by_cases h1 : (l.getD i z42).f0 ≤ (l.getD (i - 1) z42).f0
    ·
     rw [if_pos h1, decide_eq_true h1]; rfl
    ·
     rw [if_neg h1, decide_eq_false h1]; rfl
   ·
    rw [if_neg (by omega), decide_eq_false h0]; rfl
theorem rowBad_one (l : List S42) (i : Nat) : refRow l i = (riseB l i && oneB l (l.getD i z42).f1 (l.getD i z42).f2) := by
 unfold refRow rowBad riseB oneB refTo
 generalize mayB (l.getD i z42).f0 = a
 generalize decide (0 < i) = b
 generalize decide ((l.getD i z42).f0 ≤ (l.getD (i - 1) z42).f0) = c
 generalize decide ((l.getD i z42).f1 < 0) = d
 generalize decide (254 < (l.getD i z42).f1) = e
 generalize decide (3 < (l.getD i z42).f2.length) = f
 generalize decide ((l.getD i z42).f2.length = 0) = g
 generalize decide ((l.getD i z42).f1 = 0) = h
 generalize (l.getD i z42).f2.all _ = x
 cases a <;> cases b <;> cases c <;> cases d <;> cases e <;> cases f <;> cases g <;> cases h <;> rfl
theorem all_range (l : List S42) (p : S42 → Bool) : l.all p = (List.range l.length).all (fun i => p (l.getD i z42)) := by
 rw [Bool.eq_iff_iff, List.all_eq_true, List.all_eq_true]
 constructor
 ·
  intro h i hi
  have hi := List.mem_range.1 hi
  rw [List.getD_eq_getElem?_getD, List.getElem?_eq_getElem hi]
  exact h _ (List.getElem_mem hi)
 ·
  intro h x hx
  obtain ⟨i, hi, rfl⟩ := List.getElem_of_mem hx
  have := h i (List.mem_range.2 hi)
  rwa [List.getD_eq_getElem?_getD, List.getElem?_eq_getElem hi] at this
theorem lore_may_eq (l : List S42) : lore_May.f l = some (loreV l) := by
 unfold lore_May.f loreV
 by_cases h : (l.length : Int) > 64
 ·
  rw [if_pos h, decide_eq_false (by omega)]; rfl
 ·
  rw [if_neg h, decide_eq_true (show l.length ≤ 64 by omega), Bool.true_and]
  have hr := rises_l2 l (by omega) l.length 1000 0 (by omega) (by omega) (by omega)
  unfold lore_rises.f
  refine bindE hr ?_
  rw [List.drop_zero, all_range l (fun x => oneB l x.f1 x.f2)]
  congr 1
  rw [Bool.eq_iff_iff, Bool.and_eq_true, List.all_eq_true, List.all_eq_true, List.all_eq_true]
  constructor
  ·
   rintro ⟨h1, h2⟩ i hi; rw [rowBad_one, h1 i hi, h2 i hi]; rfl
  ·
   intro h1
   refine ⟨fun i hi => ?_, fun i hi => ?_⟩ <;> (have := h1 i hi; rw [rowBad_one, Bool.and_eq_true] at this)
   ·
    exact this.1
   ·
    exact this.2
/-! ### tables -/
theorem rdT44_getD (l : List S44) (i : Nat) : rd_T44 l (i : Int) = l.getD i z44 := by unfold rd_T44; rw [Int.toNat_natCast]
theorem apart_self (l : List S42) : ∀ n : List Int, (∀ r ∈ n, (rowOf l r).f2.length = 0) → apartL l n = n
 | [], _ => rfl
 | r :: n, h => by
  have h1 := apart_self l n (fun q hq => h q (by simp [hq]))
  unfold apartL at h1 ⊢
  rw [List.flatMap_cons, h1]
  unfold pieceOf
  rw [if_pos (h r (by simp))]; rfl
/-- The runes of a lore rise. -/
theorem lore_rise {l : List S42} (h : loreV l = true) : ∀ i, i < l.length → riseB l i = true := by
 intro i hi
 unfold loreV at h
 rw [Bool.and_eq_true, List.all_eq_true] at h
 have := h.2 i (List.mem_range.2 hi)
 rw [rowBad_one, Bool.and_eq_true] at this
 exact this.1
theorem lore_lt {l : List S42} (h : loreV l = true) : ∀ (d i : Nat), i + d + 1 < l.length → (l.getD i z42).f0 < (l.getD (i + d + 1) z42).f0
 | 0, i, hi => by
  have := lore_rise h (i + 1) hi
  unfold riseB at this
  rw [Bool.and_eq_true, decide_eq_true (show 0 < i + 1 by omega), Bool.true_and] at this
  have h2 := this.2
  simp only [Nat.add_sub_cancel, Bool.not_eq_true', decide_eq_false_iff_not] at h2
  show (l.getD i z42).f0 < (l.getD (i + 0 + 1) z42).f0
  rw [Nat.add_zero]; omega
 | d + 1, i, hi => by
  have h1 := lore_lt h d i (by omega)
  have h2 := lore_lt h 0 (i + d + 1) (by omega)
  have e : i + d + 1 + 0 + 1 = i + (d + 1) + 1 := by omega
  rw [e] at h2
  omega
theorem row_unique {l : List S42} (h : loreV l = true) {x : S42} (hx : x ∈ l) : rowOf l x.f0 = x := by
 obtain ⟨i, hi, rfl⟩ := List.getElem_of_mem hx
 unfold rowOf
 rcases firstAt_cases l l[i].f0 with ⟨_, h2⟩ | ⟨j, hj, h1, h2⟩
 ·
  exact absurd rfl (h2 l[i] (List.getElem_mem hi))
 ·
  rw [h1, if_neg (by omega), rdT_at l j hj]
  have gi : l.getD i z42 = l[i] := by rw [List.getD_eq_getElem?_getD, List.getElem?_eq_getElem hi]; rfl
  have gj : l.getD j z42 = l[j] := by rw [List.getD_eq_getElem?_getD, List.getElem?_eq_getElem hj]; rfl
  rcases Nat.lt_trichotomy i j with h3 | h3 | h3
  ·
   have := lore_lt h (j - i - 1) i (by omega)
   rw [show i + (j - i - 1) + 1 = j by omega, gi, gj] at this
   omega
  ·
   subst h3; rfl
  ·
   have := lore_lt h (i - j - 1) j (by omega)
   rw [show j + (i - j - 1) + 1 = i by omega, gi, gj] at this
   omega
theorem refTo_rune {l : List S42} (h : loreV l = true) (r : Int) : runeB l r = refTo l r := by
 unfold runeB refTo
 congr 1
 rw [Bool.eq_iff_iff, decide_eq_true_iff, Bool.not_eq_true', List.any_eq_false]
 constructor
 ·
  intro h1
  rcases row_cases l r with e | e
  ·
   rw [e]; rfl
  ·
   have h2 := h1 _ e
   rcases Classical.em ((rowOf l r).f2.length = 0) with h3 | h3
   ·
    exact h3
   ·
    exfalso
    refine h2 ?_
    have hr : (rowOf l r).f0 = r := by
     unfold rowOf at e ⊢
     rcases firstAt_cases l r with ⟨h4, _⟩ | ⟨j, hj, h4, h5⟩
     ·
      rw [rowOf, h4, if_pos (by omega)] at h3; exact absurd rfl h3
     ·
      rw [h4, if_neg (by omega), rdT_at l j hj]; exact h5
    rw [Bool.and_eq_true, beq_iff_eq, decide_eq_true_iff]
    exact ⟨hr, by omega⟩
 ·
  intro h1 x hx h2
  rw [Bool.and_eq_true, beq_iff_eq, decide_eq_true_iff] at h2
  have := row_unique h hx
  rw [h2.1] at this
  rw [this] at h1
  omega
theorem elemB_iff (p s t : Int) : (weigh_element.f p s t).getD false = true ↔ (0 ≤ p ∧ p ≤ 60000) ∧ (0 ≤ s ∧ s ≤ 200) ∧ (0 ≤ t ∧ t ≤ 200) ∧ (p = 0 ∨ 0 < s) ∧ (s = 0 ∨ 0 < t) := by
 unfold weigh_element.f
 rw [within_ok, within_ok, within_ok, Option.bind_some, Option.bind_some, Option.bind_some]
 simp only [Bool.and_eq_true, decide_eq_true_eq]
 repeat' split
 all_goals (simp only [Option.getD_some, decide_eq_true_eq, true_iff, Bool.false_eq_true, false_iff]; omega)
theorem elemB_eq (e : S39) : elemB e = !elBad e := by
 rw [Bool.eq_iff_iff]
 unfold elemB
 rw [elemB_iff, Bool.not_eq_true']
 unfold elBad
 simp only [Bool.or_eq_false_iff, decide_eq_false_iff_not, Bool.and_eq_false_iff]
 omega
theorem cmpV_neg : ∀ {a b : List Int}, cmpV a b < 0 ↔ cmpL a b < 0
 | [], [] => by simp [cmpV, cmpL]
 | [], b :: t => by simp only [cmpV, cmpL, List.length_cons]; omega
 | a :: s, [] => by simp only [cmpV, cmpL, List.length_cons]; omega
 | a :: s, b :: t => by
  unfold cmpV cmpL
  by_cases h : a = b
  ·
   subst h; rw [if_pos rfl, if_neg (by omega), if_neg (by omega)]; exact cmpV_neg
  ·
   rw [if_neg h]
   by_cases h1 : a < b
   ·
    rw [if_pos h1, if_pos h1]
   ·
    rw [if_neg h1, if_neg h1, if_pos (by omega)]
theorem row_parts {l : List S42} {rows : List S44} {i : Nat} (h : refTRow l rows i = true) : (1 ≤ (rows.getD i z44).f0.length ∧ (rows.getD i z44).f0.length ≤ 3 ∧ (rows.getD i z44).f1.length ≤ 4) ∧ (0 < i → cmpL (rows.getD (i - 1) z44).f0 (rows.getD i z44).f0 < 0) ∧ (∀ r ∈ (rows.getD i z44).f0, refTo l r = true) ∧ (∀ e ∈ (rows.getD i z44).f1, elBad e = false) ∧ (1 < (rows.getD i z44).f0.length → 0 ≤ firstAt (fun x : S44 => x.f0 == (rows.getD i z44).f0.take 1) rows) := by
 unfold refTRow trowBad at h
 simp only [Bool.and_eq_true, Bool.not_eq_true', Bool.or_eq_false_iff, decide_eq_false_iff_not, List.all_eq_true, Bool.and_eq_false_iff] at h
 obtain ⟨⟨⟨⟨h1, h2⟩, h3⟩, h4⟩, h5, h6, h7⟩ := h
 refine ⟨⟨by omega, by omega, by omega⟩, fun h0 => cmpV_neg.1 (by rcases h4 with h4 | h4 <;> omega), h5, fun e he => by simpa using h6 e he, fun h0 => by rcases h7 with h7 | h7 <;> omega⟩
theorem rowFor_first {rows : List S44} {s : List Int} (h : 0 ≤ firstAt (fun x : S44 => x.f0 == s) rows) : (rowFor rows s).isSome = true := by
 unfold firstAt at h
 cases hf : rows.findIdx? (fun x : S44 => x.f0 == s) with
 | none => rw [hf] at h; exact absurd h (by decide)
 | some i =>
  obtain ⟨hi, hp, _⟩ := List.findIdx?_eq_some_iff_getElem.1 hf
  unfold rowFor
  rw [List.find?_isSome]
  exact ⟨rows[i], List.getElem_mem hi, hp⟩
/-- A table that may be, as the program says it, too. -/
theorem tmay_may {l : List S42} {rows : List S44} {top : Int} {sh : Bool} (h : gazetteerref1_TableMay.f l rows top sh = some true) : weigh_May.f l rows top sh = some true ∧ loreV l = true ∧ rows.length ≤ 64 ∧ (∀ i < rows.length, refTRow l rows i = true) ∧ mayR l rows = true := by
 unfold gazetteerref1_TableMay.f at h
 have h := Option.some.inj h
 rw [Bool.and_eq_true, Bool.and_eq_true, Bool.and_eq_true, List.all_eq_true] at h
 obtain ⟨hv, h64, htop, hr⟩ := h
 have hr' : ∀ i < rows.length, refTRow l rows i = true := fun i hi => hr i (List.mem_range.2 hi)
 have hmr : mayR l rows = true := by
  unfold mayR
  rw [List.all_eq_true]
  intro i hi
  have hi := List.mem_range.1 hi
  obtain ⟨⟨g1, g2, g3⟩, g4, g5, g6, g7⟩ := row_parts (hr' i hi)
  rw [Bool.and_eq_true]
  constructor
  ·
   unfold rowB
   rw [decide_eq_true ⟨g1, g2⟩, decide_eq_true g3, Bool.true_and, Bool.true_and, Bool.and_eq_true, List.all_eq_true, List.all_eq_true]
   exact ⟨fun r hr2 => by rw [refTo_rune hv]; exact g5 r hr2, fun e he => by rw [elemB_eq, g6 e he]; rfl⟩
  ·
   rcases Nat.eq_zero_or_pos i with rfl | h0
   ·
    rfl
   ·
    rw [decide_eq_true (g4 h0)]; simp
 refine ⟨?_, hv, of_decide_eq_true h64, hr', hmr⟩
 unfold weigh_May.f
 rw [lore_may_eq, Option.bind_some, hv, h64, htop, hmr, Bool.true_and, Bool.true_and, Bool.true_and, Bool.true_and]
 congr 1
 unfold mayF
 rw [List.all_eq_true]
 intro i hi
 have hi := List.mem_range.1 hi
 obtain ⟨⟨g1, g2, g3⟩, g4, g5, g6, g7⟩ := row_parts (hr' i hi)
 by_cases h1 : 1 < (rows.getD i z44).f0.length
 ·
  exact rowFor_first (g7 h1)
 ·
  unfold rowFor
  rw [List.find?_isSome]
  refine ⟨rows.getD i z44, by rw [List.getD_eq_getElem?_getD, List.getElem?_eq_getElem hi]; exact List.getElem_mem hi, ?_⟩
  rw [List.take_of_length_le (by omega)]; simp
theorem table_ok (l : List S42) (rows : List S44) (top : Int) (sh : Bool) : ∃ b, gazetteerref1_TableMay.f l rows top sh = some b := ⟨_, rfl⟩
theorem lore_to_len {l : List S42} (h : loreV l = true) : ∀ y ∈ l, y.f2.length ≤ 3 := fun y hy => by
 obtain ⟨i, hi, rfl⟩ := List.getElem_of_mem hy
 unfold loreV at h
 rw [Bool.and_eq_true, List.all_eq_true] at h
 have := h.2 i (List.mem_range.2 hi)
 rw [rowBad_one, Bool.and_eq_true] at this
 have h5 := this.2
 unfold oneB at h5
 simp only [Bool.and_eq_true, Bool.not_eq_true', Bool.or_eq_false_iff, decide_eq_false_iff_not] at h5
 rw [List.getD_eq_getElem?_getD, List.getElem?_eq_getElem hi] at h5
 have := h5.1.1.2
 simp at this
 omega
/-! ### few, the same -/
theorem few3_l1 (l : List S42) (rows : List S44) (top : Int) (sh : Bool) (s : List Int) (hl : l.length ≤ 4000000000000000000) (d : Nat) : ∀ (k i : Nat) (acc : Int), i ≤ l.length → l.length - i = d → d < k → ∃ b, gazetteerlaw3_Few.l1 k s acc (i : Int) l rows top sh = some b ∧ (b = true → rows.length ≤ 100 ∧ l.length ≤ 100 ∧ s.length ≤ 200) := by
 induction d with
 | zero =>
  intro k i acc hi hd hk
  obtain ⟨k, rfl⟩ : ∃ j, k = j + 1 := ⟨k - 1, by omega⟩
  simp only [gazetteerlaw3_Few.l1]
  rw [if_neg (by omega)]
  by_cases h1 : (rows.length : Int) ≤ 100
  ·
   rw [if_pos h1]
   by_cases h2 : (l.length : Int) ≤ 100
   ·
    rw [if_pos h2]
    by_cases h3 : acc ≤ 1000
    ·
     rw [if_pos h3]; exact ⟨_, rfl, fun h => ⟨by omega, by omega, by have := of_decide_eq_true h; omega⟩⟩
    ·
     rw [if_neg h3]; exact ⟨false, rfl, fun h => by cases h⟩
   ·
    rw [if_neg h2]; exact ⟨false, rfl, fun h => by cases h⟩
  ·
   rw [if_neg h1]; exact ⟨false, rfl, fun h => by cases h⟩
 | succ d ih =>
  intro k i acc hi hd hk
  obtain ⟨k, rfl⟩ : ∃ j, k = j + 1 := ⟨k - 1, by omega⟩
  simp only [gazetteerlaw3_Few.l1]
  rw [if_pos (by omega), if_pos (by omega), wr ((i : Int) + 1) (by omega) (by omega), show ((i : Int) + 1) = ((i + 1 : Nat) : Int) by omega]
  exact ih k (i + 1) _ (by omega) (by omega) (by omega)
theorem few3_l0 (l : List S42) (rows : List S44) (top : Int) (sh : Bool) (s : List Int) (hl : l.length ≤ 4000000000000000000) (hr : rows.length ≤ 4000000000000000000) (d : Nat) : ∀ (k i : Nat) (acc : Int), i ≤ rows.length → rows.length - i = d → l.length + d + 1 < k → ∃ b, gazetteerlaw3_Few.l0 k s acc (i : Int) l rows top sh = some b ∧ (b = true → rows.length ≤ 100 ∧ l.length ≤ 100 ∧ s.length ≤ 200) := by
 induction d with
 | zero =>
  intro k i acc hi hd hk
  obtain ⟨k, rfl⟩ : ∃ j, k = j + 1 := ⟨k - 1, by omega⟩
  simp only [gazetteerlaw3_Few.l0]
  rw [if_neg (by omega)]
  exact few3_l1 l rows top sh s hl l.length k 0 acc (by omega) (by omega) (by omega)
 | succ d ih =>
  intro k i acc hi hd hk
  obtain ⟨k, rfl⟩ : ∃ j, k = j + 1 := ⟨k - 1, by omega⟩
  simp only [gazetteerlaw3_Few.l0]
  rw [if_pos (by omega), if_pos (by omega), wr ((i : Int) + 1) (by omega) (by omega), show ((i : Int) + 1) = ((i + 1 : Nat) : Int) by omega]
  exact ih k (i + 1) _ (by omega) (by omega) (by omega)
theorem few3_ok (l : List S42) (rows : List S44) (top : Int) (sh : Bool) (s : List Int) (hl : l.length ≤ 4000000000000000000) (hr : rows.length ≤ 4000000000000000000) (k : Nat) (hk : l.length + rows.length + 1 < k) : ∃ b, gazetteerlaw3_Few.f k l rows top sh s = some b ∧ (b = true → rows.length ≤ 100 ∧ l.length ≤ 100 ∧ s.length ≤ 200) := by
 unfold gazetteerlaw3_Few.f
 exact few3_l0 l rows top sh s hl hr rows.length k 0 0 (by omega) (by omega) (by omega)
theorem same3_l (a : List S39) (ha : a.length ≤ 1000000000000) (d : Nat) : ∀ (k i : Nat), i ≤ a.length → a.length - i = d → d < k → gazetteerlaw3_Same.l0 k a a (i : Int) = some true := by
 induction d with
 | zero =>
  intro k i hi hd hk
  obtain ⟨k, rfl⟩ : ∃ j, k = j + 1 := ⟨k - 1, by omega⟩
  simp only [gazetteerlaw3_Same.l0]
  rw [if_neg (by omega)]
 | succ d ih =>
  intro k i hi hd hk
  obtain ⟨k, rfl⟩ : ∃ j, k = j + 1 := ⟨k - 1, by omega⟩
  simp only [gazetteerlaw3_Same.l0]
  rw [if_pos (by omega), if_pos (by omega), if_pos (by omega), if_neg (by simp), wr ((i : Int) + 1) (by omega) (by omega), show ((i : Int) + 1) = ((i + 1 : Nat) : Int) by omega]
  exact ih k (i + 1) (by omega) (by omega) (by omega)
theorem same3_rfl (a : List S39) (ha : a.length ≤ 1000000000000) (k : Nat) (hk : a.length < k) : gazetteerlaw3_Same.f k a a = some true := by
 unfold gazetteerlaw3_Same.f
 rw [if_pos rfl]
 exact same3_l a ha a.length k 0 (by omega) (by omega) (by omega)
theorem awake3 : gazetteerlaw3_awake.f = some true := rfl
/-! ### elements -/
theorem elemsN_len (cls : Int → Int) (rows : List S44) (h4 : ∀ x ∈ rows, 1 ≤ x.f0.length ∧ x.f1.length ≤ 4) : ∀ (n : Nat) (s : List Int), s.length ≤ n → (elemsN cls rows n s).length ≤ 4 * s.length
 | 0, s, h => by simp [elemsN]
 | n + 1, [], _ => by simp [elemsN]
 | n + 1, r :: t, h => by
  rw [elemsN]
  rw [List.length_cons] at h
  cases hl : longestR rows (r :: t) with
  | none =>
   have := elemsN_len cls rows h4 n t (by omega)
   simp only [List.length_append, List.length_cons]
   unfold impliedL
   simp only [List.length_cons, List.length_nil]; omega
  | some x =>
   obtain ⟨g1, g2, g3, _⟩ := longestR_some hl
   have hb := longerR_len cls rows ((r :: t).drop x.f0.length) x 0 []
   have hlen : ((r :: t).drop x.f0.length).length ≤ t.length := by rw [List.length_drop, List.length_cons]; omega
   have := elemsN_len cls rows h4 n (longerR cls rows x 0 [] ((r :: t).drop x.f0.length)).2 (by have := hb.1; simp only [List.length_nil] at this; omega)
   have h5 : (longerR cls rows x 0 [] ((r :: t).drop x.f0.length)).1.f1.length ≤ 4 := by
    rcases hb.2 with h6 | h6
    ·
     rw [h6]; exact (h4 x g1).2
    ·
     exact (h4 _ h6).2
   simp only [List.length_append, List.length_cons]
   have := hb.1; simp only [List.length_nil] at this; omega
theorem rows_four {l : List S42} {rows : List S44} (h : mayR l rows = true) : ∀ x ∈ rows, 1 ≤ x.f0.length ∧ x.f1.length ≤ 4 := fun x hx => ⟨((mayR_four h).2 x hx).1, ((mayR_four h).2 x hx).2.2⟩
theorem elements_ok {l : List S42} {rows : List S44} {top : Int} {sh : Bool} (hm : weigh_May.f l rows top sh = some true) {s n : List Int} (hn : lore_Normal.f l s = some (n, 0)) (hl : n.length ≤ 1000000000) : weigh_Elements.f l rows top sh s = some (elemsN (clsOf l) rows n.length n, 0) := by
 unfold weigh_Elements.f
 refine bindE hm ?_
 rw [if_pos rfl]
 refine bindE hn ?_
 show (if (0 : Int) = 0 then _ else _) = _
 rw [if_pos rfl, if_pos hl]; rfl
/-! ### a rune that is in no row and no lore -/
theorem row_none {l : List S42} {r : Int} (h : ∀ x ∈ l, x.f0 ≠ r) : rowOf l r = z42 := by
 unfold rowOf
 rcases firstAt_cases l r with ⟨h1, _⟩ | ⟨i, hi, _, h2⟩
 ·
  rw [h1]; rfl
 ·
  exact absurd h2 (h _ (List.getElem_mem hi))
theorem ordA_stop {k : Int → Int} {x : Int} (hx : ¬ 0 < k x) : ∀ {s acc t : List Int}, ordA k acc (s ++ x :: t) = ordA k acc s ++ x :: ordA k [] t
 | [], acc, t => by
  rw [List.nil_append, show ordA k acc (x :: t) = if 0 < k x then ordA k (insR k x acc) t else acc ++ x :: ordA k [] t from rfl, if_neg hx]; rfl
 | y :: s, acc, t => by
  rw [List.cons_append, ordA, ordA]
  split
  ·
   exact ordA_stop hx
  ·
   rw [ordA_stop hx (s := s)]; simp
theorem normal_val {l : List S42} (hv : loreV l = true) {s : List Int} (hl : l.length ≤ 1000000) (hs : s.length ≤ 1000000) (ha : (apartL l s).length < 35184372088832) : lore_Normal.f l s = if s.all mayB = true then some (orderL l (apartL l s), 0) else some ([], 2) := by
 have hm : lore_May.f l = some true := by rw [lore_may_eq, hv]
 cases h : s.all mayB with
 | true =>
  rw [if_pos rfl]
  exact normal_of l s hl hs ha hm (List.all_eq_true.1 h)
 | false =>
  rw [if_neg (by simp)]
  unfold lore_Normal.f slices_ContainsFunc_rune_rune.f
  have hany : s.any (fun r => !mayB r) = true := by
   rw [List.all_eq_false] at h
   obtain ⟨x, hx, h2⟩ := h
   exact List.any_eq_true.2 ⟨x, hx, by simpa using h2⟩
  rw [hm, Option.bind_some, if_pos rfl, if_pos (by omega), Option.bind_some, hany, if_pos rfl]
theorem elements_val {l : List S42} {rows : List S44} {top : Int} {sh : Bool} (hm : weigh_May.f l rows top sh = some true) (hv : loreV l = true) {s : List Int} (hs : s.length ≤ 1000000) (ha : (apartL l s).length ≤ 1000000) (hl : l.length ≤ 1000000) : weigh_Elements.f l rows top sh s = some (if s.all mayB = true then (elemsN (clsOf l) rows (orderL l (apartL l s)).length (orderL l (apartL l s)), 0) else ([], 2)) := by
 unfold weigh_Elements.f
 refine bindE hm (iteT rfl ?_)
 have hn := normal_val hv hl hs (by omega : (apartL l s).length < 35184372088832)
 cases h : s.all mayB with
 | true =>
  rw [h, if_pos rfl] at hn
  refine bindE hn (iteT rfl (iteT (by rw [order_len]; omega) ?_))
  rw [if_pos rfl]; rfl
 | false =>
  rw [h, if_neg (by simp)] at hn
  refine bindE hn (iteF (by decide) ?_)
  rw [if_neg (by simp)]
section
variable {cls : Int → Int} {rows : List S44} {x0 : Int}
theorem rowFor_no (hno : ∀ x ∈ rows, ∀ r ∈ x.f0, r ≠ x0) {s : List Int} (h : x0 ∈ s) : rowFor rows s = none := by
 unfold rowFor
 rw [List.find?_eq_none]
 intro x hx he
 have he : x.f0 = s := by simpa using he
 exact hno x hx x0 (by rw [he]; exact h) rfl
theorem longN_cut (hno : ∀ x ∈ rows, ∀ r ∈ x.f0, r ≠ x0) (p q : List Int) : ∀ n, longN rows (p ++ x0 :: q) n = longN rows p (min n p.length)
 | 0 => by rw [Nat.zero_min]; rfl
 | n + 1 => by
  rw [longN]
  by_cases h : n + 1 ≤ p.length
  ·
   rw [List.take_append_of_le_length h, Nat.min_eq_left h, longN]
   cases rowFor rows (p.take (n + 1)) with
   | some x => rfl
   | none =>
    simp only []
    rw [longN_cut hno p q n, Nat.min_eq_left (by omega)]
  ·
   have hm : x0 ∈ (p ++ x0 :: q).take (n + 1) := by
    rw [List.take_append, show n + 1 - p.length = (n - p.length) + 1 by omega, List.take_succ_cons]
    simp
   rw [rowFor_no hno hm]
   simp only []
   rw [longN_cut hno p q n, Nat.min_eq_right (by omega), Nat.min_eq_right (by omega)]
theorem longestR_cut (hno : ∀ x ∈ rows, ∀ r ∈ x.f0, r ≠ x0) (p q : List Int) : longestR rows (p ++ x0 :: q) = longestR rows p := by
 unfold longestR
 rw [longN_cut hno]
 congr 1
 rw [List.length_append, List.length_cons]; omega
theorem longerR_cut (hc : cls x0 = 0) (q : List Int) : ∀ (t : List Int) (x : S44) (over : Int) (left : List Int), longerR cls rows x over left (t ++ x0 :: q) = ((longerR cls rows x over left t).1, (longerR cls rows x over left t).2 ++ x0 :: q)
 | [], x, over, left => by simp [longerR, hc]
 | r :: t, x, over, left => by
  rw [List.cons_append, longerR, longerR]
  split
  ·
   simp
  ·
   cases rowFor rows (x.f0 ++ [r]) with
   | none => simp only []; exact longerR_cut hc q t _ _ _
   | some y =>
    simp only []
    split
    ·
     exact longerR_cut hc q t _ _ _
    ·
     exact longerR_cut hc q t _ _ _
theorem elems_fuel (h4 : ∀ x ∈ rows, 1 ≤ x.f0.length ∧ x.f1.length ≤ 4) : ∀ (n m : Nat) (s : List Int), s.length ≤ n → s.length ≤ m → elemsN cls rows n s = elemsN cls rows m s
 | 0, m, s, h, _ => by
  obtain rfl := List.eq_nil_of_length_eq_zero (by omega : s.length = 0)
  cases m <;> rfl
 | n + 1, 0, s, _, h => by
  obtain rfl := List.eq_nil_of_length_eq_zero (by omega : s.length = 0)
  rfl
 | n + 1, m + 1, [], _, _ => rfl
 | n + 1, m + 1, r :: t, h1, h2 => by
  rw [List.length_cons] at h1 h2
  rw [elemsN, elemsN]
  cases hl : longestR rows (r :: t) with
  | none => simp only []; rw [elems_fuel h4 n m t (by omega) (by omega)]
  | some x =>
   simp only []
   obtain ⟨g1, g2, g3, _⟩ := longestR_some hl
   have hb := (longerR_len cls rows ((r :: t).drop x.f0.length) x 0 []).1
   have hlen : ((r :: t).drop x.f0.length).length ≤ t.length := by rw [List.length_drop, List.length_cons]; omega
   simp only [List.length_nil] at hb
   rw [elems_fuel h4 n m _ (by omega) (by omega)]
theorem elems_cutN (h4 : ∀ x ∈ rows, 1 ≤ x.f0.length ∧ x.f1.length ≤ 4) (hc : cls x0 = 0) (hno : ∀ x ∈ rows, ∀ r ∈ x.f0, r ≠ x0) (q : List Int) : ∀ (n : Nat) (p : List Int), p.length ≤ n → elemsN cls rows (n + (q.length + 1)) (p ++ x0 :: q) = elemsN cls rows n p ++ (impliedL x0 ++ elemsN cls rows q.length q)
 | n, [], _ => by
  have h := longestR_cut hno [] q
  rw [List.nil_append] at h ⊢
  have h0 : longestR rows [] = none := rfl
  rw [h0] at h
  rw [show n + (q.length + 1) = (n + q.length) + 1 by omega, elemsN, h]
  simp only []
  rw [elems_fuel h4 (n + q.length) q.length q (by omega) (Nat.le_refl _)]
  cases n <;> rfl
 | 0, r :: t, h => by simp at h
 | n + 1, r :: t, h => by
  rw [List.length_cons] at h
  rw [show n + 1 + (q.length + 1) = (n + (q.length + 1)) + 1 by omega, List.cons_append, elemsN, elemsN]
  have hcut := longestR_cut hno (r :: t) q
  rw [List.cons_append] at hcut
  rw [hcut]
  cases hl : longestR rows (r :: t) with
  | none =>
   simp only []
   rw [elems_cutN h4 hc hno q n t (by omega), List.append_assoc]
  | some x =>
   simp only []
   obtain ⟨g1, g2, g3, _⟩ := longestR_some hl
   have hb := (longerR_len cls rows ((r :: t).drop x.f0.length) x 0 []).1
   have hlen : ((r :: t).drop x.f0.length).length ≤ t.length := by rw [List.length_drop, List.length_cons]; omega
   simp only [List.length_nil] at hb
   have hd : (r :: (t ++ x0 :: q)).drop x.f0.length = (r :: t).drop x.f0.length ++ x0 :: q := by
    rw [← List.cons_append, List.drop_append_of_le_length g3]
   rw [hd, longerR_cut hc]
   simp only []
   rw [elems_cutN h4 hc hno q n _ (by omega), List.append_assoc]
theorem elems_cut (h4 : ∀ x ∈ rows, 1 ≤ x.f0.length ∧ x.f1.length ≤ 4) (hc : cls x0 = 0) (hno : ∀ x ∈ rows, ∀ r ∈ x.f0, r ≠ x0) (p q : List Int) : elemsN cls rows (p ++ x0 :: q).length (p ++ x0 :: q) = elemsN cls rows p.length p ++ (impliedL x0 ++ elemsN cls rows q.length q) := by
 have h := elems_cutN h4 hc hno q p.length p (Nat.le_refl _)
 rw [List.length_append, List.length_cons]
 exact h
end
theorem mayB_stop : mayB 19968 = true := rfl
theorem implied_stop : weigh_Implied.f 19968 = some (64004, 32, 2, 63973, 0, 0) := by unfold weigh_Implied.f wrap64 wrap32; decide
theorem impliedL_stop : impliedL 19968 = [⟨64004, 32, 2⟩, ⟨63973, 0, 0⟩] := by
 have e1 : wrap64 (64000 + (wrap64 (wrap32 (Int.tdiv 19968 3999)))) = 64004 := by unfold wrap64 wrap32; decide
 have e2 : wrap64 (60001 + (wrap64 (Int.tmod 19968 3999))) = 63973 := by unfold wrap64; decide
 unfold impliedL
 rw [e1, e2]
theorem rdE_app (A B : List S39) (j : Nat) : rd_T39 (A ++ B) ((A.length + j : Nat) : Int) = B.getD j z39 := by
 unfold rd_T39
 rw [Int.toNat_natCast, List.getD_eq_getElem?_getD, List.getElem?_append_right (by omega), Nat.add_sub_cancel_left, List.getD_eq_getElem?_getD]
theorem parts_body {l : List S42} {rows : List S44} {top : Int} {sh : Bool} (hm : weigh_May.f l rows top sh = some true) (hv : loreV l = true) (hmr : mayR l rows = true) (hl64 : l.length ≤ 100) (a b : List Int) (ha : a.length ≤ 200) (hb : b.length ≤ 200) (hno : ∀ x ∈ rows, ∀ r ∈ x.f0, r ≠ 19968) (hlo : ∀ x ∈ l, x.f0 ≠ 19968) (k : Nat) (hk : 1000000 ≤ k) :
  ((weigh_Elements.f l rows top sh a).bind fun bt180 => ((weigh_Elements.f l rows top sh b).bind fun bt184 => ((some (([] : List Int) : List Int)).bind fun y188 => (if y188.length + a.length < 35184372088832 then ((some (y188 ++ a : List Int)).bind fun y191 => ((some (([19968] : List Int) : List Int)).bind fun y194 => (if y191.length + y194.length < 35184372088832 then ((some (y191 ++ y194 : List Int)).bind fun y197 => (if y197.length + b.length < 35184372088832 then ((weigh_Elements.f l rows top sh (y197 ++ b)).bind fun bt203 => (if bt180.2 = 0 then (gazetteerlaw3_parts.j4 k 19968 bt180.1 bt184.1 bt203.1 bt203.2 (bt184.2 != 0)) else (gazetteerlaw3_parts.j4 k 19968 bt180.1 bt184.1 bt203.1 bt203.2 true))) else (none))) else (none)))) else (none))))) = some true := by
 have hz : ([] ++ a ++ [19968] ++ b : List Int) = a ++ 19968 :: b := by simp
 have la := apart_len l 3 (by omega) (lore_to_len hv) a
 have lb := apart_len l 3 (by omega) (lore_to_len hv) b
 have hcl : clsOf l 19968 = 0 := by unfold clsOf; rw [row_none hlo]; rfl
 have hpc : pieceOf l 19968 = [19968] := by unfold pieceOf; rw [row_none hlo]; rfl
 have hap : apartL l (a ++ 19968 :: b) = apartL l a ++ 19968 :: apartL l b := by
  unfold apartL; rw [List.flatMap_append, List.flatMap_cons, hpc]; rfl
 have hord : orderL l (apartL l (a ++ 19968 :: b)) = orderL l (apartL l a) ++ 19968 :: orderL l (apartL l b) := by
  rw [hap]; unfold orderL; rw [ordA_stop (by omega)]
 have oa := order_len l (apartL l a)
 have ob := order_len l (apartL l b)
 have ea := elements_val hm hv (s := a) (by omega) (by omega) (by omega)
 have eb := elements_val hm hv (s := b) (by omega) (by omega) (by omega)
 have ez := elements_val hm hv (s := a ++ 19968 :: b) (by simp only [List.length_append, List.length_cons]; omega) (by rw [hap]; simp only [List.length_append, List.length_cons]; omega) (by omega)
 rw [hord] at ez
 obtain ⟨k, rfl⟩ : ∃ j, k = j + 1 := ⟨k - 1, by omega⟩
 refine bindE ea (bindE eb ?_)
 refine bindE rfl (iteT (by simp; omega) (bindE rfl (bindE rfl (iteT (by simp; omega) (bindE rfl (iteT (by simp; omega) ?_))))))
 rw [hz]
 refine bindE ez ?_
 have hall : (a ++ 19968 :: b).all mayB = (a.all mayB && b.all mayB) := by
  rw [List.all_append, List.all_cons, mayB_stop, Bool.true_and]
 rw [hall]
 cases hA : a.all mayB with
 | false => rfl
 | true =>
 cases hB : b.all mayB with
 | false => rfl
 | true =>
 obtain ⟨n1, hn1⟩ : ∃ n, n = orderL l (apartL l a) := ⟨_, rfl⟩
 obtain ⟨n2, hn2⟩ : ∃ n, n = orderL l (apartL l b) := ⟨_, rfl⟩
 rw [← hn1, ← hn2]
 rw [← hn1] at oa
 rw [← hn2] at ob
 simp only [Bool.and_true, if_true]
 have h4 := rows_four hmr
 have hcut := elems_cut (cls := clsOf l) h4 hcl hno n1 n2
 rw [hcut, impliedL_stop]
 have hE1 := elemsN_len (clsOf l) rows h4 n1.length n1 (Nat.le_refl _)
 have hE2 := elemsN_len (clsOf l) rows h4 n2.length n2 (Nat.le_refl _)
 obtain ⟨X, hX⟩ : ∃ X, X = elemsN (clsOf l) rows n1.length n1 := ⟨_, rfl⟩
 obtain ⟨Y, hY⟩ : ∃ Y, Y = elemsN (clsOf l) rows n2.length n2 := ⟨_, rfl⟩
 rw [← hX] at hE1 ⊢
 rw [← hY] at hE2 ⊢
 simp only [gazetteerlaw3_parts.j4]
 refine iteF (by simp) (bindE implied_stop (iteT (by first | rfl | trivial) ?_))
 obtain ⟨k, rfl⟩ : ∃ j, k = j + 1 := ⟨k - 1, by omega⟩
 simp only [gazetteerlaw3_parts.j5]
 have hlen : ((X ++ (([⟨64004, 32, 2⟩, ⟨63973, 0, 0⟩] : List S39) ++ Y)).length : Int) = (X.length : Int) + 2 + (Y.length : Int) := by
  simp only [List.length_append, List.length_cons, List.length_nil]; omega
 rw [hlen, wr ((X.length : Int) + 2) (by omega) (by omega), wr _ (by omega) (by omega)]
 refine iteF (by simp) (bindE awake3 (iteT rfl (iteT (by omega) (iteT (by omega) ?_))))
 rw [Int.toNat_natCast, List.take_left']
 ·
  refine bindE (same3_rfl X (by omega) k (by omega)) (iteT rfl (iteT (by omega) ?_))
  have e0 := rdE_app X (([⟨64004, 32, 2⟩, ⟨63973, 0, 0⟩] : List S39) ++ Y) 0
  have e1 := rdE_app X (([⟨64004, 32, 2⟩, ⟨63973, 0, 0⟩] : List S39) ++ Y) 1
  rw [Nat.add_zero] at e0
  rw [wr ((X.length : Int) + 1) (by omega) (by omega)]
  rw [show ((X.length + 1 : Nat) : Int) = (X.length : Int) + 1 by omega] at e1
  rw [e0, e1]
  exact iteT rfl (iteT (by omega) (iteT (by omega) rfl))
 ·
  rfl
theorem parts_l2 (l : List S42) (rows : List S44) (top : Int) (sh : Bool) (a b : List Int) (hl : l.length ≤ 1000) (B : Nat)
  (H : (∀ x ∈ l, x.f0 ≠ 19968) → ∀ k, B ≤ k → ((weigh_Elements.f l rows top sh a).bind fun bt180 => ((weigh_Elements.f l rows top sh b).bind fun bt184 => ((some (([] : List Int) : List Int)).bind fun y188 => (if y188.length + a.length < 35184372088832 then ((some (y188 ++ a : List Int)).bind fun y191 => ((some (([19968] : List Int) : List Int)).bind fun y194 => (if y191.length + y194.length < 35184372088832 then ((some (y191 ++ y194 : List Int)).bind fun y197 => (if y197.length + b.length < 35184372088832 then ((weigh_Elements.f l rows top sh (y197 ++ b)).bind fun bt203 => (if bt180.2 = 0 then (gazetteerlaw3_parts.j4 k 19968 bt180.1 bt184.1 bt203.1 bt203.2 (bt184.2 != 0)) else (gazetteerlaw3_parts.j4 k 19968 bt180.1 bt184.1 bt203.1 bt203.2 true))) else (none))) else (none)))) else (none))))) = some true) (d : Nat) :
  ∀ (k i : Nat), i ≤ l.length → l.length - i = d → B + d < k → (∀ j (h : j < l.length), j < i → l[j].f0 ≠ 19968) → gazetteerlaw3_parts.l2 k a b 19968 (i : Int) l rows top sh = some true := by
 induction d with
 | zero =>
  intro k i hi hd hk hj
  obtain ⟨k, rfl⟩ : ∃ j, k = j + 1 := ⟨k - 1, by omega⟩
  simp only [gazetteerlaw3_parts.l2]
  refine iteF (by omega) ?_
  exact H (fun x hx => by obtain ⟨j, h, rfl⟩ := List.getElem_of_mem hx; exact hj j h (by omega)) k (by omega)
 | succ d ih =>
  intro k i hi hd hk hj
  obtain ⟨k, rfl⟩ : ∃ j, k = j + 1 := ⟨k - 1, by omega⟩
  have hlt : i < l.length := by omega
  simp only [gazetteerlaw3_parts.l2]
  refine iteT (by omega) (iteT (by omega) ?_)
  rw [rdT_at l i hlt]
  by_cases h : l[i].f0 = 19968
  ·
   exact iteT h (bindE awake3 rfl)
  ·
   refine iteF h ?_
   rw [wr ((i : Int) + 1) (by omega) (by omega), show ((i : Int) + 1) = ((i + 1 : Nat) : Int) by omega]
   exact ih k (i + 1) (by omega) (by omega) (by omega) (fun j h1 h2 => by rcases Nat.lt_succ_iff_lt_or_eq.1 h2 with h3 | rfl; exact hj j h1 h3; exact h)
theorem parts_l1 (l : List S42) (rows : List S44) (top : Int) (sh : Bool) (a b : List Int) (i : Nat) (hi : i < rows.length) (hrl : rows.length ≤ 1000) (hf : (rows.getD i z44).f0.length ≤ 1000) (B : Nat)
  (H : (∀ r ∈ (rows.getD i z44).f0, r ≠ 19968) → ∀ k, B ≤ k → gazetteerlaw3_parts.l0 k a b 19968 ((i + 1 : Nat) : Int) l rows top sh = some true) (d : Nat) :
  ∀ (k j : Nat), j ≤ (rows.getD i z44).f0.length → (rows.getD i z44).f0.length - j = d → B + d < k → (∀ q (h : q < (rows.getD i z44).f0.length), q < j → (rows.getD i z44).f0[q] ≠ 19968) → gazetteerlaw3_parts.l1 k a b 19968 (i : Int) (j : Int) l rows top sh = some true := by
 induction d with
 | zero =>
  intro k j hj hd hk hq
  obtain ⟨k, rfl⟩ : ∃ j, k = j + 1 := ⟨k - 1, by omega⟩
  simp only [gazetteerlaw3_parts.l1]
  rw [rdT44_getD]
  refine iteT (by omega) (iteT (by omega) (iteF (by omega) ?_))
  rw [wr ((i : Int) + 1) (by omega) (by omega), show ((i : Int) + 1) = ((i + 1 : Nat) : Int) by omega]
  exact H (fun r hr => by obtain ⟨q, h, rfl⟩ := List.getElem_of_mem hr; exact hq q h (by omega)) k (by omega)
 | succ d ih =>
  intro k j hj hd hk hq
  obtain ⟨k, rfl⟩ : ∃ j, k = j + 1 := ⟨k - 1, by omega⟩
  have hlt : j < (rows.getD i z44).f0.length := by omega
  simp only [gazetteerlaw3_parts.l1]
  rw [rdT44_getD]
  refine iteT (by omega) (iteT (by omega) (iteT (by omega) (iteT (by omega) ?_)))
  rw [rd_at _ j hlt]
  by_cases h : (rows.getD i z44).f0[j] = 19968
  ·
   exact iteT h (bindE awake3 rfl)
  ·
   refine iteF h ?_
   rw [wr ((j : Int) + 1) (by omega) (by omega), show ((j : Int) + 1) = ((j + 1 : Nat) : Int) by omega]
   exact ih k (j + 1) (by omega) (by omega) (by omega) (fun q h1 h2 => by rcases Nat.lt_succ_iff_lt_or_eq.1 h2 with h3 | rfl; exact hq q h1 h3; exact h)
theorem parts_l0 (l : List S42) (rows : List S44) (top : Int) (sh : Bool) (a b : List Int) (hrl : rows.length ≤ 1000) (hf : ∀ i < rows.length, (rows.getD i z44).f0.length ≤ 1000) (M : Nat) (hM : 1005 ≤ M) (B : Nat)
  (H : (∀ x ∈ rows, ∀ r ∈ x.f0, r ≠ 19968) → ∀ k, B ≤ k → gazetteerlaw3_parts.l2 k a b 19968 0 l rows top sh = some true) (d : Nat) :
  ∀ (k i : Nat), i ≤ rows.length → rows.length - i = d → B + d * M < k → (∀ j < i, ∀ r ∈ (rows.getD j z44).f0, r ≠ 19968) → gazetteerlaw3_parts.l0 k a b 19968 (i : Int) l rows top sh = some true := by
 induction d with
 | zero =>
  intro k i hi hd hk hj
  obtain ⟨k, rfl⟩ : ∃ j, k = j + 1 := ⟨k - 1, by omega⟩
  simp only [gazetteerlaw3_parts.l0]
  refine iteF (by omega) ?_
  exact H (fun x hx => by
   obtain ⟨j, h, rfl⟩ := List.getElem_of_mem hx
   have := hj j (by omega)
   rwa [List.getD_eq_getElem?_getD, List.getElem?_eq_getElem h] at this) k (by omega)
 | succ d ih =>
  intro k i hi hd hk hj
  obtain ⟨k, rfl⟩ : ∃ j, k = j + 1 := ⟨k - 1, by omega⟩
  have hlt : i < rows.length := by omega
  simp only [gazetteerlaw3_parts.l0]
  refine iteT (by omega) ?_
  rw [Nat.succ_mul] at hk
  obtain ⟨q, hq⟩ : ∃ q, q = d * M := ⟨_, rfl⟩
  rw [← hq] at hk ih
  have hfi := hf i hlt
  have h2 : ∀ k', B + q + 1 ≤ k' → (∀ r ∈ (rows.getD i z44).f0, r ≠ 19968) → gazetteerlaw3_parts.l0 k' a b 19968 ((i + 1 : Nat) : Int) l rows top sh = some true := fun k' hk' h => ih k' (i + 1) (by omega) (by omega) (by omega) (fun j h2 => by rcases Nat.lt_succ_iff_lt_or_eq.1 h2 with h3 | rfl; exact hj j h3; exact h)
  exact parts_l1 l rows top sh a b i hlt hrl hfi (B + q + 1) (fun h k' hk' => h2 k' hk' h) (rows.getD i z44).f0.length k 0 (Nat.zero_le _) (Nat.sub_zero _) (by omega) (fun q _ h => absurd h (by omega))
theorem WeighParts : gazetteerlaw3_WeighParts.Pure := by
 intro l rows top sh a b h0 h1 h2 h3 h4
 obtain ⟨K, hK⟩ : ∃ K, K = l.length + rows.length + 2000000000000 := ⟨_, rfl⟩
 refine ⟨K + 1, ?_⟩
 unfold gazetteerlaw3_WeighParts.f
 refine bindE awake3 (iteT rfl ?_)
 refine bindE (a := true) ?_ rfl
 unfold gazetteerlaw3_parts.f
 obtain ⟨b1, e1, f1⟩ := few3_ok l rows top sh a (by omega) (by omega) (K + 1) (by omega)
 obtain ⟨b2, e2, f2⟩ := few3_ok l rows top sh b (by omega) (by omega) (K + 1) (by omega)
 refine bindE e1 ?_
 cases b1 with
 | false => rfl
 | true =>
 refine iteT rfl (bindE e2 ?_)
 cases b2 with
 | false => rfl
 | true =>
 obtain ⟨g1, g2, g3⟩ := f1 rfl
 obtain ⟨_, _, g4⟩ := f2 rfl
 obtain ⟨b3, e3⟩ := table_ok l rows top sh
 refine iteT rfl (bindE e3 ?_)
 cases b3 with
 | false => rfl
 | true =>
 obtain ⟨m1, m2, m3, m4, m5⟩ := tmay_may e3
 simp only [gazetteerlaw3_parts.j0]
 refine iteF (by simp) ?_
 refine parts_l0 l rows top sh a b (by omega) (fun i hi => by obtain ⟨⟨_, q, _⟩, _⟩ := row_parts (m4 i hi); omega) 2000 (by omega) 2000000 (fun hno k hk => ?_) rows.length K 0 (by omega) (by omega) (by omega) (fun j h => absurd h (by omega))
 exact parts_l2 l rows top sh a b (by omega) 1000000 (fun hlo k hk => parts_body m1 m2 m5 (by omega) a b (by omega) (by omega) hno hlo k hk) l.length k 0 (by omega) (by omega) (by omega) (fun j _ h => absurd h (by omega))
end Go.Proofs.Ytfagobhhhljajaa.Pure

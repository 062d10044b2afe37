/- WeighNormal, the plain law over the printed functions. No condition. -/
import Derived.Test.YtfagobhhhljajaaPWeighNormaly
namespace Go.Proofs.Ytfagobhhhljajaa.Pure
set_option linter.unusedVariables false
set_option linter.unusedSimpArgs false
open Go.RowKit Go.Proofs.Ytfagobhhhljajaa.PWeighNormal Go.Proofs.YtfagobhhhljajaaW.PrintWords Go.Proofs.YtfagobhhhljajaaW.PrintLast Go.Proofs.YtfagobhhhljajaaW.PrintMore Go.Proofs.YtfagobhhhljajaaW.PrintSort
theorem wr (x : Int) (h0 : -9223372036854775808 ≤ x) (h1 : x ≤ 9223372036854775807) : wrap64 x = x := by
 unfold wrap64; omega
theorem rd_at (l : List Int) (i : Nat) (h : i < l.length) : rd l (i : Int) = l[i] := by
 unfold rd; simp [List.getD, h]
theorem rdT_at (l : List S42) (i : Nat) (h : i < l.length) : rd_T42 l (i : Int) = l[i] := by
 unfold rd_T42; simp [List.getD, h]
theorem drop_at {α : Type} (l : List α) (i : Nat) (h : i < l.length) : l.drop i = l[i] :: l.drop (i + 1) := (List.drop_eq_getElem_cons h)
/-! ### lore -/
theorem may_k (a : Int) (k : Nat) (hk : 1 ≤ k) : scalar_May.f k a = some (mayB a) := by
 obtain ⟨k, rfl⟩ : ∃ j, k = j + 1 := ⟨k - 1, by omega⟩
 unfold scalar_May.f utf8_ValidRune.f mayB
 by_cases h0 : 0 ≤ a
 ·
  by_cases h1 : a < 55296
  ·
   simp [utf8_ValidRune.j0, h0, h1]
  ·
   by_cases h2 : 57343 < a
   ·
    by_cases h3 : a ≤ 1114111 <;> simp [utf8_ValidRune.j0, h0, h1, h2, h3]
   ·
    simp [utf8_ValidRune.j0, h0, h1, h2]
 ·
  have h2 : ¬ 57343 < a := by omega
  simp [utf8_ValidRune.j0, h0, h2]
theorem rises_l (l : List S42) (hl : l.length ≤ 64) (d : Nat) : ∀ (k i : Nat), i ≤ l.length → l.length - i = d → d + 1 < k → ∃ b, lore_rises.l0 k l l (l.length : Int) (i : Int) = some b := by
 induction d with
 | zero =>
  intro k i hi hd hk
  obtain ⟨k, rfl⟩ : ∃ j, k = j + 1 := ⟨k - 1, by omega⟩
  simp only [lore_rises.l0]
  rw [if_neg (by omega)]
  exact ⟨_, rfl⟩
 | succ d ih =>
  intro k i hi hd hk
  obtain ⟨k, rfl⟩ : ∃ j, k = j + 1 := ⟨k - 1, by omega⟩
  simp only [lore_rises.l0]
  rw [if_pos (by omega), if_pos (by omega), if_pos (by omega), may_k _ k (by omega), Option.bind_some, wr ((i : Int) + 1) (by omega) (by omega), show ((i : Int) + 1) = ((i + 1 : Nat) : Int) by omega]
  obtain ⟨b, hb⟩ := ih k (i + 1) (by omega) (by omega) (by omega)
  rw [hb]
  by_cases h1 : mayB (rd_T42 l (i : Int)).f0 = true
  ·
   rw [if_pos h1]
   by_cases h2 : (i : Int) > 0
   ·
    rw [if_pos h2, wr ((i : Int) - 1) (by omega) (by omega), if_pos (by omega), if_pos (by omega)]
    split
    ·
     exact ⟨_, rfl⟩
    ·
     exact ⟨_, rfl⟩
   ·
    rw [if_neg h2]; exact ⟨_, rfl⟩
  ·
   rw [if_neg h1]; exact ⟨_, rfl⟩
theorem may_some (l : List S42) : ∃ b, lore_May.f l = some b ∧ (b = true → l.length ≤ 64 ∧ ∀ x ∈ l, oneB l x.f1 x.f2 = true) := by
 unfold lore_May.f
 by_cases h : (l.length : Int) > 64
 ·
  rw [if_pos h]; exact ⟨false, rfl, fun h => by cases h⟩
 ·
  rw [if_neg h]
  obtain ⟨t, ht⟩ := rises_l l (by omega) l.length 1000 0 (by omega) (by omega) (by omega)
  unfold lore_rises.f
  refine ⟨t && l.all (fun x => oneB l x.f1 x.f2), bindE ht rfl, fun hb => ⟨by omega, ?_⟩⟩
  rw [Bool.and_eq_true] at hb
  exact List.all_eq_true.1 hb.2
theorem firstAt_cases (l : List S42) (r : Int) : (firstAt (fun s : S42 => s.f0 == r) l = -1 ∧ ∀ s ∈ l, s.f0 ≠ r) ∨ ∃ (i : Nat) (h : i < l.length), firstAt (fun s : S42 => s.f0 == r) l = (i : Int) ∧ l[i].f0 = r := by
 unfold firstAt
 cases h : l.findIdx? (fun s : S42 => s.f0 == r) with
 | none => exact .inl ⟨rfl, fun s hs e => by have := List.findIdx?_eq_none_iff.1 h s hs; simp [e] at this⟩
 | some i =>
  obtain ⟨hi, hp, _⟩ := List.findIdx?_eq_some_iff_getElem.1 h
  exact .inr ⟨i, hi, rfl, by simpa using hp⟩
theorem row_cases (l : List S42) (r : Int) : rowOf l r = z42 ∨ rowOf l r ∈ l := by
 unfold rowOf
 rcases firstAt_cases l r with ⟨h, _⟩ | ⟨i, hi, h, _⟩
 ·
  rw [h]; exact .inl rfl
 ·
  rw [h, if_neg (by omega), rdT_at l i hi]; exact .inr (List.getElem_mem hi)
theorem piece_len (l : List S42) (r : Int) (m : Nat) (hm : 1 ≤ m) (h : ∀ x ∈ l, x.f2.length ≤ m) : (pieceOf l r).length ≤ m := by
 unfold pieceOf
 split
 ·
  simpa using hm
 ·
  rcases row_cases l r with e | e
  ·
   rw [e]; simp [z42]
  ·
   exact h _ e
theorem apart_len (l : List S42) (m : Nat) (hm : 1 ≤ m) (h : ∀ x ∈ l, x.f2.length ≤ m) : ∀ s : List Int, (apartL l s).length ≤ m * s.length
 | [] => by simp [apartL]
 | r :: s => by
  have h1 := apart_len l m hm h s
  have h2 := piece_len l r m hm h
  unfold apartL at h1 ⊢
  rw [List.flatMap_cons, List.length_append, List.length_cons, Nat.mul_add]
  omega
theorem order_len (l : List S42) (s : List Int) : (orderL l s).length = s.length := by
 unfold orderL; rw [Go.Proofs.YtfagobhhhljajaaW.PrintSort.ordA_len]; simp
theorem order_ok (l : List S42) (hl : l.length ≤ 1000000) (s : List Int) (hs : s.length ≤ 35184372088832) : lore_Order.f l s = some (orderL l s) := by
 unfold lore_Order.f; rw [if_pos ⟨by omega, hs⟩]
theorem apart_ok (l : List S42) (hl : l.length ≤ 1000000) (s : List Int) (hs : s.length ≤ 1000000) (ha : (apartL l s).length < 35184372088832) : lore_Apart.f l s = some (apartL l s) := by
 unfold lore_Apart.f; rw [if_pos ⟨by omega, by omega, ha⟩]
theorem class_ok (l : List S42) (hl : l.length ≤ 1000000) (r : Int) : lore_Class.f l r = some (clsOf l r) := by
 unfold lore_Class.f clsOf; rw [if_pos (by omega)]
theorem normal_ok (l : List S42) (s : List Int) (hl : l.length ≤ 1000000) (hs : s.length ≤ 1000000) (ha : (apartL l s).length < 35184372088832) :
  ∃ n e, lore_Normal.f l s = some (n, e) ∧ (e = 0 → lore_May.f l = some true ∧ (∀ r ∈ s, mayB r = true) ∧ n = orderL l (apartL l s)) := by
 obtain ⟨b, hb, hb2⟩ := may_some l
 unfold lore_Normal.f
 rw [hb, Option.bind_some]
 cases b with
 | false => exact ⟨[], 4, rfl, fun h => by cases h⟩
 | true =>
  rw [if_pos rfl]
  unfold slices_ContainsFunc_rune_rune.f
  rw [if_pos (by omega), Option.bind_some]
  cases hany : s.any (fun r => !mayB r) with
  | true => exact ⟨[], 2, rfl, fun h => by cases h⟩
  | false =>
   refine ⟨orderL l (apartL l s), 0, ?_, fun _ => ⟨rfl, fun r hr => ?_, rfl⟩⟩
   ·
    rw [if_neg (by simp)]
    refine bindE (apart_ok l hl s hs ha) ?_
    refine bindE (order_ok l hl _ (Nat.le_of_lt ha)) ?_
    rfl
   ·
    have := List.any_eq_false.1 hany r hr
    simpa using this
theorem normal_of (l : List S42) (s : List Int) (hl : l.length ≤ 1000000) (hs : s.length ≤ 1000000) (ha : (apartL l s).length < 35184372088832) (h1 : lore_May.f l = some true) (h2 : ∀ r ∈ s, mayB r = true) :
  lore_Normal.f l s = some (orderL l (apartL l s), 0) := by
 unfold lore_Normal.f slices_ContainsFunc_rune_rune.f
 have hany : s.any (fun r => !mayB r) = false := List.any_eq_false.2 (fun r hr => by simp [h2 r hr])
 rw [h1, Option.bind_some, if_pos rfl, if_pos (by omega), Option.bind_some, hany, if_neg (by simp)]
 refine bindE (apart_ok l hl s hs ha) ?_
 refine bindE (order_ok l hl _ (Nat.le_of_lt ha)) ?_
 rfl
/-! ### rows in order -/
/-- No number stands ahead of one of a smaller positive key. -/
def Adj (k : Int → Int) : List Int → Prop
 | [] => True
 | [_] => True
 | a :: b :: t => (0 < k b → k a ≤ k b) ∧ Adj k (b :: t)
section
variable {k : Int → Int}
theorem adj_srt : ∀ {l : List Int}, Srt k l → Adj k l
 | [], _ => trivial
 | [_], _ => trivial
 | a :: b :: t, h => by
  have h' := List.pairwise_cons.1 h
  exact ⟨fun _ => h'.1 b (by simp), adj_srt h'.2⟩
theorem adj_join {x : Int} {t : List Int} (hx : ¬ 0 < k x) (h : Adj k (x :: t)) : ∀ {l : List Int}, Adj k l → Adj k (l ++ x :: t)
 | [], _ => h
 | [a], _ => ⟨fun q => absurd q hx, h⟩
 | a :: b :: l, h2 => ⟨h2.1, adj_join hx h (l := b :: l) h2.2⟩
theorem adj_cons0 {x : Int} {t : List Int} (hx : ¬ 0 < k x) (h : Adj k t) : Adj k (x :: t) := by
 cases t with
 | nil => trivial
 | cons b t => exact ⟨fun _ => by omega, h⟩
theorem ordA_adj : ∀ (s acc : List Int), Srt k acc → Adj k (ordA k acc s)
 | [], acc, h => adj_srt h
 | x :: t, acc, h => by
  unfold ordA
  split
  ·
   exact ordA_adj t _ (insR_srt h)
  ·
   rename_i hx
   exact adj_join hx (adj_cons0 hx (ordA_adj t [] List.Pairwise.nil)) (adj_srt h)
theorem insR_perm {x : Int} : ∀ l : List Int, (insR k x l).Perm (x :: l)
 | [] => List.Perm.refl _
 | y :: t => by
  unfold insR
  split
  ·
   exact List.Perm.refl _
  ·
   exact ((insR_perm t).cons y).trans (List.Perm.swap x y t)
theorem ordA_perm : ∀ (s acc : List Int), (ordA k acc s).Perm (acc ++ s)
 | [], acc => by simp [ordA]
 | x :: t, acc => by
  unfold ordA
  split
  ·
   exact (ordA_perm t _).trans (((insR_perm acc).append_right t).trans List.perm_middle.symm)
  ·
   exact List.Perm.append_left acc ((ordA_perm t []).cons x)
theorem insR_last {x : Int} : ∀ {l : List Int}, (∀ y ∈ l, k y ≤ k x) → insR k x l = l ++ [x]
 | [], _ => rfl
 | y :: t, h => by
  unfold insR
  rw [if_neg (by have := h y (by simp); omega), insR_last (fun z hz => h z (by simp [hz]))]
  rfl
theorem adj_last {x : Int} {t : List Int} (hp : 0 < k x) : ∀ {l : List Int}, Srt k l → Adj k (l ++ x :: t) → ∀ y ∈ l, k y ≤ k x
 | [], _, _, y, hy => by cases hy
 | [a], _, h, y, hy => by
  rw [List.mem_singleton] at hy
  subst hy
  exact h.1 hp
 | a :: b :: l, hs, h, y, hy => by
  have hs' := List.pairwise_cons.1 hs
  have h1 := adj_last hp (l := b :: l) hs'.2 h.2
  rcases List.mem_cons.1 hy with rfl | hy
  ·
   exact Int.le_trans (hs'.1 b (by simp)) (h1 b (by simp))
  ·
   exact h1 y hy
theorem adj_tail : ∀ {l m : List Int}, Adj k (l ++ m) → Adj k m
 | [], _, h => h
 | [a], [], _ => trivial
 | [a], b :: m, h => h.2
 | a :: b :: l, m, h => adj_tail (l := b :: l) h.2
theorem ordA_fix : ∀ (t acc : List Int), Srt k acc → Adj k (acc ++ t) → ordA k acc t = acc ++ t
 | [], acc, _, _ => by simp [ordA]
 | x :: t, acc, h, ha => by
  unfold ordA
  split
  ·
   rename_i hp
   have hle := adj_last hp h ha
   rw [insR_last hle, ordA_fix t (acc ++ [x]) (List.pairwise_append.2 ⟨h, by simp, fun y hy z hz => by rw [List.mem_singleton] at hz; subst hz; exact hle y hy⟩) (by rw [List.append_assoc]; exact ha)]
   simp
  ·
   rw [ordA_fix t [] List.Pairwise.nil (adj_tail (l := acc ++ [x]) (by rw [List.append_assoc]; exact ha))]
   rfl
theorem adj_at : ∀ (l : List Int) (i : Nat) (h : i + 1 < l.length), Adj k l → 0 < k l[i + 1] → k (l[i]'(by omega)) ≤ k l[i + 1]
 | [], _, h, _, _ => by simp at h
 | [_], _, h, _, _ => by simp at h
 | a :: b :: t, 0, _, h, hp => h.1 hp
 | a :: b :: t, i + 1, hi, h, hp => adj_at (b :: t) i (by simp at hi ⊢; omega) h.2 hp
end
/-! ### the reference's lore -/
theorem rclass_ok (l : List S42) (hl : l.length ≤ 1000000) (r : Int) (k : Nat) (hk : l.length < k) : gazetteerref1_Class.f k l r = some (clsOf l r) := by
 unfold gazetteerref1_Class.f gazetteerref1_find.f clsOf rowOf
 have h0 : gazetteerref1_find.l0 k l r 0 = some (firstAt (fun s : S42 => s.f0 == r) l) := rfind_l l hl r l.length k 0 (by omega) (by omega) hk (fun j h => absurd h (by omega))
 rw [h0, Option.bind_some]
 have hlt := firstAt_lt (fun s : S42 => s.f0 == r) l
 split
 ·
  rfl
 ·
  rw [if_pos (by omega), if_pos hlt.1]
theorem rorder_ok (l : List S42) (hl : l.length ≤ 1000000) (s : List Int) (hs : s.length ≤ 1000000) : gazetteerref1_Order.f l s = some (orderL l s) := by
 unfold gazetteerref1_Order.f
 rw [if_pos ⟨hl, hs⟩]
theorem rapart_l (l : List S42) (hl : l.length ≤ 1000000) (s : List Int) (hs : s.length ≤ 1000000) (hx : ∀ x ∈ l, x.f2.length ≤ 1000000) (d : Nat) : ∀ (k i : Nat) (acc : List Int), i ≤ s.length → s.length - i = d → l.length + d + 1 < k → acc.length ≤ 1000000 * i →
  gazetteerref1_Apart.l0 k l s acc (i : Int) = some (acc ++ apartL l (s.drop i)) := by
 induction d with
 | zero =>
  intro k i acc hi hd hk ha
  obtain ⟨k, rfl⟩ : ∃ j, k = j + 1 := ⟨k - 1, by omega⟩
  simp only [gazetteerref1_Apart.l0]
  rw [if_neg (by omega), List.drop_eq_nil_of_le (by omega)]
  simp [apartL]
 | succ d ih =>
  intro k i acc hi hd hk ha
  obtain ⟨k, rfl⟩ : ∃ j, k = j + 1 := ⟨k - 1, by omega⟩
  have hlt : i < s.length := by omega
  simp only [gazetteerref1_Apart.l0]
  rw [if_pos (by omega), if_pos (by omega), rd_at s i hlt]
  unfold gazetteerref1_find.f
  have h0 : gazetteerref1_find.l0 k l s[i] 0 = some (firstAt (fun q : S42 => q.f0 == s[i]) l) := rfind_l l hl s[i] l.length k 0 (by omega) (by omega) (by omega) (fun j h => absurd h (by omega))
  rw [h0, Option.bind_some, wr ((i : Int) + 1) (by omega) (by omega), show ((i : Int) + 1) = ((i + 1 : Nat) : Int) by omega]
  have hb := firstAt_lt (fun q : S42 => q.f0 == s[i]) l
  have hpl := piece_len l s[i] 1000000 (by omega) hx
  have hacc : acc.length < 35184372088832 - 1000000 := by have := Nat.mul_le_mul_left 1000000 hi; omega
  have hstep : ∀ p, p = pieceOf l s[i] → gazetteerref1_Apart.l0 k l s (acc ++ p) ((i + 1 : Nat) : Int) = some (acc ++ apartL l (s.drop i)) := fun p hp => by
   rw [ih k (i + 1) (acc ++ p) (by omega) (by omega) (by omega) (by rw [List.length_append, hp]; omega), List.drop_eq_getElem_cons hlt, hp]
   unfold apartL
   rw [List.flatMap_cons, List.append_assoc]
  by_cases h0 : firstAt (fun q : S42 => q.f0 == s[i]) l ≥ 0
  ·
   have hrow : rowOf l s[i] = rd_T42 l (firstAt (fun q : S42 => q.f0 == s[i]) l) := by unfold rowOf; rw [if_neg (by omega)]
   rw [if_pos h0, if_pos (by omega), if_pos hb.1, ← hrow]
   by_cases h1 : ((rowOf l s[i]).f2.length : Int) > 0
   ·
    have hp : (rowOf l s[i]).f2 = pieceOf l s[i] := by unfold pieceOf; rw [if_neg (by omega)]
    rw [if_pos h1, if_pos (by rw [hp]; omega)]
    exact hstep _ hp
   ·
    rw [if_neg h1, if_pos (by omega)]
    exact hstep _ (by unfold pieceOf; rw [if_pos (by omega)])
  ·
   rw [if_neg h0, if_pos (by omega)]
   have hz : rowOf l s[i] = z42 := by unfold rowOf; rw [if_pos (by omega)]
   exact hstep _ (by unfold pieceOf; rw [hz]; rfl)
theorem rapart_ok (l : List S42) (hl : l.length ≤ 1000000) (s : List Int) (hs : s.length ≤ 1000000) (hx : ∀ x ∈ l, x.f2.length ≤ 1000000) (k : Nat) (hk : l.length + s.length + 1 < k) : gazetteerref1_Apart.f k l s = some (apartL l s) := by
 unfold gazetteerref1_Apart.f
 have h := rapart_l l hl s hs hx s.length k 0 [] (by omega) (by omega) hk (by simp)
 simpa using h
/-! ### a lore that may be -/
def riseB (l : List S42) (i : Nat) : Bool := mayB (l.getD i z42).f0 && !(decide (0 < i) && decide ((l.getD i z42).f0 ≤ (l.getD (i - 1) z42).f0))
theorem rdT_getD (l : List S42) (i : Nat) : rd_T42 l (i : Int) = l.getD i z42 := by unfold rd_T42; rw [Int.toNat_natCast]
theorem rises_l2 (l : List S42) (hl : l.length ≤ 64) (d : Nat) : ∀ (k i : Nat), i ≤ l.length → l.length - i = d → d + 1 < k → lore_rises.l0 k l l (l.length : Int) (i : Int) = some (((List.range l.length).drop i).all (riseB l)) := by
 induction d with
 | zero =>
  intro k i hi hd hk
  obtain ⟨k, rfl⟩ : ∃ j, k = j + 1 := ⟨k - 1, by omega⟩
  simp only [lore_rises.l0]
  rw [if_neg (by omega), List.drop_eq_nil_of_le (by simp; omega)]; rfl
 | succ d ih =>
  intro k i hi hd hk
  obtain ⟨k, rfl⟩ : ∃ j, k = j + 1 := ⟨k - 1, by omega⟩
  have hlt : i < l.length := by omega
  have e : (List.range l.length).drop i = i :: (List.range l.length).drop (i + 1) := by
   rw [List.drop_eq_getElem_cons (by simpa using hlt), List.getElem_range]
  simp only [lore_rises.l0]
  rw [if_pos (by omega), if_pos (by omega), if_pos (by omega), may_k _ k (by omega), Option.bind_some, wr ((i : Int) + 1) (by omega) (by omega), show ((i : Int) + 1) = ((i + 1 : Nat) : Int) by omega, ih k (i + 1) (by omega) (by omega) (by omega), rdT_getD, e, List.all_cons]
  unfold riseB
  cases hm : mayB (l.getD i z42).f0 with
  | false => rw [if_neg (by simp)]; rfl
  | true =>
   rw [if_pos rfl]
   by_cases h0 : 0 < i
   ·
    rw [if_pos (by omega), wr ((i : Int) - 1) (by omega) (by omega), show ((i : Int) - 1) = ((i - 1 : Nat) : Int) by omega, if_pos (by omega), if_pos (by omega), rdT_getD, decide_eq_true h0]
    by_cases h1 : (l.getD i z42).f0 ≤ (l.getD (i - 1) z42).f0
    ·
     rw [if_pos h1, decide_eq_true h1]; rfl
    ·
     rw [if_neg h1, decide_eq_false h1]; rfl
   ·
    rw [if_neg (by omega), decide_eq_false h0]; rfl
theorem rowBad_one (l : List S42) (i : Nat) : refRow l i = (riseB l i && oneB l (l.getD i z42).f1 (l.getD i z42).f2) := by
 unfold refRow rowBad riseB oneB refTo
 generalize mayB (l.getD i z42).f0 = a
 generalize decide (0 < i) = b
 generalize decide ((l.getD i z42).f0 ≤ (l.getD (i - 1) z42).f0) = c
 generalize decide ((l.getD i z42).f1 < 0) = d
 generalize decide (254 < (l.getD i z42).f1) = e
 generalize decide (3 < (l.getD i z42).f2.length) = f
 generalize decide ((l.getD i z42).f2.length = 0) = g
 generalize decide ((l.getD i z42).f1 = 0) = h
 generalize (l.getD i z42).f2.all _ = x
 cases a <;> cases b <;> cases c <;> cases d <;> cases e <;> cases f <;> cases g <;> cases h <;> rfl
theorem all_range (l : List S42) (p : S42 → Bool) : l.all p = (List.range l.length).all (fun i => p (l.getD i z42)) := by
 rw [Bool.eq_iff_iff, List.all_eq_true, List.all_eq_true]
 constructor
 ·
  intro h i hi
  have hi := List.mem_range.1 hi
  rw [List.getD_eq_getElem?_getD, List.getElem?_eq_getElem hi]
  exact h _ (List.getElem_mem hi)
 ·
  intro h x hx
  obtain ⟨i, hi, rfl⟩ := List.getElem_of_mem hx
  have := h i (List.mem_range.2 hi)
  rwa [List.getD_eq_getElem?_getD, List.getElem?_eq_getElem hi] at this
theorem lore_may_eq (l : List S42) : lore_May.f l = some (loreV l) := by
 unfold lore_May.f loreV
 by_cases h : (l.length : Int) > 64
 ·
  rw [if_pos h, decide_eq_false (by omega)]; rfl
 ·
  rw [if_neg h, decide_eq_true (show l.length ≤ 64 by omega), Bool.true_and]
  have hr := rises_l2 l (by omega) l.length 1000 0 (by omega) (by omega) (by omega)
  unfold lore_rises.f
  refine bindE hr ?_
  rw [List.drop_zero, all_range l (fun x => oneB l x.f1 x.f2)]
  congr 1
  rw [Bool.eq_iff_iff, Bool.and_eq_true, List.all_eq_true, List.all_eq_true, List.all_eq_true]
  constructor
  ·
   rintro ⟨h1, h2⟩ i hi; rw [rowBad_one, h1 i hi, h2 i hi]; rfl
  ·
   intro h1
   refine ⟨fun i hi => ?_, fun i hi => ?_⟩ <;> (have := h1 i hi; rw [rowBad_one, Bool.and_eq_true] at this)
   ·
    exact this.1
   ·
    exact this.2
theorem any_not_all : ∀ s : List Int, s.any (fun r => !mayB r) = !(s.all mayB)
 | [] => rfl
 | x :: t => by rw [List.any_cons, List.all_cons, any_not_all t, Bool.not_and]
theorem rnormal_l (l : List S42) (s : List Int) (hs : s.length ≤ 1000000) (R : Option (List Int × Int)) (B : Nat) (hR : (∀ r ∈ s, mayB r = true) → ∀ k, B ≤ k → ((gazetteerref1_Apart.f k l s).bind fun t237 => ((gazetteerref1_Order.f l t237).bind fun t240 => (some (t240, (0 : Int))))) = R) (d : Nat) : ∀ (k i : Nat), i ≤ s.length → s.length - i = d → B + d < k → (∀ j (h : j < s.length), j < i → mayB s[j] = true) →
  gazetteerref1_Normal.l0 k l s (i : Int) = if (s.drop i).all mayB = true then R else some ([], 2) := by
 induction d with
 | zero =>
  intro k i hi hd hk hj
  obtain ⟨k, rfl⟩ : ∃ j, k = j + 1 := ⟨k - 1, by omega⟩
  simp only [gazetteerref1_Normal.l0]
  rw [if_neg (by omega), List.drop_eq_nil_of_le (by omega)]
  exact (hR (fun r hr => by obtain ⟨j, h, rfl⟩ := List.getElem_of_mem hr; exact hj j h (by omega)) k (by omega)).trans rfl
 | succ d ih =>
  intro k i hi hd hk hj
  obtain ⟨k, rfl⟩ : ∃ j, k = j + 1 := ⟨k - 1, by omega⟩
  have hlt : i < s.length := by omega
  simp only [gazetteerref1_Normal.l0]
  rw [if_pos (by omega), if_pos (by omega), rd_at s i hlt, rmay_ok, Option.bind_some, List.drop_eq_getElem_cons hlt, List.all_cons]
  cases hm : mayB s[i] with
  | false => rw [if_neg (by simp), if_neg (by simp)]
  | true =>
   rw [if_pos rfl, Bool.true_and, wr ((i : Int) + 1) (by omega) (by omega), show ((i : Int) + 1) = ((i + 1 : Nat) : Int) by omega]
   exact ih k (i + 1) (by omega) (by omega) (by omega) (fun j h h2 => by rcases Nat.lt_succ_iff_lt_or_eq.1 h2 with h3 | rfl; exact hj j h h3; exact hm)
theorem rnormal_eq (l : List S42) (s : List Int) (hl : l.length ≤ 1000) (hs : s.length ≤ 1000) (hx : ∀ x ∈ l, x.f2.length ≤ 1000) (ha : (apartL l s).length ≤ 100000) (k : Nat) (hk : 1000000000000 ≤ k) : gazetteerref1_Normal.f k l s = lore_Normal.f l s := by
 unfold gazetteerref1_Normal.f lore_Normal.f gazetteerref1_LoreMay.f
 rw [lore_may_eq, Option.bind_some]
 show (if loreV l = true then _ else _) = _
 rw [Option.bind_some]
 cases hv : loreV l with
 | false => rw [if_neg (by simp), if_neg (by simp)]
 | true =>
  rw [if_pos rfl, if_pos rfl]
  have h := rnormal_l l s (by omega) (some (orderL l (apartL l s), 0)) 900000000000 (fun _ k hk => by
   refine bindE (rapart_ok l (by omega) s (by omega) (fun x h => by have := hx x h; omega) k (by omega)) ?_
   refine bindE (rorder_ok l (by omega) _ (by omega)) rfl) s.length k 0 (by omega) (by omega) (by omega) (fun j _ h => absurd h (by omega))
  rw [List.drop_zero] at h
  have h0 : gazetteerref1_Normal.l0 k l s 0 = if s.all mayB = true then some (orderL l (apartL l s), 0) else some ([], 2) := h
  rw [h0]
  unfold slices_ContainsFunc_rune_rune.f
  rw [if_pos (show (s.length : Int) ≤ 9223372036854775806 by omega), Option.bind_some]
  rw [any_not_all]
  cases hs2 : s.all mayB with
  | false => rw [if_neg (by simp)]; rfl
  | true =>
   rw [if_pos rfl, if_neg (by simp)]
   refine (bindE (apart_ok l (by omega) s (by omega) (by omega)) (bindE (order_ok l (by omega) _ (by omega)) rfl)).symm
/-! ### tables -/
theorem rdT44_getD (l : List S44) (i : Nat) : rd_T44 l (i : Int) = l.getD i z44 := by unfold rd_T44; rw [Int.toNat_natCast]
theorem apart_self (l : List S42) : ∀ n : List Int, (∀ r ∈ n, (rowOf l r).f2.length = 0) → apartL l n = n
 | [], _ => rfl
 | r :: n, h => by
  have h1 := apart_self l n (fun q hq => h q (by simp [hq]))
  unfold apartL at h1 ⊢
  rw [List.flatMap_cons, h1]
  unfold pieceOf
  rw [if_pos (h r (by simp))]; rfl
/-- The runes of a lore rise. -/
theorem lore_rise {l : List S42} (h : loreV l = true) : ∀ i, i < l.length → riseB l i = true := by
 intro i hi
 unfold loreV at h
 rw [Bool.and_eq_true, List.all_eq_true] at h
 have := h.2 i (List.mem_range.2 hi)
 rw [rowBad_one, Bool.and_eq_true] at this
 exact this.1
theorem lore_lt {l : List S42} (h : loreV l = true) : ∀ (d i : Nat), i + d + 1 < l.length → (l.getD i z42).f0 < (l.getD (i + d + 1) z42).f0
 | 0, i, hi => by
  have := lore_rise h (i + 1) hi
  unfold riseB at this
  rw [Bool.and_eq_true, decide_eq_true (show 0 < i + 1 by omega), Bool.true_and] at this
  have h2 := this.2
  simp only [Nat.add_sub_cancel, Bool.not_eq_true', decide_eq_false_iff_not] at h2
  show (l.getD i z42).f0 < (l.getD (i + 0 + 1) z42).f0
  rw [Nat.add_zero]; omega
 | d + 1, i, hi => by
  have h1 := lore_lt h d i (by omega)
  have h2 := lore_lt h 0 (i + d + 1) (by omega)
  have e : i + d + 1 + 0 + 1 = i + (d + 1) + 1 := by omega
  rw [e] at h2
  omega
theorem row_unique {l : List S42} (h : loreV l = true) {x : S42} (hx : x ∈ l) : rowOf l x.f0 = x := by
 obtain ⟨i, hi, rfl⟩ := List.getElem_of_mem hx
 unfold rowOf
 rcases firstAt_cases l l[i].f0 with ⟨_, h2⟩ | ⟨j, hj, h1, h2⟩
 ·
  exact absurd rfl (h2 l[i] (List.getElem_mem hi))
 ·
  rw [h1, if_neg (by omega), rdT_at l j hj]
  have gi : l.getD i z42 = l[i] := by rw [List.getD_eq_getElem?_getD, List.getElem?_eq_getElem hi]; rfl
  have gj : l.getD j z42 = l[j] := by rw [List.getD_eq_getElem?_getD, List.getElem?_eq_getElem hj]; rfl
  rcases Nat.lt_trichotomy i j with h3 | h3 | h3
  ·
   have := lore_lt h (j - i - 1) i (by omega)
   rw [show i + (j - i - 1) + 1 = j by omega, gi, gj] at this
   omega
  ·
   subst h3; rfl
  ·
   have := lore_lt h (i - j - 1) j (by omega)
   rw [show j + (i - j - 1) + 1 = i by omega, gi, gj] at this
   omega
theorem refTo_rune {l : List S42} (h : loreV l = true) (r : Int) : runeB l r = refTo l r := by
 unfold runeB refTo
 congr 1
 rw [Bool.eq_iff_iff, decide_eq_true_iff, Bool.not_eq_true', List.any_eq_false]
 constructor
 ·
  intro h1
  rcases row_cases l r with e | e
  ·
   rw [e]; rfl
  ·
   have h2 := h1 _ e
   rcases Classical.em ((rowOf l r).f2.length = 0) with h3 | h3
   ·
    exact h3
   ·
    exfalso
    refine h2 ?_
    have hr : (rowOf l r).f0 = r := by
     unfold rowOf at e ⊢
     rcases firstAt_cases l r with ⟨h4, _⟩ | ⟨j, hj, h4, h5⟩
     ·
      rw [rowOf, h4, if_pos (by omega)] at h3; exact absurd rfl h3
     ·
      rw [h4, if_neg (by omega), rdT_at l j hj]; exact h5
    rw [Bool.and_eq_true, beq_iff_eq, decide_eq_true_iff]
    exact ⟨hr, by omega⟩
 ·
  intro h1 x hx h2
  rw [Bool.and_eq_true, beq_iff_eq, decide_eq_true_iff] at h2
  have := row_unique h hx
  rw [h2.1] at this
  rw [this] at h1
  omega
theorem elemB_iff (p s t : Int) : (weigh_element.f p s t).getD false = true ↔ (0 ≤ p ∧ p ≤ 60000) ∧ (0 ≤ s ∧ s ≤ 200) ∧ (0 ≤ t ∧ t ≤ 200) ∧ (p = 0 ∨ 0 < s) ∧ (s = 0 ∨ 0 < t) := by
 unfold weigh_element.f
 rw [within_ok, within_ok, within_ok, Option.bind_some, Option.bind_some, Option.bind_some]
 simp only [Bool.and_eq_true, decide_eq_true_eq]
 repeat' split
 all_goals (simp only [Option.getD_some, decide_eq_true_eq, true_iff, Bool.false_eq_true, false_iff]; omega)
theorem elemB_eq (e : S39) : elemB e = !elBad e := by
 rw [Bool.eq_iff_iff]
 unfold elemB
 rw [elemB_iff, Bool.not_eq_true']
 unfold elBad
 simp only [Bool.or_eq_false_iff, decide_eq_false_iff_not, Bool.and_eq_false_iff]
 omega
theorem cmpV_neg : ∀ {a b : List Int}, cmpV a b < 0 ↔ cmpL a b < 0
 | [], [] => by simp [cmpV, cmpL]
 | [], b :: t => by simp only [cmpV, cmpL, List.length_cons]; omega
 | a :: s, [] => by simp only [cmpV, cmpL, List.length_cons]; omega
 | a :: s, b :: t => by
  unfold cmpV cmpL
  by_cases h : a = b
  ·
   subst h; rw [if_pos rfl, if_neg (by omega), if_neg (by omega)]; exact cmpV_neg
  ·
   rw [if_neg h]
   by_cases h1 : a < b
   ·
    rw [if_pos h1, if_pos h1]
   ·
    rw [if_neg h1, if_neg h1, if_pos (by omega)]
theorem row_parts {l : List S42} {rows : List S44} {i : Nat} (h : refTRow l rows i = true) : (1 ≤ (rows.getD i z44).f0.length ∧ (rows.getD i z44).f0.length ≤ 3 ∧ (rows.getD i z44).f1.length ≤ 4) ∧ (0 < i → cmpL (rows.getD (i - 1) z44).f0 (rows.getD i z44).f0 < 0) ∧ (∀ r ∈ (rows.getD i z44).f0, refTo l r = true) ∧ (∀ e ∈ (rows.getD i z44).f1, elBad e = false) ∧ (1 < (rows.getD i z44).f0.length → 0 ≤ firstAt (fun x : S44 => x.f0 == (rows.getD i z44).f0.take 1) rows) := by
 unfold refTRow trowBad at h
 simp only [Bool.and_eq_true, Bool.not_eq_true', Bool.or_eq_false_iff, decide_eq_false_iff_not, List.all_eq_true, Bool.and_eq_false_iff] at h
 obtain ⟨⟨⟨⟨h1, h2⟩, h3⟩, h4⟩, h5, h6, h7⟩ := h
 refine ⟨⟨by omega, by omega, by omega⟩, fun h0 => cmpV_neg.1 (by rcases h4 with h4 | h4 <;> omega), h5, fun e he => by simpa using h6 e he, fun h0 => by rcases h7 with h7 | h7 <;> omega⟩
theorem rowFor_first {rows : List S44} {s : List Int} (h : 0 ≤ firstAt (fun x : S44 => x.f0 == s) rows) : (rowFor rows s).isSome = true := by
 unfold firstAt at h
 cases hf : rows.findIdx? (fun x : S44 => x.f0 == s) with
 | none => rw [hf] at h; exact absurd h (by decide)
 | some i =>
  obtain ⟨hi, hp, _⟩ := List.findIdx?_eq_some_iff_getElem.1 hf
  unfold rowFor
  rw [List.find?_isSome]
  exact ⟨rows[i], List.getElem_mem hi, hp⟩
/-- A table that may be, as the program says it, too. -/
theorem tmay_may {l : List S42} {rows : List S44} {top : Int} {sh : Bool} (h : gazetteerref1_TableMay.f l rows top sh = some true) : weigh_May.f l rows top sh = some true ∧ loreV l = true ∧ rows.length ≤ 64 ∧ (∀ i < rows.length, refTRow l rows i = true) ∧ mayR l rows = true := by
 unfold gazetteerref1_TableMay.f at h
 have h := Option.some.inj h
 rw [Bool.and_eq_true, Bool.and_eq_true, Bool.and_eq_true, List.all_eq_true] at h
 obtain ⟨hv, h64, htop, hr⟩ := h
 have hr' : ∀ i < rows.length, refTRow l rows i = true := fun i hi => hr i (List.mem_range.2 hi)
 have hmr : mayR l rows = true := by
  unfold mayR
  rw [List.all_eq_true]
  intro i hi
  have hi := List.mem_range.1 hi
  obtain ⟨⟨g1, g2, g3⟩, g4, g5, g6, g7⟩ := row_parts (hr' i hi)
  rw [Bool.and_eq_true]
  constructor
  ·
   unfold rowB
   rw [decide_eq_true ⟨g1, g2⟩, decide_eq_true g3, Bool.true_and, Bool.true_and, Bool.and_eq_true, List.all_eq_true, List.all_eq_true]
   exact ⟨fun r hr2 => by rw [refTo_rune hv]; exact g5 r hr2, fun e he => by rw [elemB_eq, g6 e he]; rfl⟩
  ·
   rcases Nat.eq_zero_or_pos i with rfl | h0
   ·
    rfl
   ·
    rw [decide_eq_true (g4 h0)]; simp
 refine ⟨?_, hv, of_decide_eq_true h64, hr', hmr⟩
 unfold weigh_May.f
 rw [lore_may_eq, Option.bind_some, hv, h64, htop, hmr, Bool.true_and, Bool.true_and, Bool.true_and, Bool.true_and]
 congr 1
 unfold mayF
 rw [List.all_eq_true]
 intro i hi
 have hi := List.mem_range.1 hi
 obtain ⟨⟨g1, g2, g3⟩, g4, g5, g6, g7⟩ := row_parts (hr' i hi)
 by_cases h1 : 1 < (rows.getD i z44).f0.length
 ·
  exact rowFor_first (g7 h1)
 ·
  unfold rowFor
  rw [List.find?_isSome]
  refine ⟨rows.getD i z44, by rw [List.getD_eq_getElem?_getD, List.getElem?_eq_getElem hi]; exact List.getElem_mem hi, ?_⟩
  rw [List.take_of_length_le (by omega)]; simp
theorem table_ok (l : List S42) (rows : List S44) (top : Int) (sh : Bool) : ∃ b, gazetteerref1_TableMay.f l rows top sh = some b := ⟨_, rfl⟩
theorem lore_to_len {l : List S42} (h : loreV l = true) : ∀ y ∈ l, y.f2.length ≤ 3 := fun y hy => by
 obtain ⟨i, hi, rfl⟩ := List.getElem_of_mem hy
 unfold loreV at h
 rw [Bool.and_eq_true, List.all_eq_true] at h
 have := h.2 i (List.mem_range.2 hi)
 rw [rowBad_one, Bool.and_eq_true] at this
 have h5 := this.2
 unfold oneB at h5
 simp only [Bool.and_eq_true, Bool.not_eq_true', Bool.or_eq_false_iff, decide_eq_false_iff_not] at h5
 rw [List.getD_eq_getElem?_getD, List.getElem?_eq_getElem hi] at h5
 have := h5.1.1.2
 simp at this
 omega
/-! ### few, the same -/
theorem few3_l1 (l : List S42) (rows : List S44) (top : Int) (sh : Bool) (s : List Int) (hl : l.length ≤ 4000000000000000000) (d : Nat) : ∀ (k i : Nat) (acc : Int), i ≤ l.length → l.length - i = d → d < k → ∃ b, gazetteerlaw3_Few.l1 k s acc (i : Int) l rows top sh = some b ∧ (b = true → rows.length ≤ 100 ∧ l.length ≤ 100 ∧ s.length ≤ 200) := by
 induction d with
 | zero =>
  intro k i acc hi hd hk
  obtain ⟨k, rfl⟩ : ∃ j, k = j + 1 := ⟨k - 1, by omega⟩
  simp only [gazetteerlaw3_Few.l1]
  rw [if_neg (by omega)]
  by_cases h1 : (rows.length : Int) ≤ 100
  ·
   rw [if_pos h1]
   by_cases h2 : (l.length : Int) ≤ 100
   ·
    rw [if_pos h2]
    by_cases h3 : acc ≤ 1000
    ·
     rw [if_pos h3]; exact ⟨_, rfl, fun h => ⟨by omega, by omega, by have := of_decide_eq_true h; omega⟩⟩
    ·
     rw [if_neg h3]; exact ⟨false, rfl, fun h => by cases h⟩
   ·
    rw [if_neg h2]; exact ⟨false, rfl, fun h => by cases h⟩
  ·
   rw [if_neg h1]; exact ⟨false, rfl, fun h => by cases h⟩
 | succ d ih =>
  intro k i acc hi hd hk
  obtain ⟨k, rfl⟩ : ∃ j, k = j + 1 := ⟨k - 1, by omega⟩
  simp only [gazetteerlaw3_Few.l1]
  rw [if_pos (by omega), if_pos (by omega), wr ((i : Int) + 1) (by omega) (by omega), show ((i : Int) + 1) = ((i + 1 : Nat) : Int) by omega]
  exact ih k (i + 1) _ (by omega) (by omega) (by omega)
theorem few3_l0 (l : List S42) (rows : List S44) (top : Int) (sh : Bool) (s : List Int) (hl : l.length ≤ 4000000000000000000) (hr : rows.length ≤ 4000000000000000000) (d : Nat) : ∀ (k i : Nat) (acc : Int), i ≤ rows.length → rows.length - i = d → l.length + d + 1 < k → ∃ b, gazetteerlaw3_Few.l0 k s acc (i : Int) l rows top sh = some b ∧ (b = true → rows.length ≤ 100 ∧ l.length ≤ 100 ∧ s.length ≤ 200) := by
 induction d with
 | zero =>
  intro k i acc hi hd hk
  obtain ⟨k, rfl⟩ : ∃ j, k = j + 1 := ⟨k - 1, by omega⟩
  simp only [gazetteerlaw3_Few.l0]
  rw [if_neg (by omega)]
  exact few3_l1 l rows top sh s hl l.length k 0 acc (by omega) (by omega) (by omega)
 | succ d ih =>
  intro k i acc hi hd hk
  obtain ⟨k, rfl⟩ : ∃ j, k = j + 1 := ⟨k - 1, by omega⟩
  simp only [gazetteerlaw3_Few.l0]
  rw [if_pos (by omega), if_pos (by omega), wr ((i : Int) + 1) (by omega) (by omega), show ((i : Int) + 1) = ((i + 1 : Nat) : Int) by omega]
  exact ih k (i + 1) _ (by omega) (by omega) (by omega)
theorem few3_ok (l : List S42) (rows : List S44) (top : Int) (sh : Bool) (s : List Int) (hl : l.length ≤ 4000000000000000000) (hr : rows.length ≤ 4000000000000000000) (k : Nat) (hk : l.length + rows.length + 1 < k) : ∃ b, gazetteerlaw3_Few.f k l rows top sh s = some b ∧ (b = true → rows.length ≤ 100 ∧ l.length ≤ 100 ∧ s.length ≤ 200) := by
 unfold gazetteerlaw3_Few.f
 exact few3_l0 l rows top sh s hl hr rows.length k 0 0 (by omega) (by omega) (by omega)
theorem same3_l (a : List S39) (ha : a.length ≤ 1000000000000) (d : Nat) : ∀ (k i : Nat), i ≤ a.length → a.length - i = d → d < k → gazetteerlaw3_Same.l0 k a a (i : Int) = some true := by
 induction d with
 | zero =>
  intro k i hi hd hk
  obtain ⟨k, rfl⟩ : ∃ j, k = j + 1 := ⟨k - 1, by omega⟩
  simp only [gazetteerlaw3_Same.l0]
  rw [if_neg (by omega)]
 | succ d ih =>
  intro k i hi hd hk
  obtain ⟨k, rfl⟩ : ∃ j, k = j + 1 := ⟨k - 1, by omega⟩
  simp only [gazetteerlaw3_Same.l0]
  rw [if_pos (by omega), if_pos (by omega), if_pos (by omega), if_neg (by simp), wr ((i : Int) + 1) (by omega) (by omega), show ((i : Int) + 1) = ((i + 1 : Nat) : Int) by omega]
  exact ih k (i + 1) (by omega) (by omega) (by omega)
theorem same3_rfl (a : List S39) (ha : a.length ≤ 1000000000000) (k : Nat) (hk : a.length < k) : gazetteerlaw3_Same.f k a a = some true := by
 unfold gazetteerlaw3_Same.f
 rw [if_pos rfl]
 exact same3_l a ha a.length k 0 (by omega) (by omega) (by omega)
theorem awake3 : gazetteerlaw3_awake.f = some true := rfl
/-! ### elements -/
theorem elemsN_len (cls : Int → Int) (rows : List S44) (h4 : ∀ x ∈ rows, 1 ≤ x.f0.length ∧ x.f1.length ≤ 4) : ∀ (n : Nat) (s : List Int), s.length ≤ n → (elemsN cls rows n s).length ≤ 4 * s.length
 | 0, s, h => by simp [elemsN]
 | n + 1, [], _ => by simp [elemsN]
 | n + 1, r :: t, h => by
  rw [elemsN]
  rw [List.length_cons] at h
  cases hl : longestR rows (r :: t) with
  | none =>
   have := elemsN_len cls rows h4 n t (by omega)
   simp only [List.length_append, List.length_cons]
   unfold impliedL
   simp only [List.length_cons, List.length_nil]; omega
  | some x =>
   obtain ⟨g1, g2, g3, _⟩ := longestR_some hl
   have hb := longerR_len cls rows ((r :: t).drop x.f0.length) x 0 []
   have hlen : ((r :: t).drop x.f0.length).length ≤ t.length := by rw [List.length_drop, List.length_cons]; omega
   have := elemsN_len cls rows h4 n (longerR cls rows x 0 [] ((r :: t).drop x.f0.length)).2 (by have := hb.1; simp only [List.length_nil] at this; omega)
   have h5 : (longerR cls rows x 0 [] ((r :: t).drop x.f0.length)).1.f1.length ≤ 4 := by
    rcases hb.2 with h6 | h6
    ·
     rw [h6]; exact (h4 x g1).2
    ·
     exact (h4 _ h6).2
   simp only [List.length_append, List.length_cons]
   have := hb.1; simp only [List.length_nil] at this; omega
theorem rows_four {l : List S42} {rows : List S44} (h : mayR l rows = true) : ∀ x ∈ rows, 1 ≤ x.f0.length ∧ x.f1.length ≤ 4 := fun x hx => ⟨((mayR_four h).2 x hx).1, ((mayR_four h).2 x hx).2.2⟩
theorem elements_ok {l : List S42} {rows : List S44} {top : Int} {sh : Bool} (hm : weigh_May.f l rows top sh = some true) {s n : List Int} (hn : lore_Normal.f l s = some (n, 0)) (hl : n.length ≤ 1000000000) : weigh_Elements.f l rows top sh s = some (elemsN (clsOf l) rows n.length n, 0) := by
 unfold weigh_Elements.f
 refine bindE hm ?_
 rw [if_pos rfl]
 refine bindE hn ?_
 show (if (0 : Int) = 0 then _ else _) = _
 rw [if_pos rfl, if_pos hl]; rfl
theorem apart_mem (l : List S42) (ho : ∀ x ∈ l, oneB l x.f1 x.f2 = true) (s : List Int) (hs : ∀ r ∈ s, mayB r = true) (r : Int) (hr : r ∈ apartL l s) : mayB r = true ∧ (rowOf l r).f2.length = 0 := by
 unfold apartL at hr
 obtain ⟨q, hq, hr⟩ := List.mem_flatMap.1 hr
 unfold pieceOf at hr
 split at hr
 ·
  rename_i h
  rw [List.mem_singleton] at hr
  subst hr
  exact ⟨hs _ hq, h⟩
 ·
  rename_i h
  rcases row_cases l q with e | e
  ·
   rw [e] at h; exact absurd rfl h
  ·
   have h1 := ho _ e
   unfold oneB at h1
   rw [Bool.and_eq_true] at h1
   have h2 := List.all_eq_true.1 h1.2 r hr
   rw [Bool.and_eq_true] at h2
   exact ⟨h2.1, of_decide_eq_true h2.2⟩
/-- Runes in normal form: normal again they are the same. -/
theorem normal_again {l : List S42} {s n : List Int} (hv : loreV l = true) (hs : s.length ≤ 1000) (h : lore_Normal.f l s = some (n, 0)) : lore_Normal.f l n = some (n, 0) ∧ n.length ≤ 3 * s.length ∧ (∀ r ∈ n, mayB r = true ∧ (rowOf l r).f2.length = 0) ∧ n = orderL l (apartL l s) := by
 have hl2 : l.length ≤ 1000 := by
  unfold loreV at hv
  rw [Bool.and_eq_true] at hv
  have := of_decide_eq_true hv.1; omega
 have la := apart_len l 3 (by omega) (lore_to_len hv) s
 obtain ⟨n', e, en, he⟩ := normal_ok l s (by omega) (by omega) (by omega)
 rw [h] at en
 obtain ⟨rfl, rfl⟩ := Prod.mk.inj (Option.some.inj en)
 obtain ⟨q1, q2, q3⟩ := he rfl
 obtain ⟨b, hb, hb2⟩ := may_some l
 rw [q1] at hb
 have hone := (hb2 (Option.some.inj hb).symm).2
 have hmem := apart_mem l hone s q2
 have hperm : n.Perm (apartL l s) := by rw [q3]; exact ordA_perm _ []
 have hnl : n.length = (apartL l s).length := hperm.length_eq
 have hadj : Adj (clsOf l) n := by rw [q3]; exact ordA_adj _ [] List.Pairwise.nil
 have hself : apartL l n = n := apart_self l n (fun r hr => (hmem r (hperm.mem_iff.1 hr)).2)
 have hord : orderL l n = n := ordA_fix n [] List.Pairwise.nil hadj
 have e2 := normal_of l n (by omega) (by omega) (by rw [hself]; omega) q1 (fun r hr => (hmem r (hperm.mem_iff.1 hr)).1)
 rw [hself, hord] at e2
 exact ⟨e2, by omega, fun r hr => hmem r (hperm.mem_iff.1 hr), q3⟩
theorem WeighNormal : gazetteerlaw3_WeighNormal.Pure := by
 intro l rows top sh s h0 h1 h2 h3
 obtain ⟨K, hK⟩ : ∃ K, K = l.length + rows.length + 2000000000000 := ⟨_, rfl⟩
 refine ⟨K + 1, ?_⟩
 unfold gazetteerlaw3_WeighNormal.f
 refine bindE awake3 (iteT rfl ?_)
 obtain ⟨b1, e1, f1⟩ := few3_ok l rows top sh s (by omega) (by omega) (K + 1) (by omega)
 refine bindE e1 ?_
 cases b1 with
 | false => rfl
 | true =>
 obtain ⟨g1, g2, g3⟩ := f1 rfl
 obtain ⟨b2, e2⟩ := table_ok l rows top sh
 refine iteT rfl (bindE e2 ?_)
 cases b2 with
 | false => rfl
 | true =>
 obtain ⟨m1, m2, m3, m4, m5⟩ := tmay_may e2
 simp only [gazetteerlaw3_WeighNormal.j0]
 refine iteF (by simp) ?_
 have la := apart_len l 3 (by omega) (lore_to_len m2) s
 have hrn := rnormal_eq l s (by omega) (by omega) (fun y hy => by have := lore_to_len m2 y hy; omega) (by omega) K (by omega)
 obtain ⟨n, e, en, he⟩ := normal_ok l s (by omega) (by omega) (by omega)
 rw [en] at hrn
 refine bindE hrn ?_
 by_cases h9 : e = 0
 case neg => exact iteF h9 rfl
 case pos =>
 subst h9
 obtain ⟨n1, n2, _, _⟩ := normal_again m2 (by omega) en
 have hlen := elemsN_len (clsOf l) rows (rows_four m5) n.length n (Nat.le_refl _)
 refine iteT rfl ?_
 refine bindE (elements_ok m1 en (by omega)) (bindE (elements_ok m1 n1 (by omega)) ?_)
 exact iteT rfl (iteT rfl (bindE (same3_rfl (elemsN (clsOf l) rows n.length n) (by omega) K (by omega)) rfl))
end Go.Proofs.Ytfagobhhhljajaa.Pure

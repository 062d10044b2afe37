/- LoreTwice, the plain law over the printed functions. No condition. -/
import Derived.Test.YtdmahdgcfaieoaaPLoreTwicey
namespace Go.Proofs.Ytdmahdgcfaieoaa.Pure
set_option linter.unusedVariables false
set_option linter.unusedSimpArgs false
open Go.RowKit Go.Proofs.Ytdmahdgcfaieoaa.PLoreTwice Go.Proofs.YtdmahdgcfaieoaaW.PrintWords Go.Proofs.YtdmahdgcfaieoaaW.PrintLast Go.Proofs.YtdmahdgcfaieoaaW.PrintMore Go.Proofs.YtdmahdgcfaieoaaW.PrintSort
theorem wr (x : Int) (h0 : -9223372036854775808 ≤ x) (h1 : x ≤ 9223372036854775807) : wrap64 x = x := by
  unfold wrap64; omega
theorem rd_at (l : List Int) (i : Nat) (h : i < l.length) : rd l (i : Int) = l[i] := by
  unfold rd; simp [List.getD, h]
theorem rdT_at (l : List S33) (i : Nat) (h : i < l.length) : rd_T33 l (i : Int) = l[i] := by
  unfold rd_T33; simp [List.getD, h]
theorem drop_at {α : Type} (l : List α) (i : Nat) (h : i < l.length) : l.drop i = l[i] :: l.drop (i + 1) := (List.drop_eq_getElem_cons h)
/-! ### the same runes -/
theorem same_l (a b : List Int) (hn : a.length ≤ 1000000) (hab : a.length = b.length) (d : Nat) : ∀ (k i : Nat), i ≤ a.length → a.length - i = d → d < k →
    gazetteerlaw1_Same.l0 k a b (i : Int) = some (decide (a.drop i = b.drop i)) := by
  induction d with
  | zero =>
    intro k i hi hd hk
    obtain ⟨k, rfl⟩ : ∃ j, k = j + 1 := ⟨k - 1, by omega⟩
    simp only [gazetteerlaw1_Same.l0]
    rw [if_neg (by omega), List.drop_eq_nil_of_le (by omega), List.drop_eq_nil_of_le (by omega)]
    rfl
  | succ d ih =>
    intro k i hi hd hk
    obtain ⟨k, rfl⟩ : ∃ j, k = j + 1 := ⟨k - 1, by omega⟩
    have hlt : i < a.length := by omega
    have hlt2 : i < b.length := by omega
    simp only [gazetteerlaw1_Same.l0]
    rw [if_pos (by omega), if_pos (by omega), if_pos (by omega), rd_at a i hlt, rd_at b i hlt2, drop_at a i hlt, drop_at b i hlt2]
    by_cases h : a[i] = b[i]
    · rw [if_pos h, wr _ (by omega) (by omega), show ((i : Int) + 1) = ((i + 1 : Nat) : Int) by omega, ih k (i + 1) (by omega) (by omega) (by omega)]
      congr 1
      exact decide_eq_decide.2 ⟨fun e => by rw [h, e], fun e => (List.cons.inj e).2⟩
    · rw [if_neg h, decide_eq_false (fun e => h (List.cons.inj e).1)]
theorem same_eq (a b : List Int) (hn : a.length ≤ 1000000) (k : Nat) (hk : a.length < k) : gazetteerlaw1_Same.f k a b = some (decide (a = b)) := by
  unfold gazetteerlaw1_Same.f
  by_cases h : (a.length : Int) = (b.length : Int)
  · have := same_l a b hn (by omega) a.length k 0 (by omega) (by omega) hk
    rw [if_pos h]
    simpa using this
  · rw [if_neg h]
    have : a ≠ b := fun e => h (by rw [e])
    rw [decide_eq_false this]
theorem same_rfl (a : List Int) (hn : a.length ≤ 1000000) (k : Nat) (hk : a.length < k) : gazetteerlaw1_Same.f k a a = some true := by
  rw [same_eq a a hn k hk]; simp
/-! ### awake -/
set_option maxRecDepth 100000 in
theorem awake_ok (k : Nat) (hk : 10 ≤ k) : gazetteerlaw2_awake.f k = some true := by
  unfold gazetteerlaw2_awake.f
  refine bindE (a := [⟨233, 0, [101, 769]⟩, ⟨769, 230, []⟩]) rfl ?_
  refine bindE (a := ([101, 769], 0)) (by kernel_rfl) ?_
  refine iteT rfl ?_
  refine bindE (same_rfl [101, 769] (by decide) k (by simp only [List.length_cons, List.length_nil]; omega)) ?_
  refine iteT rfl ?_
  refine bindE (a := true) (by kernel_rfl) ?_
  refine iteT rfl ?_
  refine bindE (a := 230) (by kernel_rfl) ?_
  refine iteT rfl ?_
  refine bindE (a := 0) (by kernel_rfl) ?_
  rfl
/-! ### lore -/
theorem may_k (a : Int) (k : Nat) (hk : 1 ≤ k) : scalar_May.f k a = some (mayB a) := by
  obtain ⟨k, rfl⟩ : ∃ j, k = j + 1 := ⟨k - 1, by omega⟩
  unfold scalar_May.f utf8_ValidRune.f mayB
  by_cases h0 : 0 ≤ a
  · by_cases h1 : a < 55296
    · simp [utf8_ValidRune.j0, h0, h1]
    · by_cases h2 : 57343 < a
      · by_cases h3 : a ≤ 1114111 <;> simp [utf8_ValidRune.j0, h0, h1, h2, h3]
      · simp [utf8_ValidRune.j0, h0, h1, h2]
  · have h2 : ¬ 57343 < a := by omega
    simp [utf8_ValidRune.j0, h0, h2]
theorem rises_l (l : List S33) (hl : l.length ≤ 64) (d : Nat) : ∀ (k i : Nat), i ≤ l.length → l.length - i = d → d + 1 < k → ∃ b, lore_rises.l0 k l l (l.length : Int) (i : Int) = some b := by
  induction d with
  | zero =>
    intro k i hi hd hk
    obtain ⟨k, rfl⟩ : ∃ j, k = j + 1 := ⟨k - 1, by omega⟩
    simp only [lore_rises.l0]
    rw [if_neg (by omega)]
    exact ⟨_, rfl⟩
  | succ d ih =>
    intro k i hi hd hk
    obtain ⟨k, rfl⟩ : ∃ j, k = j + 1 := ⟨k - 1, by omega⟩
    simp only [lore_rises.l0]
    rw [if_pos (by omega), if_pos (by omega), if_pos (by omega), may_k _ k (by omega), Option.bind_some, wr ((i : Int) + 1) (by omega) (by omega), show ((i : Int) + 1) = ((i + 1 : Nat) : Int) by omega]
    obtain ⟨b, hb⟩ := ih k (i + 1) (by omega) (by omega) (by omega)
    rw [hb]
    by_cases h1 : mayB (rd_T33 l (i : Int)).f0 = true
    · rw [if_pos h1]
      by_cases h2 : (i : Int) > 0
      · rw [if_pos h2, wr ((i : Int) - 1) (by omega) (by omega), if_pos (by omega), if_pos (by omega)]
        split
        · exact ⟨_, rfl⟩
        · exact ⟨_, rfl⟩
      · rw [if_neg h2]; exact ⟨_, rfl⟩
    · rw [if_neg h1]; exact ⟨_, rfl⟩
theorem may_some (l : List S33) : ∃ b, lore_May.f l = some b ∧ (b = true → l.length ≤ 64 ∧ ∀ x ∈ l, oneB l x.f1 x.f2 = true) := by
  unfold lore_May.f
  by_cases h : (l.length : Int) > 64
  · rw [if_pos h]; exact ⟨false, rfl, fun h => by cases h⟩
  · rw [if_neg h]
    obtain ⟨t, ht⟩ := rises_l l (by omega) l.length 1000 0 (by omega) (by omega) (by omega)
    unfold lore_rises.f
    refine ⟨t && l.all (fun x => oneB l x.f1 x.f2), bindE ht rfl, fun hb => ⟨by omega, ?_⟩⟩
    rw [Bool.and_eq_true] at hb
    exact List.all_eq_true.1 hb.2
theorem firstAt_cases (l : List S33) (r : Int) : (firstAt (fun s : S33 => s.f0 == r) l = -1 ∧ ∀ s ∈ l, s.f0 ≠ r) ∨ ∃ (i : Nat) (h : i < l.length), firstAt (fun s : S33 => s.f0 == r) l = (i : Int) ∧ l[i].f0 = r := by
  unfold firstAt
  cases h : l.findIdx? (fun s : S33 => s.f0 == r) with
  | none => exact .inl ⟨rfl, fun s hs e => by have := List.findIdx?_eq_none_iff.1 h s hs; simp [e] at this⟩
  | some i =>
    obtain ⟨hi, hp, _⟩ := List.findIdx?_eq_some_iff_getElem.1 h
    exact .inr ⟨i, hi, rfl, by simpa using hp⟩
theorem row_cases (l : List S33) (r : Int) : rowOf l r = z33 ∨ rowOf l r ∈ l := by
  unfold rowOf
  rcases firstAt_cases l r with ⟨h, _⟩ | ⟨i, hi, h, _⟩
  · rw [h]; exact .inl rfl
  · rw [h, if_neg (by omega), rdT_at l i hi]; exact .inr (List.getElem_mem hi)
theorem piece_len (l : List S33) (r : Int) (m : Nat) (hm : 1 ≤ m) (h : ∀ x ∈ l, x.f2.length ≤ m) : (pieceOf l r).length ≤ m := by
  unfold pieceOf
  split
  · simpa using hm
  · rcases row_cases l r with e | e
    · rw [e]; simp [z33]
    · exact h _ e
theorem apart_len (l : List S33) (m : Nat) (hm : 1 ≤ m) (h : ∀ x ∈ l, x.f2.length ≤ m) : ∀ s : List Int, (apartL l s).length ≤ m * s.length
  | [] => by simp [apartL]
  | r :: s => by
    have h1 := apart_len l m hm h s
    have h2 := piece_len l r m hm h
    unfold apartL at h1 ⊢
    rw [List.flatMap_cons, List.length_append, List.length_cons, Nat.mul_add]
    omega
theorem order_len (l : List S33) (s : List Int) : (orderL l s).length = s.length := by
  unfold orderL; rw [Go.Proofs.YtdmahdgcfaieoaaW.PrintSort.ordA_len]; simp
theorem order_ok (l : List S33) (hl : l.length ≤ 1000000) (s : List Int) (hs : s.length ≤ 35184372088832) : lore_Order.f l s = some (orderL l s) := by
  unfold lore_Order.f; rw [if_pos ⟨by omega, hs⟩]
theorem apart_ok (l : List S33) (hl : l.length ≤ 1000000) (s : List Int) (hs : s.length ≤ 1000000) (ha : (apartL l s).length < 35184372088832) : lore_Apart.f l s = some (apartL l s) := by
  unfold lore_Apart.f; rw [if_pos ⟨by omega, by omega, ha⟩]
theorem class_ok (l : List S33) (hl : l.length ≤ 1000000) (r : Int) : lore_Class.f l r = some (clsOf l r) := by
  unfold lore_Class.f clsOf; rw [if_pos (by omega)]
theorem normal_ok (l : List S33) (s : List Int) (hl : l.length ≤ 1000000) (hs : s.length ≤ 1000000) (ha : (apartL l s).length < 35184372088832) :
    ∃ n e, lore_Normal.f l s = some (n, e) ∧ (e = 0 → lore_May.f l = some true ∧ (∀ r ∈ s, mayB r = true) ∧ n = orderL l (apartL l s)) := by
  obtain ⟨b, hb, hb2⟩ := may_some l
  unfold lore_Normal.f
  rw [hb, Option.bind_some]
  cases b with
  | false => exact ⟨[], 4, rfl, fun h => by cases h⟩
  | true =>
    rw [if_pos rfl]
    unfold slices_ContainsFunc_rune_rune.f
    rw [if_pos (by omega), Option.bind_some]
    cases hany : s.any (fun r => !mayB r) with
    | true => exact ⟨[], 2, rfl, fun h => by cases h⟩
    | false =>
      refine ⟨orderL l (apartL l s), 0, ?_, fun _ => ⟨rfl, fun r hr => ?_, rfl⟩⟩
      · rw [if_neg (by simp)]
        refine bindE (apart_ok l hl s hs ha) ?_
        refine bindE (order_ok l hl _ (Nat.le_of_lt ha)) ?_
        rfl
      · have := List.any_eq_false.1 hany r hr
        simpa using this
theorem normal_of (l : List S33) (s : List Int) (hl : l.length ≤ 1000000) (hs : s.length ≤ 1000000) (ha : (apartL l s).length < 35184372088832) (h1 : lore_May.f l = some true) (h2 : ∀ r ∈ s, mayB r = true) :
    lore_Normal.f l s = some (orderL l (apartL l s), 0) := by
  unfold lore_Normal.f slices_ContainsFunc_rune_rune.f
  have hany : s.any (fun r => !mayB r) = false := List.any_eq_false.2 (fun r hr => by simp [h2 r hr])
  rw [h1, Option.bind_some, if_pos rfl, if_pos (by omega), Option.bind_some, hany, if_neg (by simp)]
  refine bindE (apart_ok l hl s hs ha) ?_
  refine bindE (order_ok l hl _ (Nat.le_of_lt ha)) ?_
  rfl
/-! ### few -/
theorem sum_one {l : List S33} {x : S33} (h : x ∈ l) : x.f2.length ≤ (l.map (fun x => x.f2.length)).sum := by
  induction l with
  | nil => cases h
  | cons y l ih =>
    rw [List.map_cons, List.sum_cons]
    rcases List.mem_cons.1 h with rfl | h
    · omega
    · have := ih h; omega
theorem sum_most {l : List S33} {m : Nat} (h : ∀ x ∈ l, x.f2.length ≤ m) : (l.map (fun x => x.f2.length)).sum ≤ m * l.length := by
  induction l with
  | nil => simp
  | cons y l ih =>
    have h1 := ih (fun x hx => h x (by simp [hx]))
    have h2 := h y (by simp)
    rw [List.map_cons, List.sum_cons, List.length_cons, Nat.mul_add]
    omega
theorem few_l (l : List S33) (s : List Int) (hl : l.length ≤ 4000000000000000000) (hx : ∀ x ∈ l, x.f2.length ≤ 1000000000000000) (d : Nat) : ∀ (k i : Nat) (acc : Int), i ≤ l.length → l.length - i = d → d < k →
    (l.length ≤ 100 → acc = (((l.take i).map (fun x => x.f2.length)).sum : Nat)) →
    ∃ b, gazetteerlaw2_Few.l0 k l s acc (i : Int) = some b ∧ (b = true → l.length ≤ 100 ∧ (l.map (fun x => x.f2.length)).sum ≤ 500 ∧ s.length ≤ 300) := by
  induction d with
  | zero =>
    intro k i acc hi hd hk hacc
    obtain ⟨k, rfl⟩ : ∃ j, k = j + 1 := ⟨k - 1, by omega⟩
    simp only [gazetteerlaw2_Few.l0]
    rw [if_neg (by omega)]
    by_cases h1 : (l.length : Int) ≤ 100
    · rw [if_pos h1]
      by_cases h2 : acc ≤ 500
      · rw [if_pos h2]
        refine ⟨_, rfl, fun h => ⟨by omega, ?_, by have := of_decide_eq_true h; omega⟩⟩
        have := hacc (by omega)
        rw [List.take_of_length_le (by omega)] at this
        omega
      · rw [if_neg h2]; exact ⟨false, rfl, fun h => by cases h⟩
    · rw [if_neg h1]; exact ⟨false, rfl, fun h => by cases h⟩
  | succ d ih =>
    intro k i acc hi hd hk hacc
    obtain ⟨k, rfl⟩ : ∃ j, k = j + 1 := ⟨k - 1, by omega⟩
    have hlt : i < l.length := by omega
    simp only [gazetteerlaw2_Few.l0]
    rw [if_pos (by omega), if_pos (by omega), wr ((i : Int) + 1) (by omega) (by omega), show ((i : Int) + 1) = ((i + 1 : Nat) : Int) by omega]
    refine ih k (i + 1) _ (by omega) (by omega) (by omega) (fun h => ?_)
    have h1 := hacc h
    have h2 := sum_most (l := l.take i) (m := 1000000000000000) (fun x hx2 => hx x (List.mem_of_mem_take hx2))
    have h3 : (l.take i).length ≤ 100 := by rw [List.length_take]; omega
    have h4 := hx l[i] (List.getElem_mem hlt)
    have h5 : l.take (i + 1) = l.take i ++ [l[i]] := by rw [List.take_add_one, List.getElem?_eq_getElem hlt]; rfl
    rw [rdT_at l i hlt, h5, List.map_append, List.sum_append, h1, wr _ (by omega) (by omega)]
    simp
theorem few_ok (l : List S33) (s : List Int) (hl : l.length ≤ 4000000000000000000) (hx : ∀ x ∈ l, x.f2.length ≤ 1000000000000000) (k : Nat) (hk : l.length < k) :
    ∃ b, gazetteerlaw2_Few.f k l s = some b ∧ (b = true → l.length ≤ 100 ∧ (∀ x ∈ l, x.f2.length ≤ 500) ∧ s.length ≤ 300) := by
  obtain ⟨b, h1, h2⟩ := few_l l s hl hx l.length k 0 0 (by omega) (by omega) hk (fun _ => by simp)
  exact ⟨b, h1, fun h => ⟨(h2 h).1, fun x hx => Nat.le_trans (sum_one hx) (h2 h).2.1, (h2 h).2.2⟩⟩
/-! ### rows in order -/
/-- No number stands ahead of one of a smaller positive key. -/
def Adj (k : Int → Int) : List Int → Prop
  | [] => True
  | [_] => True
  | a :: b :: t => (0 < k b → k a ≤ k b) ∧ Adj k (b :: t)
section
variable {k : Int → Int}
theorem adj_srt : ∀ {l : List Int}, Srt k l → Adj k l
  | [], _ => trivial
  | [_], _ => trivial
  | a :: b :: t, h => by
    have h' := List.pairwise_cons.1 h
    exact ⟨fun _ => h'.1 b (by simp), adj_srt h'.2⟩
theorem adj_join {x : Int} {t : List Int} (hx : ¬ 0 < k x) (h : Adj k (x :: t)) : ∀ {l : List Int}, Adj k l → Adj k (l ++ x :: t)
  | [], _ => h
  | [a], _ => ⟨fun q => absurd q hx, h⟩
  | a :: b :: l, h2 => ⟨h2.1, adj_join hx h (l := b :: l) h2.2⟩
theorem adj_cons0 {x : Int} {t : List Int} (hx : ¬ 0 < k x) (h : Adj k t) : Adj k (x :: t) := by
  cases t with
  | nil => trivial
  | cons b t => exact ⟨fun _ => by omega, h⟩
theorem ordA_adj : ∀ (s acc : List Int), Srt k acc → Adj k (ordA k acc s)
  | [], acc, h => adj_srt h
  | x :: t, acc, h => by
    unfold ordA
    split
    · exact ordA_adj t _ (insR_srt h)
    · rename_i hx
      exact adj_join hx (adj_cons0 hx (ordA_adj t [] List.Pairwise.nil)) (adj_srt h)
theorem insR_perm {x : Int} : ∀ l : List Int, (insR k x l).Perm (x :: l)
  | [] => List.Perm.refl _
  | y :: t => by
    unfold insR
    split
    · exact List.Perm.refl _
    · exact ((insR_perm t).cons y).trans (List.Perm.swap x y t)
theorem ordA_perm : ∀ (s acc : List Int), (ordA k acc s).Perm (acc ++ s)
  | [], acc => by simp [ordA]
  | x :: t, acc => by
    unfold ordA
    split
    · exact (ordA_perm t _).trans (((insR_perm acc).append_right t).trans List.perm_middle.symm)
    · exact List.Perm.append_left acc ((ordA_perm t []).cons x)
theorem insR_last {x : Int} : ∀ {l : List Int}, (∀ y ∈ l, k y ≤ k x) → insR k x l = l ++ [x]
  | [], _ => rfl
  | y :: t, h => by
    unfold insR
    rw [if_neg (by have := h y (by simp); omega), insR_last (fun z hz => h z (by simp [hz]))]
    rfl
theorem adj_last {x : Int} {t : List Int} (hp : 0 < k x) : ∀ {l : List Int}, Srt k l → Adj k (l ++ x :: t) → ∀ y ∈ l, k y ≤ k x
  | [], _, _, y, hy => by cases hy
  | [a], _, h, y, hy => by
    rw [List.mem_singleton] at hy
    subst hy
    exact h.1 hp
  | a :: b :: l, hs, h, y, hy => by
    have hs' := List.pairwise_cons.1 hs
    have h1 := adj_last hp (l := b :: l) hs'.2 h.2
    rcases List.mem_cons.1 hy with rfl | hy
    · exact Int.le_trans (hs'.1 b (by simp)) (h1 b (by simp))
    · exact h1 y hy
theorem adj_tail : ∀ {l m : List Int}, Adj k (l ++ m) → Adj k m
  | [], _, h => h
  | [a], [], _ => trivial
  | [a], b :: m, h => h.2
  | a :: b :: l, m, h => adj_tail (l := b :: l) h.2
theorem ordA_fix : ∀ (t acc : List Int), Srt k acc → Adj k (acc ++ t) → ordA k acc t = acc ++ t
  | [], acc, _, _ => by simp [ordA]
  | x :: t, acc, h, ha => by
    unfold ordA
    split
    · rename_i hp
      have hle := adj_last hp h ha
      rw [insR_last hle, ordA_fix t (acc ++ [x]) (List.pairwise_append.2 ⟨h, by simp, fun y hy z hz => by rw [List.mem_singleton] at hz; subst hz; exact hle y hy⟩) (by rw [List.append_assoc]; exact ha)]
      simp
    · rw [ordA_fix t [] List.Pairwise.nil (adj_tail (l := acc ++ [x]) (by rw [List.append_assoc]; exact ha))]
      rfl
theorem adj_at : ∀ (l : List Int) (i : Nat) (h : i + 1 < l.length), Adj k l → 0 < k l[i + 1] → k (l[i]'(by omega)) ≤ k l[i + 1]
  | [], _, h, _, _ => by simp at h
  | [_], _, h, _, _ => by simp at h
  | a :: b :: t, 0, _, h, hp => h.1 hp
  | a :: b :: t, i + 1, hi, h, hp => adj_at (b :: t) i (by simp at hi ⊢; omega) h.2 hp
end
theorem cnt_at (c : Int) (l : List Int) (j : Nat) (h : j < l.length) : (l.take (j + 1)).count c = (l.take j).count c + if l[j] = c then 1 else 0 := by
  rw [List.take_add_one, List.getElem?_eq_getElem h, List.count_append]
  simp [List.count_cons]
theorem cnt_le (c : Int) (l : List Int) (j : Nat) : (l.take j).count c ≤ l.length := Nat.le_trans List.count_le_length (by rw [List.length_take]; omega)
theorem tw_l1 (l : List S33) (hl : l.length ≤ 1000000) (n a : List Int) (hlen : n.length = a.length) (ha : a.length ≤ 1000000) (hadj : Adj (clsOf l) n) (i : Nat) (hi : i < a.length) (hc : n.count a[i] = a.count a[i]) (B : Nat)
    (Hn : ∀ k, B ≤ k → gazetteerlaw2_LoreTwice.l0 k l n a (wrap64 ((i : Int) + 1)) = some true) (d : Nat) : ∀ (k j : Nat), j ≤ a.length → a.length - j = d → B + d < k →
    gazetteerlaw2_LoreTwice.l1 k l n a (i : Int) ((a.take j).count a[i] : Nat) ((n.take j).count a[i] : Nat) (j : Int) = some true := by
  induction d with
  | zero =>
    intro k j hj hd hk
    obtain ⟨k, rfl⟩ : ∃ q, k = q + 1 := ⟨k - 1, by omega⟩
    simp only [gazetteerlaw2_LoreTwice.l1]
    rw [if_neg (by omega), List.take_of_length_le (by omega), List.take_of_length_le (by omega), if_pos (by rw [hc])]
    have h9 := Hn k (by omega)
    by_cases h0 : (i : Int) > 0
    · rw [if_pos h0, if_pos (by omega), if_pos (by omega), class_ok l hl, Option.bind_some, rd_at n i (by omega), h9]
      by_cases h1 : clsOf l (n[i]'(by omega)) > 0
      · have e1 : ((i : Int) - 1) = ((i - 1 : Nat) : Int) := by omega
        rw [if_pos h1, wr _ (by omega) (by omega), e1, if_pos (by omega), if_pos (by omega), class_ok l hl, Option.bind_some, Option.bind_some, rd_at n (i - 1) (by omega)]
        have h2 := adj_at n (i - 1) (by omega) hadj
        have e2 : n[i - 1 + 1]'(by omega) = n[i]'(by omega) := by congr 1; omega
        rw [e2] at h2
        rw [if_neg (by have := h2 h1; omega)]
      · rw [if_neg h1]
    · rw [if_neg h0, h9]
  | succ d ih =>
    intro k j hj hd hk
    obtain ⟨k, rfl⟩ : ∃ q, k = q + 1 := ⟨k - 1, by omega⟩
    have hja : j < a.length := by omega
    have hjn : j < n.length := by omega
    have c1 := cnt_le a[i] a j
    have c2 := cnt_le a[i] n j
    have h9 := ih k (j + 1) (by omega) (by omega) (by omega)
    rw [cnt_at _ a j hja, cnt_at _ n j hjn] at h9
    simp only [gazetteerlaw2_LoreTwice.l1]
    rw [if_pos (by omega), if_pos (by omega), if_pos (by omega), if_pos (by omega), rd_at a j hja, rd_at a i hi, rd_at n j hjn, wr ((j : Int) + 1) (by omega) (by omega), show ((j : Int) + 1) = ((j + 1 : Nat) : Int) by omega]
    have w1 := wr (((a.take j).count a[i] : Nat) + 1) (by omega) (by omega)
    have w2 := wr (((n.take j).count a[i] : Nat) + 1) (by omega) (by omega)
    have hjn2 : (j : Int) < (n.length : Int) := by omega
    by_cases h1 : a[j] = a[i]
    · rw [if_pos h1, if_pos hjn2]
      rw [if_pos h1] at h9
      by_cases h2 : n[j] = a[i]
      · rw [if_pos h2, w1, w2]; rw [if_pos h2] at h9; exact h9
      · rw [if_neg h2, w1]; rw [if_neg h2] at h9; exact h9
    · rw [if_neg h1, if_pos hjn2]
      rw [if_neg h1] at h9
      by_cases h2 : n[j] = a[i]
      · rw [if_pos h2, w2]; rw [if_pos h2] at h9; exact h9
      · rw [if_neg h2]; rw [if_neg h2] at h9; exact h9
theorem tw_l0 (l : List S33) (hl : l.length ≤ 1000000) (n a : List Int) (hp : n.Perm a) (ha : a.length ≤ 1000000) (hadj : Adj (clsOf l) n) (d : Nat) : ∀ (k i : Nat), i ≤ a.length → a.length - i = d → (d + 1) * (a.length + 3) < k →
    gazetteerlaw2_LoreTwice.l0 k l n a (i : Int) = some true := by
  induction d with
  | zero =>
    intro k i hi hd hk
    obtain ⟨k, rfl⟩ : ∃ q, k = q + 1 := ⟨k - 1, by omega⟩
    simp only [gazetteerlaw2_LoreTwice.l0]
    rw [if_neg (by omega)]
  | succ d ih =>
    intro k i hi hd hk
    obtain ⟨k, rfl⟩ : ∃ q, k = q + 1 := ⟨k - 1, by omega⟩
    have hlt : i < a.length := by omega
    have hmul : (d + 1 + 1) * (a.length + 3) = (d + 1) * (a.length + 3) + (a.length + 3) := by rw [Nat.add_mul, Nat.one_mul]
    simp only [gazetteerlaw2_LoreTwice.l0]
    rw [if_pos (by omega)]
    have h := tw_l1 l hl n a hp.length_eq ha hadj i hlt (hp.count_eq _) ((d + 1) * (a.length + 3) + 1) (fun k' hk' => by
      rw [wr _ (by omega) (by omega), show ((i : Int) + 1) = ((i + 1 : Nat) : Int) by omega]
      exact ih k' (i + 1) (by omega) (by omega) (by omega)) a.length k 0 (by omega) (by omega) (by omega)
    simpa using h
theorem apart_self (l : List S33) : ∀ n : List Int, (∀ r ∈ n, (rowOf l r).f2.length = 0) → apartL l n = n
  | [], _ => rfl
  | r :: n, h => by
    have h1 := apart_self l n (fun q hq => h q (by simp [hq]))
    unfold apartL at h1 ⊢
    rw [List.flatMap_cons, h1]
    unfold pieceOf
    rw [if_pos (h r (by simp))]; rfl
theorem apart_mem (l : List S33) (ho : ∀ x ∈ l, oneB l x.f1 x.f2 = true) (s : List Int) (hs : ∀ r ∈ s, mayB r = true) (r : Int) (hr : r ∈ apartL l s) : mayB r = true ∧ (rowOf l r).f2.length = 0 := by
  unfold apartL at hr
  obtain ⟨q, hq, hr⟩ := List.mem_flatMap.1 hr
  unfold pieceOf at hr
  split at hr
  · rename_i h
    rw [List.mem_singleton] at hr
    subst hr
    exact ⟨hs _ hq, h⟩
  · rename_i h
    rcases row_cases l q with e | e
    · rw [e] at h; exact absurd rfl h
    · have h1 := ho _ e
      unfold oneB at h1
      rw [Bool.and_eq_true] at h1
      have h2 := List.all_eq_true.1 h1.2 r hr
      rw [Bool.and_eq_true] at h2
      exact ⟨h2.1, of_decide_eq_true h2.2⟩
theorem LoreTwice : gazetteerlaw2_LoreTwice.Pure := by
  intro l s h0 h1
  obtain ⟨K, hK⟩ : ∃ K, K = l.length + 1000000000000 := ⟨_, rfl⟩
  refine ⟨K + 1, ?_⟩
  have hl : l.length ≤ 4000000000000000000 := by omega
  have hx : ∀ x ∈ l, x.f2.length ≤ 1000000000000000 := fun x hx => by have := (h0.2.2 x hx).2.2.2.1; omega
  obtain ⟨b1, e1, f1⟩ := few_ok l s hl hx (K + 1) (by omega)
  unfold gazetteerlaw2_LoreTwice.f
  refine bindE (awake_ok _ (by omega)) (iteT rfl (bindE e1 ?_))
  cases b1 with
  | false => rfl
  | true =>
  obtain ⟨g1, g2, g3⟩ := f1 rfl
  have la := apart_len l 500 (by omega) g2 s
  have hl2 : l.length ≤ 1000000 := by omega
  obtain ⟨n, e, en, he⟩ := normal_ok l s hl2 (by omega) (by omega)
  refine iteT rfl (bindE en ?_)
  by_cases h9 : e = 0
  case neg => exact iteF h9 rfl
  case pos =>
  obtain ⟨q1, q2, q3⟩ := he h9
  subst h9
  obtain ⟨b, hb, hb2⟩ := may_some l
  rw [q1] at hb
  have hone := (hb2 (Option.some.inj hb).symm).2
  have hmem := apart_mem l hone s q2
  have hperm : n.Perm (apartL l s) := by rw [q3]; exact ordA_perm _ []
  have hnl : n.length = (apartL l s).length := hperm.length_eq
  have hadj : Adj (clsOf l) n := by rw [q3]; exact ordA_adj _ [] List.Pairwise.nil
  have hself : apartL l n = n := apart_self l n (fun r hr => (hmem r (hperm.mem_iff.1 hr)).2)
  have hord : orderL l n = n := ordA_fix n [] List.Pairwise.nil hadj
  have e2 := normal_of l n hl2 (by omega) (by rw [hself]; omega) q1 (fun r hr => (hmem r (hperm.mem_iff.1 hr)).1)
  rw [hself, hord] at e2
  refine iteT rfl (bindE e2 ?_)
  refine bindE (apart_ok l hl2 s (by omega) (by omega)) ?_
  refine iteT rfl ?_
  refine bindE (same_rfl n (by omega) _ (by omega)) ?_
  refine iteT rfl ?_
  simp only [gazetteerlaw2_LoreTwice.j0]
  refine iteF (by rw [hnl]; simp) ?_
  have hm : ((apartL l s).length + 1) * ((apartL l s).length + 3) ≤ 150001 * 150003 := Nat.mul_le_mul (by omega) (by omega)
  exact tw_l0 l hl2 n (apartL l s) hperm (by omega) hadj (apartL l s).length _ 0 (by omega) (by omega) (by omega)
end Go.Proofs.Ytdmahdgcfaieoaa.Pure

/- LoreParts, the plain law over the printed functions. No condition. -/
import Derived.Test.YtdmahdgcfaieoaaPLorePartsy
namespace Go.Proofs.Ytdmahdgcfaieoaa.Pure
set_option linter.unusedVariables false
set_option linter.unusedSimpArgs false
open Go.RowKit Go.Proofs.Ytdmahdgcfaieoaa.PLoreParts Go.Proofs.YtdmahdgcfaieoaaW.PrintWords Go.Proofs.YtdmahdgcfaieoaaW.PrintLast Go.Proofs.YtdmahdgcfaieoaaW.PrintMore
theorem wr (x : Int) (h0 : -9223372036854775808 ≤ x) (h1 : x ≤ 9223372036854775807) : wrap64 x = x := by
  unfold wrap64; omega
theorem rd_at (l : List Int) (i : Nat) (h : i < l.length) : rd l (i : Int) = l[i] := by
  unfold rd; simp [List.getD, h]
theorem rdT_at (l : List S33) (i : Nat) (h : i < l.length) : rd_T33 l (i : Int) = l[i] := by
  unfold rd_T33; simp [List.getD, h]
theorem drop_at {α : Type} (l : List α) (i : Nat) (h : i < l.length) : l.drop i = l[i] :: l.drop (i + 1) := (List.drop_eq_getElem_cons h)
/-! ### the same runes -/
theorem same_l (a b : List Int) (hn : a.length ≤ 1000000) (hab : a.length = b.length) (d : Nat) : ∀ (k i : Nat), i ≤ a.length → a.length - i = d → d < k →
    gazetteerlaw1_Same.l0 k a b (i : Int) = some (decide (a.drop i = b.drop i)) := by
  induction d with
  | zero =>
    intro k i hi hd hk
    obtain ⟨k, rfl⟩ : ∃ j, k = j + 1 := ⟨k - 1, by omega⟩
    simp only [gazetteerlaw1_Same.l0]
    rw [if_neg (by omega), List.drop_eq_nil_of_le (by omega), List.drop_eq_nil_of_le (by omega)]
    rfl
  | succ d ih =>
    intro k i hi hd hk
    obtain ⟨k, rfl⟩ : ∃ j, k = j + 1 := ⟨k - 1, by omega⟩
    have hlt : i < a.length := by omega
    have hlt2 : i < b.length := by omega
    simp only [gazetteerlaw1_Same.l0]
    rw [if_pos (by omega), if_pos (by omega), if_pos (by omega), rd_at a i hlt, rd_at b i hlt2, drop_at a i hlt, drop_at b i hlt2]
    by_cases h : a[i] = b[i]
    · rw [if_pos h, wr _ (by omega) (by omega), show ((i : Int) + 1) = ((i + 1 : Nat) : Int) by omega, ih k (i + 1) (by omega) (by omega) (by omega)]
      congr 1
      exact decide_eq_decide.2 ⟨fun e => by rw [h, e], fun e => (List.cons.inj e).2⟩
    · rw [if_neg h, decide_eq_false (fun e => h (List.cons.inj e).1)]
theorem same_eq (a b : List Int) (hn : a.length ≤ 1000000) (k : Nat) (hk : a.length < k) : gazetteerlaw1_Same.f k a b = some (decide (a = b)) := by
  unfold gazetteerlaw1_Same.f
  by_cases h : (a.length : Int) = (b.length : Int)
  · have := same_l a b hn (by omega) a.length k 0 (by omega) (by omega) hk
    rw [if_pos h]
    simpa using this
  · rw [if_neg h]
    have : a ≠ b := fun e => h (by rw [e])
    rw [decide_eq_false this]
theorem same_rfl (a : List Int) (hn : a.length ≤ 1000000) (k : Nat) (hk : a.length < k) : gazetteerlaw1_Same.f k a a = some true := by
  rw [same_eq a a hn k hk]; simp
/-! ### awake -/
set_option maxRecDepth 100000 in
theorem awake_ok (k : Nat) (hk : 10 ≤ k) : gazetteerlaw2_awake.f k = some true := by
  unfold gazetteerlaw2_awake.f
  refine bindE (a := [⟨233, 0, [101, 769]⟩, ⟨769, 230, []⟩]) rfl ?_
  refine bindE (a := ([101, 769], 0)) (by kernel_rfl) ?_
  refine iteT rfl ?_
  refine bindE (same_rfl [101, 769] (by decide) k (by simp only [List.length_cons, List.length_nil]; omega)) ?_
  refine iteT rfl ?_
  refine bindE (a := true) (by kernel_rfl) ?_
  refine iteT rfl ?_
  refine bindE (a := 230) (by kernel_rfl) ?_
  refine iteT rfl ?_
  refine bindE (a := 0) (by kernel_rfl) ?_
  rfl
/-! ### lore -/
theorem may_k (a : Int) (k : Nat) (hk : 1 ≤ k) : scalar_May.f k a = some (mayB a) := by
  obtain ⟨k, rfl⟩ : ∃ j, k = j + 1 := ⟨k - 1, by omega⟩
  unfold scalar_May.f utf8_ValidRune.f mayB
  by_cases h0 : 0 ≤ a
  · by_cases h1 : a < 55296
    · simp [utf8_ValidRune.j0, h0, h1]
    · by_cases h2 : 57343 < a
      · by_cases h3 : a ≤ 1114111 <;> simp [utf8_ValidRune.j0, h0, h1, h2, h3]
      · simp [utf8_ValidRune.j0, h0, h1, h2]
  · have h2 : ¬ 57343 < a := by omega
    simp [utf8_ValidRune.j0, h0, h2]
theorem rises_l (l : List S33) (hl : l.length ≤ 64) (d : Nat) : ∀ (k i : Nat), i ≤ l.length → l.length - i = d → d + 1 < k → ∃ b, lore_rises.l0 k l l (l.length : Int) (i : Int) = some b := by
  induction d with
  | zero =>
    intro k i hi hd hk
    obtain ⟨k, rfl⟩ : ∃ j, k = j + 1 := ⟨k - 1, by omega⟩
    simp only [lore_rises.l0]
    rw [if_neg (by omega)]
    exact ⟨_, rfl⟩
  | succ d ih =>
    intro k i hi hd hk
    obtain ⟨k, rfl⟩ : ∃ j, k = j + 1 := ⟨k - 1, by omega⟩
    simp only [lore_rises.l0]
    rw [if_pos (by omega), if_pos (by omega), if_pos (by omega), may_k _ k (by omega), Option.bind_some, wr ((i : Int) + 1) (by omega) (by omega), show ((i : Int) + 1) = ((i + 1 : Nat) : Int) by omega]
    obtain ⟨b, hb⟩ := ih k (i + 1) (by omega) (by omega) (by omega)
    rw [hb]
    by_cases h1 : mayB (rd_T33 l (i : Int)).f0 = true
    · rw [if_pos h1]
      by_cases h2 : (i : Int) > 0
      · rw [if_pos h2, wr ((i : Int) - 1) (by omega) (by omega), if_pos (by omega), if_pos (by omega)]
        split
        · exact ⟨_, rfl⟩
        · exact ⟨_, rfl⟩
      · rw [if_neg h2]; exact ⟨_, rfl⟩
    · rw [if_neg h1]; exact ⟨_, rfl⟩
theorem may_some (l : List S33) : ∃ b, lore_May.f l = some b ∧ (b = true → l.length ≤ 64 ∧ ∀ x ∈ l, oneB l x.f1 x.f2 = true) := by
  unfold lore_May.f
  by_cases h : (l.length : Int) > 64
  · rw [if_pos h]; exact ⟨false, rfl, fun h => by cases h⟩
  · rw [if_neg h]
    obtain ⟨t, ht⟩ := rises_l l (by omega) l.length 1000 0 (by omega) (by omega) (by omega)
    unfold lore_rises.f
    refine ⟨t && l.all (fun x => oneB l x.f1 x.f2), bindE ht rfl, fun hb => ⟨by omega, ?_⟩⟩
    rw [Bool.and_eq_true] at hb
    exact List.all_eq_true.1 hb.2
theorem firstAt_cases (l : List S33) (r : Int) : (firstAt (fun s : S33 => s.f0 == r) l = -1 ∧ ∀ s ∈ l, s.f0 ≠ r) ∨ ∃ (i : Nat) (h : i < l.length), firstAt (fun s : S33 => s.f0 == r) l = (i : Int) ∧ l[i].f0 = r := by
  unfold firstAt
  cases h : l.findIdx? (fun s : S33 => s.f0 == r) with
  | none => exact .inl ⟨rfl, fun s hs e => by have := List.findIdx?_eq_none_iff.1 h s hs; simp [e] at this⟩
  | some i =>
    obtain ⟨hi, hp, _⟩ := List.findIdx?_eq_some_iff_getElem.1 h
    exact .inr ⟨i, hi, rfl, by simpa using hp⟩
theorem row_cases (l : List S33) (r : Int) : rowOf l r = z33 ∨ rowOf l r ∈ l := by
  unfold rowOf
  rcases firstAt_cases l r with ⟨h, _⟩ | ⟨i, hi, h, _⟩
  · rw [h]; exact .inl rfl
  · rw [h, if_neg (by omega), rdT_at l i hi]; exact .inr (List.getElem_mem hi)
theorem piece_len (l : List S33) (r : Int) (m : Nat) (hm : 1 ≤ m) (h : ∀ x ∈ l, x.f2.length ≤ m) : (pieceOf l r).length ≤ m := by
  unfold pieceOf
  split
  · simpa using hm
  · rcases row_cases l r with e | e
    · rw [e]; simp [z33]
    · exact h _ e
theorem apart_len (l : List S33) (m : Nat) (hm : 1 ≤ m) (h : ∀ x ∈ l, x.f2.length ≤ m) : ∀ s : List Int, (apartL l s).length ≤ m * s.length
  | [] => by simp [apartL]
  | r :: s => by
    have h1 := apart_len l m hm h s
    have h2 := piece_len l r m hm h
    unfold apartL at h1 ⊢
    rw [List.flatMap_cons, List.length_append, List.length_cons, Nat.mul_add]
    omega
theorem order_len (l : List S33) (s : List Int) : (orderL l s).length = s.length := by
  unfold orderL; rw [Go.Proofs.YtdmahdgcfaieoaaW.PrintSort.ordA_len]; simp
theorem order_ok (l : List S33) (hl : l.length ≤ 1000000) (s : List Int) (hs : s.length ≤ 35184372088832) : lore_Order.f l s = some (orderL l s) := by
  unfold lore_Order.f; rw [if_pos ⟨by omega, hs⟩]
theorem apart_ok (l : List S33) (hl : l.length ≤ 1000000) (s : List Int) (hs : s.length ≤ 1000000) (ha : (apartL l s).length < 35184372088832) : lore_Apart.f l s = some (apartL l s) := by
  unfold lore_Apart.f; rw [if_pos ⟨by omega, by omega, ha⟩]
theorem class_ok (l : List S33) (hl : l.length ≤ 1000000) (r : Int) : lore_Class.f l r = some (clsOf l r) := by
  unfold lore_Class.f clsOf; rw [if_pos (by omega)]
theorem normal_ok (l : List S33) (s : List Int) (hl : l.length ≤ 1000000) (hs : s.length ≤ 1000000) (ha : (apartL l s).length < 35184372088832) :
    ∃ n e, lore_Normal.f l s = some (n, e) ∧ (e = 0 → lore_May.f l = some true ∧ (∀ r ∈ s, mayB r = true) ∧ n = orderL l (apartL l s)) := by
  obtain ⟨b, hb, hb2⟩ := may_some l
  unfold lore_Normal.f
  rw [hb, Option.bind_some]
  cases b with
  | false => exact ⟨[], 4, rfl, fun h => by cases h⟩
  | true =>
    rw [if_pos rfl]
    unfold slices_ContainsFunc_rune_rune.f
    rw [if_pos (by omega), Option.bind_some]
    cases hany : s.any (fun r => !mayB r) with
    | true => exact ⟨[], 2, rfl, fun h => by cases h⟩
    | false =>
      refine ⟨orderL l (apartL l s), 0, ?_, fun _ => ⟨rfl, fun r hr => ?_, rfl⟩⟩
      · rw [if_neg (by simp)]
        refine bindE (apart_ok l hl s hs ha) ?_
        refine bindE (order_ok l hl _ (Nat.le_of_lt ha)) ?_
        rfl
      · have := List.any_eq_false.1 hany r hr
        simpa using this
theorem normal_of (l : List S33) (s : List Int) (hl : l.length ≤ 1000000) (hs : s.length ≤ 1000000) (ha : (apartL l s).length < 35184372088832) (h1 : lore_May.f l = some true) (h2 : ∀ r ∈ s, mayB r = true) :
    lore_Normal.f l s = some (orderL l (apartL l s), 0) := by
  unfold lore_Normal.f slices_ContainsFunc_rune_rune.f
  have hany : s.any (fun r => !mayB r) = false := List.any_eq_false.2 (fun r hr => by simp [h2 r hr])
  rw [h1, Option.bind_some, if_pos rfl, if_pos (by omega), Option.bind_some, hany, if_neg (by simp)]
  refine bindE (apart_ok l hl s hs ha) ?_
  refine bindE (order_ok l hl _ (Nat.le_of_lt ha)) ?_
  rfl
/-! ### few -/
theorem sum_one {l : List S33} {x : S33} (h : x ∈ l) : x.f2.length ≤ (l.map (fun x => x.f2.length)).sum := by
  induction l with
  | nil => cases h
  | cons y l ih =>
    rw [List.map_cons, List.sum_cons]
    rcases List.mem_cons.1 h with rfl | h
    · omega
    · have := ih h; omega
theorem sum_most {l : List S33} {m : Nat} (h : ∀ x ∈ l, x.f2.length ≤ m) : (l.map (fun x => x.f2.length)).sum ≤ m * l.length := by
  induction l with
  | nil => simp
  | cons y l ih =>
    have h1 := ih (fun x hx => h x (by simp [hx]))
    have h2 := h y (by simp)
    rw [List.map_cons, List.sum_cons, List.length_cons, Nat.mul_add]
    omega
theorem few_l (l : List S33) (s : List Int) (hl : l.length ≤ 4000000000000000000) (hx : ∀ x ∈ l, x.f2.length ≤ 1000000000000000) (d : Nat) : ∀ (k i : Nat) (acc : Int), i ≤ l.length → l.length - i = d → d < k →
    (l.length ≤ 100 → acc = (((l.take i).map (fun x => x.f2.length)).sum : Nat)) →
    ∃ b, gazetteerlaw2_Few.l0 k l s acc (i : Int) = some b ∧ (b = true → l.length ≤ 100 ∧ (l.map (fun x => x.f2.length)).sum ≤ 500 ∧ s.length ≤ 300) := by
  induction d with
  | zero =>
    intro k i acc hi hd hk hacc
    obtain ⟨k, rfl⟩ : ∃ j, k = j + 1 := ⟨k - 1, by omega⟩
    simp only [gazetteerlaw2_Few.l0]
    rw [if_neg (by omega)]
    by_cases h1 : (l.length : Int) ≤ 100
    · rw [if_pos h1]
      by_cases h2 : acc ≤ 500
      · rw [if_pos h2]
        refine ⟨_, rfl, fun h => ⟨by omega, ?_, by have := of_decide_eq_true h; omega⟩⟩
        have := hacc (by omega)
        rw [List.take_of_length_le (by omega)] at this
        omega
      · rw [if_neg h2]; exact ⟨false, rfl, fun h => by cases h⟩
    · rw [if_neg h1]; exact ⟨false, rfl, fun h => by cases h⟩
  | succ d ih =>
    intro k i acc hi hd hk hacc
    obtain ⟨k, rfl⟩ : ∃ j, k = j + 1 := ⟨k - 1, by omega⟩
    have hlt : i < l.length := by omega
    simp only [gazetteerlaw2_Few.l0]
    rw [if_pos (by omega), if_pos (by omega), wr ((i : Int) + 1) (by omega) (by omega), show ((i : Int) + 1) = ((i + 1 : Nat) : Int) by omega]
    refine ih k (i + 1) _ (by omega) (by omega) (by omega) (fun h => ?_)
    have h1 := hacc h
    have h2 := sum_most (l := l.take i) (m := 1000000000000000) (fun x hx2 => hx x (List.mem_of_mem_take hx2))
    have h3 : (l.take i).length ≤ 100 := by rw [List.length_take]; omega
    have h4 := hx l[i] (List.getElem_mem hlt)
    have h5 : l.take (i + 1) = l.take i ++ [l[i]] := by rw [List.take_add_one, List.getElem?_eq_getElem hlt]; rfl
    rw [rdT_at l i hlt, h5, List.map_append, List.sum_append, h1, wr _ (by omega) (by omega)]
    simp
theorem few_ok (l : List S33) (s : List Int) (hl : l.length ≤ 4000000000000000000) (hx : ∀ x ∈ l, x.f2.length ≤ 1000000000000000) (k : Nat) (hk : l.length < k) :
    ∃ b, gazetteerlaw2_Few.f k l s = some b ∧ (b = true → l.length ≤ 100 ∧ (∀ x ∈ l, x.f2.length ≤ 500) ∧ s.length ≤ 300) := by
  obtain ⟨b, h1, h2⟩ := few_l l s hl hx l.length k 0 0 (by omega) (by omega) hk (fun _ => by simp)
  exact ⟨b, h1, fun h => ⟨(h2 h).1, fun x hx => Nat.le_trans (sum_one hx) (h2 h).2.1, (h2 h).2.2⟩⟩
/-! ### the document's own answer -/
theorem find_l (l : List S33) (hl : l.length ≤ 4000000000000000000) (r : Int) (d : Nat) : ∀ (k i : Nat), i ≤ l.length → l.length - i = d → d < k → (∀ j < i, (fun s : S33 => s.f0 == r) (l.getD j z33) = false) →
    gazetteerref1_find.l0 k l r (i : Int) = some (firstAt (fun s : S33 => s.f0 == r) l) := by
  induction d with
  | zero =>
    intro k i hi hd hk ha
    obtain ⟨k, rfl⟩ : ∃ j, k = j + 1 := ⟨k - 1, by omega⟩
    simp only [gazetteerref1_find.l0]
    rw [if_neg (by omega), firstAt_none (d := z33) (fun j hj => ha j (by omega))]
  | succ d ih =>
    intro k i hi hd hk ha
    obtain ⟨k, rfl⟩ : ∃ j, k = j + 1 := ⟨k - 1, by omega⟩
    have hlt : i < l.length := by omega
    simp only [gazetteerref1_find.l0]
    rw [if_pos (by omega), if_pos (by omega)]
    by_cases h : (rd_T33 l (i : Int)).f0 = r
    · rw [if_pos h, firstAt_at (d := z33) hlt (by show ((l.getD i z33).f0 == r) = true; rw [beq_iff_eq]; unfold rd_T33 at h; simpa using h) ha]
    · rw [if_neg h, wr _ (by omega) (by omega), show ((i : Int) + 1) = ((i + 1 : Nat) : Int) by omega]
      refine ih k (i + 1) (by omega) (by omega) (by omega) (fun j hj => ?_)
      rcases Nat.lt_succ_iff_lt_or_eq.1 hj with h2 | rfl
      · exact ha j h2
      · show ((l.getD j z33).f0 == r) = false
        rw [beq_eq_false_iff_ne]; unfold rd_T33 at h; simpa using h
theorem find_ok (l : List S33) (hl : l.length ≤ 4000000000000000000) (r : Int) (k : Nat) (hk : l.length < k) : gazetteerref1_find.f k l r = some (firstAt (fun s : S33 => s.f0 == r) l) :=
  find_l l hl r l.length k 0 (by omega) (by omega) hk (by omega)
theorem rclass_ok (l : List S33) (hl : l.length ≤ 4000000000000000000) (r : Int) (k : Nat) (hk : l.length < k) : gazetteerref1_Class.f k l r = some (clsOf l r) := by
  unfold gazetteerref1_Class.f
  refine bindE (find_ok l hl r k hk) ?_
  unfold clsOf rowOf
  rcases firstAt_cases l r with ⟨h, _⟩ | ⟨i, hi, h, _⟩
  · rw [h]; rfl
  · rw [h, if_neg (by omega), if_pos (by omega), if_pos (by omega), if_neg (by omega)]
theorem rmay_some (a : Int) : ∃ b, gazetteerref1_May.f a = some b := by
  unfold gazetteerref1_May.f
  split
  · split
    · split <;> exact ⟨_, rfl⟩
    · exact ⟨_, rfl⟩
  · exact ⟨_, rfl⟩
theorem lm_l1 (l : List S33) (hl : l.length ≤ 64) (i : Int) (x y : Int) (tos : List Int) (ht : tos.length ≤ 3) (B : Nat) (hB : 70 ≤ B) (Hn : ∀ k, B ≤ k → ∃ b, gazetteerref1_LoreMay.l0 k l (wrap64 (i + 1)) = some b) (d : Nat) : ∀ (k j : Nat), j ≤ tos.length → tos.length - j = d → B + d < k →
    ∃ b, gazetteerref1_LoreMay.l1 k l i (j : Int) x y tos = some b := by
  induction d with
  | zero =>
    intro k j hj hd hk
    obtain ⟨k, rfl⟩ : ∃ j, k = j + 1 := ⟨k - 1, by omega⟩
    simp only [gazetteerref1_LoreMay.l1]
    rw [if_neg (by omega)]
    exact Hn k (by omega)
  | succ d ih =>
    intro k j hj hd hk
    obtain ⟨k, rfl⟩ : ∃ j, k = j + 1 := ⟨k - 1, by omega⟩
    have hn : ∃ b, gazetteerref1_LoreMay.l1 k l i (wrap64 ((j : Int) + 1)) x y tos = some b := by
      rw [wr _ (by omega) (by omega), show ((j : Int) + 1) = ((j + 1 : Nat) : Int) by omega]
      exact ih k (j + 1) (by omega) (by omega) (by omega)
    obtain ⟨b, hb⟩ := rmay_some (rd tos (j : Int))
    simp only [gazetteerref1_LoreMay.l1]
    rw [if_pos (by omega), if_pos (by omega), find_ok l (by omega) _ k (by omega), Option.bind_some, hb, Option.bind_some]
    cases b with
    | false => exact ⟨false, rfl⟩
    | true =>
      rw [if_pos rfl]
      rcases firstAt_cases l (rd tos (j : Int)) with ⟨h, _⟩ | ⟨q, hq, h, _⟩
      · rw [h, if_neg (by omega)]; exact hn
      · rw [h, if_pos (by omega), if_pos (by omega), if_pos (by omega)]
        split
        · exact ⟨false, rfl⟩
        · exact hn
theorem lm_l0 (l : List S33) (hl : l.length ≤ 64) (d : Nat) : ∀ (k i : Nat), i ≤ l.length → l.length - i = d → 70 + d * 7 < k → ∃ b, gazetteerref1_LoreMay.l0 k l (i : Int) = some b := by
  induction d with
  | zero =>
    intro k i hi hd hk
    obtain ⟨k, rfl⟩ : ∃ j, k = j + 1 := ⟨k - 1, by omega⟩
    simp only [gazetteerref1_LoreMay.l0]
    rw [if_neg (by omega)]
    exact ⟨_, rfl⟩
  | succ d ih =>
    intro k i hi hd hk
    obtain ⟨k, rfl⟩ : ∃ j, k = j + 1 := ⟨k - 1, by omega⟩
    have hj : ∀ b x y tos, (b = false → tos.length ≤ 3) → ∃ c, gazetteerref1_LoreMay.j1 k l (i : Int) b x y tos = some c := by
      intro b x y tos hb
      obtain ⟨k, rfl⟩ : ∃ j, k = j + 1 := ⟨k - 1, by omega⟩
      simp only [gazetteerref1_LoreMay.j1]
      cases b with
      | true => exact ⟨false, rfl⟩
      | false =>
        rw [if_neg (by simp)]
        refine lm_l1 l hl (i : Int) x y tos (hb rfl) (71 + d * 7) (by omega) (fun k' hk' => ?_) tos.length k 0 (by omega) (by omega) (by have := hb rfl; omega)
        rw [wr _ (by omega) (by omega), show ((i : Int) + 1) = ((i + 1 : Nat) : Int) by omega]
        exact ih k' (i + 1) (by omega) (by omega) (by omega)
    obtain ⟨b, hb⟩ := rmay_some (rd_T33 l (i : Int)).f0
    simp only [gazetteerref1_LoreMay.l0]
    rw [if_pos (by omega), if_pos (by omega), hb, Option.bind_some]
    have htail : ∃ c, (if (rd_T33 l (i : Int)).f1 < 0 then gazetteerref1_LoreMay.j1 k l (i : Int) true (rd_T33 l (i : Int)).f0 (rd_T33 l (i : Int)).f1 (rd_T33 l (i : Int)).f2 else (if (rd_T33 l (i : Int)).f1 > 254 then gazetteerref1_LoreMay.j1 k l (i : Int) true (rd_T33 l (i : Int)).f0 (rd_T33 l (i : Int)).f1 (rd_T33 l (i : Int)).f2 else (if ((rd_T33 l (i : Int)).f2.length : Int) > 3 then gazetteerref1_LoreMay.j1 k l (i : Int) true (rd_T33 l (i : Int)).f0 (rd_T33 l (i : Int)).f1 (rd_T33 l (i : Int)).f2 else (if ((rd_T33 l (i : Int)).f2.length : Int) = 0 then gazetteerref1_LoreMay.j1 k l (i : Int) ((rd_T33 l (i : Int)).f1 == 0) (rd_T33 l (i : Int)).f0 (rd_T33 l (i : Int)).f1 (rd_T33 l (i : Int)).f2 else gazetteerref1_LoreMay.j1 k l (i : Int) false (rd_T33 l (i : Int)).f0 (rd_T33 l (i : Int)).f1 (rd_T33 l (i : Int)).f2)))) = some c := by
      split
      · exact hj _ _ _ _ (fun h => by cases h)
      · split
        · exact hj _ _ _ _ (fun h => by cases h)
        · split
          · exact hj _ _ _ _ (fun h => by cases h)
          · split
            · exact hj _ _ _ _ (fun _ => by omega)
            · exact hj _ _ _ _ (fun _ => by omega)
    cases b with
    | false => exact hj _ _ _ _ (fun h => by cases h)
    | true =>
      rw [if_pos rfl]
      by_cases h0 : (i : Int) > 0
      · rw [if_pos h0, wr ((i : Int) - 1) (by omega) (by omega), if_pos (by omega), if_pos (by omega)]
        split
        · exact hj _ _ _ _ (fun h => by cases h)
        · exact htail
      · rw [if_neg h0]; exact htail
theorem lm_ok (l : List S33) (k : Nat) (hk : 1000 ≤ k) : ∃ b, gazetteerref1_LoreMay.f k l = some b := by
  unfold gazetteerref1_LoreMay.f
  by_cases h : (l.length : Int) > 64
  · rw [if_pos h]; exact ⟨_, rfl⟩
  · rw [if_neg h]
    exact lm_l0 l (by omega) l.length k 0 (by omega) (by omega) (by omega)
theorem ord_parts (k : Int → Int) (x : Int) (hx : ¬ 0 < k x) (b : List Int) : ∀ (a acc : List Int), Go.Proofs.YtdmahdgcfaieoaaW.PrintSort.ordA k acc (a ++ x :: b) = Go.Proofs.YtdmahdgcfaieoaaW.PrintSort.ordA k acc a ++ x :: Go.Proofs.YtdmahdgcfaieoaaW.PrintSort.ordA k [] b
  | [], acc => by rw [List.nil_append]; simp only [Go.Proofs.YtdmahdgcfaieoaaW.PrintSort.ordA, if_neg hx]
  | y :: a, acc => by
    rw [List.cons_append, Go.Proofs.YtdmahdgcfaieoaaW.PrintSort.ordA, Go.Proofs.YtdmahdgcfaieoaaW.PrintSort.ordA]
    split
    · exact ord_parts k x hx b a _
    · rw [ord_parts k x hx b a [], List.append_assoc]; rfl
theorem LoreParts : gazetteerlaw2_LoreParts.Pure := by
  intro l a b h0 h1 h2
  obtain ⟨m, hm⟩ : ∃ m, m = l.length + 1000000 := ⟨_, rfl⟩
  refine ⟨m + 1, ?_⟩
  have hl : l.length ≤ 4000000000000000000 := by omega
  have hx : ∀ x ∈ l, x.f2.length ≤ 1000000000000000 := fun x hx => by have := (h0.2.2 x hx).2.2.2.1; omega
  unfold gazetteerlaw2_LoreParts.f
  refine bindE (awake_ok _ (by omega)) (iteT rfl ?_)
  obtain ⟨b1, e1, f1⟩ := few_ok l a hl hx (m + 1) (by omega)
  obtain ⟨b2, e2, f2⟩ := few_ok l b hl hx (m + 1) (by omega)
  obtain ⟨b3, e3⟩ := lm_ok l (m + 1) (by omega)
  refine bindE e1 ?_
  cases b1 with
  | false => rfl
  | true =>
  refine iteT rfl (bindE e2 ?_)
  cases b2 with
  | false => rfl
  | true =>
  refine iteT rfl (bindE e3 ?_)
  cases b3 with
  | false => rfl
  | true =>
  refine iteT rfl (bindE (rclass_ok l hl 120 _ (by omega)) ?_)
  by_cases hc : clsOf l 120 = 0
  case neg => rw [show (clsOf l 120 != 0) = true by rw [bne_iff_ne]; exact hc]; rfl
  case pos =>
  rw [show (clsOf l 120 != 0) = false by rw [hc]; rfl]
  obtain ⟨g1, g2, g3⟩ := f1 rfl
  obtain ⟨_, _, g4⟩ := f2 rfl
  have la := apart_len l 500 (by omega) g2 a
  have lb := apart_len l 500 (by omega) g2 b
  have lab := apart_len l 500 (by omega) g2 (a ++ b)
  rw [List.length_append] at lab
  have hl2 : l.length ≤ 1000000 := by omega
  simp only [gazetteerlaw2_LoreParts.j0]
  refine iteF (by simp) ?_
  refine bindE (a := []) rfl ?_
  refine iteT (by simp; omega) ?_
  refine bindE (a := a) (by simp) ?_
  refine iteT (by omega) ?_
  refine bindE (a := a ++ [120]) rfl ?_
  refine iteT (by simp; omega) ?_
  refine bindE (order_ok l hl2 _ (by simp; omega)) ?_
  refine bindE (order_ok l hl2 a (by omega)) ?_
  refine iteT (by rw [order_len]; omega) ?_
  refine bindE (a := orderL l a ++ [120]) rfl ?_
  refine bindE (order_ok l hl2 b (by omega)) ?_
  refine iteT (by rw [order_len]; simp [order_len]; omega) ?_
  refine bindE (a := []) rfl ?_
  refine iteT (by simp; omega) ?_
  refine bindE (a := a) (by simp) ?_
  refine iteT (by omega) ?_
  refine bindE (apart_ok l hl2 (a ++ b) (by rw [List.length_append]; omega) (by omega)) ?_
  have eo : orderL l (a ++ [120] ++ b) = orderL l a ++ [120] ++ orderL l b := by
    unfold orderL
    rw [List.append_assoc, List.append_assoc]
    exact ord_parts (clsOf l) 120 (by rw [hc]; omega) b a []
  rw [eo]
  refine bindE (same_rfl _ (by simp [order_len]; omega) m (by simp [order_len]; omega)) ?_
  refine iteT rfl ?_
  refine bindE (apart_ok l hl2 a (by omega) (by omega)) ?_
  refine bindE (apart_ok l hl2 b (by omega) (by omega)) ?_
  refine iteT (by omega) ?_
  have ea : apartL l (a ++ b) = apartL l a ++ apartL l b := by unfold apartL; rw [List.flatMap_append]
  rw [ea]
  refine bindE (same_rfl _ (by rw [List.length_append]; omega) m (by rw [List.length_append]; omega)) rfl
end Go.Proofs.Ytdmahdgcfaieoaa.Pure

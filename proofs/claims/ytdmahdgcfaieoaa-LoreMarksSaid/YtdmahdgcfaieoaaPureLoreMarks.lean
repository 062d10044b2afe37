/- LoreMarks, the plain law over the printed functions. No condition. -/
import Derived.Test.YtdmahdgcfaieoaaPLoreMarksy
namespace Go.Proofs.Ytdmahdgcfaieoaa.Pure
set_option linter.unusedVariables false
set_option linter.unusedSimpArgs false
open Go.RowKit Go.Proofs.Ytdmahdgcfaieoaa.PLoreMarks Go.Proofs.YtdmahdgcfaieoaaW.PrintWords Go.Proofs.YtdmahdgcfaieoaaW.PrintLast Go.Proofs.YtdmahdgcfaieoaaW.PrintMore Go.Proofs.YtdmahdgcfaieoaaW.PrintSort
theorem wr (x : Int) (h0 : -9223372036854775808 ≤ x) (h1 : x ≤ 9223372036854775807) : wrap64 x = x := by
  unfold wrap64; omega
theorem rd_at (l : List Int) (i : Nat) (h : i < l.length) : rd l (i : Int) = l[i] := by
  unfold rd; simp [List.getD, h]
theorem rdT_at (l : List S33) (i : Nat) (h : i < l.length) : rd_T33 l (i : Int) = l[i] := by
  unfold rd_T33; simp [List.getD, h]
theorem drop_at {α : Type} (l : List α) (i : Nat) (h : i < l.length) : l.drop i = l[i] :: l.drop (i + 1) := (List.drop_eq_getElem_cons h)
/-! ### the same runes -/
theorem same_l (a b : List Int) (hn : a.length ≤ 1000000) (hab : a.length = b.length) (d : Nat) : ∀ (k i : Nat), i ≤ a.length → a.length - i = d → d < k →
    gazetteerlaw1_Same.l0 k a b (i : Int) = some (decide (a.drop i = b.drop i)) := by
  induction d with
  | zero =>
    intro k i hi hd hk
    obtain ⟨k, rfl⟩ : ∃ j, k = j + 1 := ⟨k - 1, by omega⟩
    simp only [gazetteerlaw1_Same.l0]
    rw [if_neg (by omega), List.drop_eq_nil_of_le (by omega), List.drop_eq_nil_of_le (by omega)]
    rfl
  | succ d ih =>
    intro k i hi hd hk
    obtain ⟨k, rfl⟩ : ∃ j, k = j + 1 := ⟨k - 1, by omega⟩
    have hlt : i < a.length := by omega
    have hlt2 : i < b.length := by omega
    simp only [gazetteerlaw1_Same.l0]
    rw [if_pos (by omega), if_pos (by omega), if_pos (by omega), rd_at a i hlt, rd_at b i hlt2, drop_at a i hlt, drop_at b i hlt2]
    by_cases h : a[i] = b[i]
    · rw [if_pos h, wr _ (by omega) (by omega), show ((i : Int) + 1) = ((i + 1 : Nat) : Int) by omega, ih k (i + 1) (by omega) (by omega) (by omega)]
      congr 1
      exact decide_eq_decide.2 ⟨fun e => by rw [h, e], fun e => (List.cons.inj e).2⟩
    · rw [if_neg h, decide_eq_false (fun e => h (List.cons.inj e).1)]
theorem same_eq (a b : List Int) (hn : a.length ≤ 1000000) (k : Nat) (hk : a.length < k) : gazetteerlaw1_Same.f k a b = some (decide (a = b)) := by
  unfold gazetteerlaw1_Same.f
  by_cases h : (a.length : Int) = (b.length : Int)
  · have := same_l a b hn (by omega) a.length k 0 (by omega) (by omega) hk
    rw [if_pos h]
    simpa using this
  · rw [if_neg h]
    have : a ≠ b := fun e => h (by rw [e])
    rw [decide_eq_false this]
theorem same_rfl (a : List Int) (hn : a.length ≤ 1000000) (k : Nat) (hk : a.length < k) : gazetteerlaw1_Same.f k a a = some true := by
  rw [same_eq a a hn k hk]; simp
/-! ### awake -/
set_option maxRecDepth 100000 in
theorem awake_ok (k : Nat) (hk : 10 ≤ k) : gazetteerlaw2_awake.f k = some true := by
  unfold gazetteerlaw2_awake.f
  refine bindE (a := [⟨233, 0, [101, 769]⟩, ⟨769, 230, []⟩]) rfl ?_
  refine bindE (a := ([101, 769], 0)) (by kernel_rfl) ?_
  refine iteT rfl ?_
  refine bindE (same_rfl [101, 769] (by decide) k (by simp only [List.length_cons, List.length_nil]; omega)) ?_
  refine iteT rfl ?_
  refine bindE (a := true) (by kernel_rfl) ?_
  refine iteT rfl ?_
  refine bindE (a := 230) (by kernel_rfl) ?_
  refine iteT rfl ?_
  refine bindE (a := 0) (by kernel_rfl) ?_
  rfl
/-! ### lore -/
theorem may_k (a : Int) (k : Nat) (hk : 1 ≤ k) : scalar_May.f k a = some (mayB a) := by
  obtain ⟨k, rfl⟩ : ∃ j, k = j + 1 := ⟨k - 1, by omega⟩
  unfold scalar_May.f utf8_ValidRune.f mayB
  by_cases h0 : 0 ≤ a
  · by_cases h1 : a < 55296
    · simp [utf8_ValidRune.j0, h0, h1]
    · by_cases h2 : 57343 < a
      · by_cases h3 : a ≤ 1114111 <;> simp [utf8_ValidRune.j0, h0, h1, h2, h3]
      · simp [utf8_ValidRune.j0, h0, h1, h2]
  · have h2 : ¬ 57343 < a := by omega
    simp [utf8_ValidRune.j0, h0, h2]
theorem rises_l (l : List S33) (hl : l.length ≤ 64) (d : Nat) : ∀ (k i : Nat), i ≤ l.length → l.length - i = d → d + 1 < k → ∃ b, lore_rises.l0 k l l (l.length : Int) (i : Int) = some b := by
  induction d with
  | zero =>
    intro k i hi hd hk
    obtain ⟨k, rfl⟩ : ∃ j, k = j + 1 := ⟨k - 1, by omega⟩
    simp only [lore_rises.l0]
    rw [if_neg (by omega)]
    exact ⟨_, rfl⟩
  | succ d ih =>
    intro k i hi hd hk
    obtain ⟨k, rfl⟩ : ∃ j, k = j + 1 := ⟨k - 1, by omega⟩
    simp only [lore_rises.l0]
    rw [if_pos (by omega), if_pos (by omega), if_pos (by omega), may_k _ k (by omega), Option.bind_some, wr ((i : Int) + 1) (by omega) (by omega), show ((i : Int) + 1) = ((i + 1 : Nat) : Int) by omega]
    obtain ⟨b, hb⟩ := ih k (i + 1) (by omega) (by omega) (by omega)
    rw [hb]
    by_cases h1 : mayB (rd_T33 l (i : Int)).f0 = true
    · rw [if_pos h1]
      by_cases h2 : (i : Int) > 0
      · rw [if_pos h2, wr ((i : Int) - 1) (by omega) (by omega), if_pos (by omega), if_pos (by omega)]
        split
        · exact ⟨_, rfl⟩
        · exact ⟨_, rfl⟩
      · rw [if_neg h2]; exact ⟨_, rfl⟩
    · rw [if_neg h1]; exact ⟨_, rfl⟩
theorem may_some (l : List S33) : ∃ b, lore_May.f l = some b ∧ (b = true → l.length ≤ 64 ∧ ∀ x ∈ l, oneB l x.f1 x.f2 = true) := by
  unfold lore_May.f
  by_cases h : (l.length : Int) > 64
  · rw [if_pos h]; exact ⟨false, rfl, fun h => by cases h⟩
  · rw [if_neg h]
    obtain ⟨t, ht⟩ := rises_l l (by omega) l.length 1000 0 (by omega) (by omega) (by omega)
    unfold lore_rises.f
    refine ⟨t && l.all (fun x => oneB l x.f1 x.f2), bindE ht rfl, fun hb => ⟨by omega, ?_⟩⟩
    rw [Bool.and_eq_true] at hb
    exact List.all_eq_true.1 hb.2
theorem firstAt_cases (l : List S33) (r : Int) : (firstAt (fun s : S33 => s.f0 == r) l = -1 ∧ ∀ s ∈ l, s.f0 ≠ r) ∨ ∃ (i : Nat) (h : i < l.length), firstAt (fun s : S33 => s.f0 == r) l = (i : Int) ∧ l[i].f0 = r := by
  unfold firstAt
  cases h : l.findIdx? (fun s : S33 => s.f0 == r) with
  | none => exact .inl ⟨rfl, fun s hs e => by have := List.findIdx?_eq_none_iff.1 h s hs; simp [e] at this⟩
  | some i =>
    obtain ⟨hi, hp, _⟩ := List.findIdx?_eq_some_iff_getElem.1 h
    exact .inr ⟨i, hi, rfl, by simpa using hp⟩
theorem row_cases (l : List S33) (r : Int) : rowOf l r = z33 ∨ rowOf l r ∈ l := by
  unfold rowOf
  rcases firstAt_cases l r with ⟨h, _⟩ | ⟨i, hi, h, _⟩
  · rw [h]; exact .inl rfl
  · rw [h, if_neg (by omega), rdT_at l i hi]; exact .inr (List.getElem_mem hi)
theorem piece_len (l : List S33) (r : Int) (m : Nat) (hm : 1 ≤ m) (h : ∀ x ∈ l, x.f2.length ≤ m) : (pieceOf l r).length ≤ m := by
  unfold pieceOf
  split
  · simpa using hm
  · rcases row_cases l r with e | e
    · rw [e]; simp [z33]
    · exact h _ e
theorem apart_len (l : List S33) (m : Nat) (hm : 1 ≤ m) (h : ∀ x ∈ l, x.f2.length ≤ m) : ∀ s : List Int, (apartL l s).length ≤ m * s.length
  | [] => by simp [apartL]
  | r :: s => by
    have h1 := apart_len l m hm h s
    have h2 := piece_len l r m hm h
    unfold apartL at h1 ⊢
    rw [List.flatMap_cons, List.length_append, List.length_cons, Nat.mul_add]
    omega
theorem order_len (l : List S33) (s : List Int) : (orderL l s).length = s.length := by
  unfold orderL; rw [Go.Proofs.YtdmahdgcfaieoaaW.PrintSort.ordA_len]; simp
theorem order_ok (l : List S33) (hl : l.length ≤ 1000000) (s : List Int) (hs : s.length ≤ 35184372088832) : lore_Order.f l s = some (orderL l s) := by
  unfold lore_Order.f; rw [if_pos ⟨by omega, hs⟩]
theorem apart_ok (l : List S33) (hl : l.length ≤ 1000000) (s : List Int) (hs : s.length ≤ 1000000) (ha : (apartL l s).length < 35184372088832) : lore_Apart.f l s = some (apartL l s) := by
  unfold lore_Apart.f; rw [if_pos ⟨by omega, by omega, ha⟩]
theorem class_ok (l : List S33) (hl : l.length ≤ 1000000) (r : Int) : lore_Class.f l r = some (clsOf l r) := by
  unfold lore_Class.f clsOf; rw [if_pos (by omega)]
theorem normal_ok (l : List S33) (s : List Int) (hl : l.length ≤ 1000000) (hs : s.length ≤ 1000000) (ha : (apartL l s).length < 35184372088832) :
    ∃ n e, lore_Normal.f l s = some (n, e) ∧ (e = 0 → lore_May.f l = some true ∧ (∀ r ∈ s, mayB r = true) ∧ n = orderL l (apartL l s)) := by
  obtain ⟨b, hb, hb2⟩ := may_some l
  unfold lore_Normal.f
  rw [hb, Option.bind_some]
  cases b with
  | false => exact ⟨[], 4, rfl, fun h => by cases h⟩
  | true =>
    rw [if_pos rfl]
    unfold slices_ContainsFunc_rune_rune.f
    rw [if_pos (by omega), Option.bind_some]
    cases hany : s.any (fun r => !mayB r) with
    | true => exact ⟨[], 2, rfl, fun h => by cases h⟩
    | false =>
      refine ⟨orderL l (apartL l s), 0, ?_, fun _ => ⟨rfl, fun r hr => ?_, rfl⟩⟩
      · rw [if_neg (by simp)]
        refine bindE (apart_ok l hl s hs ha) ?_
        refine bindE (order_ok l hl _ (Nat.le_of_lt ha)) ?_
        rfl
      · have := List.any_eq_false.1 hany r hr
        simpa using this
theorem normal_of (l : List S33) (s : List Int) (hl : l.length ≤ 1000000) (hs : s.length ≤ 1000000) (ha : (apartL l s).length < 35184372088832) (h1 : lore_May.f l = some true) (h2 : ∀ r ∈ s, mayB r = true) :
    lore_Normal.f l s = some (orderL l (apartL l s), 0) := by
  unfold lore_Normal.f slices_ContainsFunc_rune_rune.f
  have hany : s.any (fun r => !mayB r) = false := List.any_eq_false.2 (fun r hr => by simp [h2 r hr])
  rw [h1, Option.bind_some, if_pos rfl, if_pos (by omega), Option.bind_some, hany, if_neg (by simp)]
  refine bindE (apart_ok l hl s hs ha) ?_
  refine bindE (order_ok l hl _ (Nat.le_of_lt ha)) ?_
  rfl
/-- The law's own table. -/
def tb : List S33 := [⟨768, 9, []⟩, ⟨769, 5, []⟩, ⟨770, 9, []⟩, ⟨771, 1, []⟩, ⟨772, 5, []⟩]
/-- Is it one of the law's marks? -/
def Mk (r : Int) : Prop := r = 768 ∨ r = 769 ∨ r = 770 ∨ r = 771 ∨ r = 772
/-- The mark of a number. -/
def mk (x : Int) : Int := wrap32 (768 + (wrap32 (Int.tmod x 5)))
set_option maxRecDepth 100000 in
theorem tb_cls (r : Int) (h : Mk r) : (rd_T33 tb (wrap64 (wrap32 (r - 768)))).f1 = clsOf tb r ∧ (clsOf tb r = 1 ∨ clsOf tb r = 5 ∨ clsOf tb r = 9) ∧ (rowOf tb r).f2.length = 0 ∧ mayB r = true ∧ 0 ≤ wrap64 (wrap32 (r - 768)) ∧ wrap64 (wrap32 (r - 768)) < 5 := by
  rcases h with rfl | rfl | rfl | rfl | rfl <;> decide +kernel
theorem mk_mark (x : Int) (h0 : 0 ≤ x) (h1 : x ≤ 255) : Mk (mk x) := by
  have e : Int.tmod x 5 = x % 5 := Int.tmod_eq_emod_of_nonneg h0
  unfold mk Mk
  rw [e]
  unfold wrap32
  omega
theorem lm_l2 (s : List Int) (hs : s.length ≤ 100) (hm : ∀ r ∈ s.drop 1, Mk r) (x8 : Nat) (h8 : x8 < 3) (B : Nat) (d : Nat) : ∀ (k j : Nat) (w : List Int) (r : Bool), 1 ≤ j → j ≤ s.length → s.length - j = d → B + d < k → w.length + d ≤ 1000 →
    (∀ k', B ≤ k' → gazetteerlaw2_LoreMarks.l1 k' tb s (w ++ (s.drop j).filter (fun r => clsOf tb r == rd [1, 5, 9] (x8 : Int))) [1, 5, 9] (wrap64 ((x8 : Int) + 1)) = some r) →
    gazetteerlaw2_LoreMarks.l2 k tb s w [1, 5, 9] (x8 : Int) (j : Int) = some r := by
  induction d with
  | zero =>
    intro k j w r hj1 hj hd hk hw Hn
    obtain ⟨k, rfl⟩ : ∃ q, k = q + 1 := ⟨k - 1, by omega⟩
    simp only [gazetteerlaw2_LoreMarks.l2]
    rw [if_neg (by omega)]
    have := Hn k (by omega)
    rwa [List.drop_eq_nil_of_le (by omega), List.filter_nil, List.append_nil] at this
  | succ d ih =>
    intro k j w r hj1 hj hd hk hw Hn
    obtain ⟨k, rfl⟩ : ∃ q, k = q + 1 := ⟨k - 1, by omega⟩
    have hlt : j < s.length := by omega
    have hmk : Mk s[j] := hm _ (by
      rw [List.mem_drop_iff_getElem]
      exact ⟨j - 1, by omega, by congr 1; omega⟩)
    obtain ⟨t1, t2, t3, t4, t5, t6⟩ := tb_cls _ hmk
    simp only [gazetteerlaw2_LoreMarks.l2]
    rw [if_pos (by omega), if_pos (by omega), rd_at s j hlt, if_pos t5, if_pos (by show _ < ((5 : Nat) : Int); omega), if_pos (by omega), if_pos (by show _ < ((3 : Nat) : Int); omega), t1, wr ((j : Int) + 1) (by omega) (by omega), show ((j : Int) + 1) = ((j + 1 : Nat) : Int) by omega]
    rw [drop_at s j hlt] at Hn
    by_cases h : clsOf tb s[j] = rd [1, 5, 9] (x8 : Int)
    · rw [if_pos h, if_pos (by omega)]
      refine ih k (j + 1) _ r (by omega) (by omega) (by omega) (by omega) (by rw [List.length_append, List.length_singleton]; omega) (fun k' hk' => ?_)
      have := Hn k' hk'
      rw [List.filter_cons_of_pos (by rw [beq_iff_eq]; exact h)] at this
      rw [List.append_assoc]
      exact this
    · rw [if_neg h]
      refine ih k (j + 1) _ r (by omega) (by omega) (by omega) (by omega) (by omega) (fun k' hk' => ?_)
      have := Hn k' hk'
      rwa [List.filter_cons_of_neg (by rw [beq_iff_eq]; exact h)] at this
theorem lm_l0 (l : List Int) (hl : l.length ≤ 40) (r : Bool) (B : Nat) (Hn : ∀ k, B ≤ k → gazetteerlaw2_LoreMarks.l1 k tb (97 :: l.map mk) [97] [1, 5, 9] 0 = some r) (d : Nat) : ∀ (k i : Nat), i ≤ l.length → l.length - i = d → B + d < k →
    gazetteerlaw2_LoreMarks.l0 k l tb (97 :: (l.take i).map mk) [97] (i : Int) = some r := by
  induction d with
  | zero =>
    intro k i hi hd hk
    obtain ⟨k, rfl⟩ : ∃ q, k = q + 1 := ⟨k - 1, by omega⟩
    simp only [gazetteerlaw2_LoreMarks.l0]
    rw [if_neg (by omega), List.take_of_length_le (by omega)]
    exact Hn k (by omega)
  | succ d ih =>
    intro k i hi hd hk
    obtain ⟨k, rfl⟩ : ∃ q, k = q + 1 := ⟨k - 1, by omega⟩
    have hlt : i < l.length := by omega
    simp only [gazetteerlaw2_LoreMarks.l0]
    rw [if_pos (by omega), if_pos (by omega), if_pos (by rw [List.length_cons, List.length_map, List.length_take]; omega), rd_at l i hlt, wr ((i : Int) + 1) (by omega) (by omega), show ((i : Int) + 1) = ((i + 1 : Nat) : Int) by omega]
    have h := ih k (i + 1) (by omega) (by omega) (by omega)
    rw [List.take_add_one, List.getElem?_eq_getElem hlt, List.map_append] at h
    exact h
theorem filt2 (m : List Int) (a c : Int) : (m.filter (fun r => clsOf tb r == a)).filter (fun r => clsOf tb r == c) = if c = a then m.filter (fun r => clsOf tb r == a) else [] := by
  rw [List.filter_filter]
  by_cases h : c = a
  · subst h
    rw [if_pos rfl]
    congr 1
    funext r
    rw [Bool.and_self]
  · rw [if_neg h, List.filter_eq_nil_iff]
    intro r _ h2
    rw [Bool.and_eq_true, beq_iff_eq, beq_iff_eq] at h2
    exact h (h2.1.symm.trans h2.2)
theorem marks_st (m : List Int) (hm : ∀ r ∈ m, Mk r) : St (clsOf tb) m (m.filter (fun r => clsOf tb r == 1) ++ m.filter (fun r => clsOf tb r == 5) ++ m.filter (fun r => clsOf tb r == 9)) := by
  have hc : ∀ (a : Int) (r : Int), r ∈ m.filter (fun r => clsOf tb r == a) → clsOf tb r = a := fun a r hr => by
    have := (List.mem_filter.1 hr).2
    exact beq_iff_eq.1 this
  have hp : ∀ a : Int, (m.filter (fun r => clsOf tb r == a)).Pairwise (fun x y => clsOf tb x ≤ clsOf tb y) := fun a =>
    List.pairwise_of_forall_mem_list (fun x hx y hy => by rw [hc a x hx, hc a y hy]; exact Int.le_refl _)
  refine ⟨?_, fun c => ?_⟩
  · refine List.pairwise_append.2 ⟨List.pairwise_append.2 ⟨hp 1, hp 5, fun x hx y hy => ?_⟩, hp 9, fun x hx y hy => ?_⟩
    · rw [hc _ x hx, hc _ y hy]; omega
    · rw [hc _ y hy]
      rcases List.mem_append.1 hx with h | h
      · rw [hc _ x h]; omega
      · rw [hc _ x h]; omega
  · rw [List.filter_append, List.filter_append, filt2, filt2, filt2]
    by_cases h1 : c = 1
    · subst h1; simp
    · by_cases h5 : c = 5
      · subst h5; simp
      · by_cases h9 : c = 9
        · subst h9; simp
        · rw [if_neg h1, if_neg h5, if_neg h9]
          symm
          rw [List.nil_append, List.nil_append, List.filter_eq_nil_iff]
          intro r hr h
          rw [beq_iff_eq] at h
          rcases (tb_cls r (hm r hr)).2.1 with e | e | e <;> omega
set_option maxRecDepth 100000 in
theorem tb_may : lore_May.f tb = some true := by kernel_rfl
set_option maxRecDepth 100000 in
theorem cls97 : clsOf tb 97 = 0 ∧ (rowOf tb 97).f2.length = 0 ∧ mayB 97 = true := by decide +kernel
theorem apart_self (l : List S33) : ∀ n : List Int, (∀ r ∈ n, (rowOf l r).f2.length = 0) → apartL l n = n
  | [], _ => rfl
  | r :: n, h => by
    have h1 := apart_self l n (fun q hq => h q (by simp [hq]))
    unfold apartL at h1 ⊢
    rw [List.flatMap_cons, h1]
    unfold pieceOf
    rw [if_pos (h r (by simp))]; rfl
theorem LoreMarks : gazetteerlaw2_LoreMarks.Pure := by
  intro l h0
  obtain ⟨K, hK⟩ : ∃ K, K = 1000 := ⟨_, rfl⟩
  refine ⟨K, ?_⟩
  unfold gazetteerlaw2_LoreMarks.f
  refine bindE (awake_ok _ (by omega)) (iteT rfl ?_)
  by_cases h40 : (l.length : Int) > 40
  case pos => exact iteT h40 rfl
  case neg =>
  refine iteF h40 ?_
  have hlen : l.length ≤ 40 := by omega
  obtain ⟨m, hm⟩ : ∃ m, m = l.map mk := ⟨_, rfl⟩
  have hml : m.length = l.length := by rw [hm, List.length_map]
  have hmk : ∀ r ∈ m, Mk r := fun r hr => by
    rw [hm] at hr
    obtain ⟨x, hx, rfl⟩ := List.mem_map.1 hr
    have h2 := h0.2.2 x hx
    have h3 : 0 ≤ x ∧ x ≤ 255 := by
      have e1 : IntKind.u8.min = 0 := by decide
      have e2 : IntKind.u8.max = 255 := by decide
      have h4 : IntKind.u8.min ≤ x ∧ x ≤ IntKind.u8.max := by simpa [Lit.wf] using h2
      rw [e1, e2] at h4
      exact h4
    exact mk_mark x h3.1 h3.2
  have hz : ∀ r ∈ (97 :: m), (rowOf tb r).f2.length = 0 ∧ mayB r = true := fun r hr => by
    rcases List.mem_cons.1 hr with rfl | hr
    · exact ⟨cls97.2.1, cls97.2.2⟩
    · exact ⟨(tb_cls r (hmk r hr)).2.2.1, (tb_cls r (hmk r hr)).2.2.2.1⟩
  have hap : apartL tb (97 :: m) = 97 :: m := apart_self tb _ (fun r hr => (hz r hr).1)
  obtain ⟨X, hX⟩ : ∃ X, X = m.filter (fun r => clsOf tb r == 1) ++ m.filter (fun r => clsOf tb r == 5) ++ m.filter (fun r => clsOf tb r == 9) := ⟨_, rfl⟩
  have hst := marks_st m hmk
  rw [← hX] at hst
  have hor : orderL tb (97 :: m) = 97 :: X := by
    unfold orderL
    rw [ordA, if_neg (by rw [cls97.1]; omega), List.nil_append]
    have h1 := ordA_run (k := clsOf tb) m [] [] (fun y hy => by rcases (tb_cls y (hmk y hy)).2.1 with e | e | e <;> omega)
    rw [List.append_nil, fold_eq hst, ordA] at h1
    rw [h1]
  have hno := normal_of tb (97 :: m) (by decide) (by rw [List.length_cons]; omega) (by rw [hap, List.length_cons]; omega) tb_may (fun r hr => (hz r hr).2)
  rw [hap, hor] at hno
  have hXl : X.length = m.length := hst.len
  have H3 : ∀ k, 100 ≤ k → gazetteerlaw2_LoreMarks.l1 k tb (97 :: m) (97 :: X) [1, 5, 9] 3 = some true := fun k hk => by
    obtain ⟨k, rfl⟩ : ∃ q, k = q + 1 := ⟨k - 1, by omega⟩
    simp only [gazetteerlaw2_LoreMarks.l1]
    refine iteF (by omega) ?_
    refine bindE hno ?_
    refine iteT rfl ?_
    exact bindE (same_rfl _ (by rw [List.length_cons]; omega) _ (by rw [List.length_cons]; omega)) rfl
  have hl1 : ∀ (x8 : Nat), x8 < 3 → ∀ (w : List Int) (B : Nat), w.length ≤ 200 → (∀ k, B ≤ k → gazetteerlaw2_LoreMarks.l1 k tb (97 :: m) (w ++ m.filter (fun r => clsOf tb r == rd [1, 5, 9] (x8 : Int))) [1, 5, 9] ((x8 + 1 : Nat) : Int) = some true) → ∀ k, B + 100 ≤ k → gazetteerlaw2_LoreMarks.l1 k tb (97 :: m) w [1, 5, 9] (x8 : Int) = some true := by
    intro x8 h8 w B hw Hn k hk
    obtain ⟨k, rfl⟩ : ∃ q, k = q + 1 := ⟨k - 1, by omega⟩
    simp only [gazetteerlaw2_LoreMarks.l1]
    refine iteT (by omega) ?_
    exact lm_l2 (97 :: m) (by rw [List.length_cons]; omega) (fun r hr => hmk r hr) x8 h8 B m.length k 1 w true (by omega) (by rw [List.length_cons]; omega) (by rw [List.length_cons]; omega) (by omega) (by omega) (fun k' hk' => by
      rw [wr _ (by omega) (by omega), show ((x8 : Int) + 1) = ((x8 + 1 : Nat) : Int) by omega]
      exact Hn k' hk')
  have f1 := List.length_filter_le (fun r => clsOf tb r == 1) m
  have f5 := List.length_filter_le (fun r => clsOf tb r == 5) m
  have H2 := hl1 2 (by omega) (97 :: (m.filter (fun r => clsOf tb r == 1) ++ m.filter (fun r => clsOf tb r == 5))) 100 (by simp only [List.length_cons, List.length_append]; omega) (fun k hk => by have h := H3 k hk; rw [hX] at h; exact h)
  have H1 := hl1 1 (by omega) (97 :: m.filter (fun r => clsOf tb r == 1)) 200 (by simp only [List.length_cons]; omega) (fun k hk => H2 k hk)
  have H0 := hl1 0 (by omega) [97] 300 (by simp) (fun k hk => H1 k hk)
  exact lm_l0 l hlen true 400 (by rw [← hm]; exact H0) l.length K 0 (by omega) (by omega) (by omega)
end Go.Proofs.Ytdmahdgcfaieoaa.Pure

/- AtlasOwns, the plain law over the printed functions: of an atlas that may be each key has just one owner. No condition. -/
import Derived.Test.YtbajekndbamcmaaPAtlasOwnsy
import Derived.Test.YtbajekndbamcmaaWFn
namespace Go.Proofs.Ytbajekndbamcmaa.Pure
set_option linter.unusedVariables false
set_option linter.unusedSimpArgs false
open Go.RowKit Go.Proofs.Ytbajekndbamcmaa.PAtlasOwns Go.Proofs.YtbajekndbamcmaaW.PrintWords Go.Proofs.YtbajekndbamcmaaW.PrintLast Go.Proofs.YtbajekndbamcmaaW.PrintMore Go.Proofs.YtbajekndbamcmaaW.PrintOrd
def hasL (f t k : List UInt8) : Bool := !Op.bytesLess k f && (t == [] || Op.bytesLess k t)
def Chain {α : Type} (F T : α → List UInt8) : List UInt8 → List α → Prop
 | _, [] => False
 | a, [s] => F s = a ∧ T s = []
 | a, s :: t :: r => F s = a ∧ T s ≠ [] ∧ Op.bytesLess (F s) (T s) = true ∧ Chain F T (T s) (t :: r)
theorem chain_cons {α : Type} {F T : α → List UInt8} {a : List UInt8} {s : α} {r : List α} :
  Chain F T a (s :: r) ↔ F s = a ∧ ((r = [] ∧ T s = []) ∨ (r ≠ [] ∧ T s ≠ [] ∧ Op.bytesLess (F s) (T s) = true ∧ Chain F T (T s) r)) := by
 cases r <;> simp [Chain]
theorem chain_count {α : Type} {F T : α → List UInt8} (k : List UInt8) : ∀ (l : List α) (a : List UInt8), Chain F T a l → (l.filter (fun s => hasL (F s) (T s) k)).length = if Op.bytesLess k a = true then 0 else 1
 | [], _, h => by cases h
 | s :: r, a, h => by
  obtain ⟨hF, h2⟩ := chain_cons.1 h
  clear h
  subst hF
  rcases h2 with ⟨rfl, hT⟩ | ⟨hr, hT, hlt, hc⟩
  ·
   cases e : Op.bytesLess k (F s) <;> simp [hasL, hT, e]
  ·
   have ih := chain_count k r _ hc
   have hT' : (T s == []) = false := by simpa using hT
   cases e : Op.bytesLess k (F s) with
   | true =>
    have e2 : Op.bytesLess k (T s) = true := bl_trans _ _ _ e hlt
    rw [e2, if_pos rfl] at ih
    have hs : hasL (F s) (T s) k = false := by simp [hasL, e]
    rw [List.filter_cons_of_neg (by simp [hs]), ih, if_pos rfl]
   | false =>
    cases e2 : Op.bytesLess k (T s) with
    | true =>
     rw [e2, if_pos rfl] at ih
     have hs : hasL (F s) (T s) k = true := by simp [hasL, e, e2]
     rw [List.filter_cons_of_pos (by simp [hs]), List.length_cons, ih, if_neg (by simp)]
    | false =>
     rw [e2, if_neg (by simp)] at ih
     have hs : hasL (F s) (T s) k = false := by
      unfold hasL; rw [e, e2, hT']; rfl
     rw [List.filter_cons_of_neg (by simp [hs]), ih, if_neg (by simp)]
theorem firstAt_cases {α : Type} (p : α → Bool) (l : List α) (d : α) : (firstAt p l = -1 ∧ ∀ x ∈ l, p x = false) ∨ ∃ i : Nat, i < l.length ∧ firstAt p l = i ∧ p (l.getD i d) = true := by
 unfold firstAt
 cases e : l.findIdx? p with
 | none => exact Or.inl ⟨rfl, fun x hx => by simpa using (List.findIdx?_eq_none_iff.1 e) x hx⟩
 | some i =>
  obtain ⟨hi, hp, _⟩ := List.findIdx?_eq_some_iff_getElem.1 e
  exact Or.inr ⟨i, hi, rfl, by rw [List.getD_eq_getElem?_getD, List.getElem?_eq_getElem hi]; simpa using hp⟩
theorem wrapN (n : Nat) (h : n < 9223372036854775807) : wrap64 ((n : Int) + 1) = ((n + 1 : Nat) : Int) := by unfold wrap64; omega
theorem drop_at {α : Type} {l : List α} {i : Nat} {d : α} (h : i < l.length) : l.drop i = l.getD i d :: l.drop (i + 1) := by
 rw [List.drop_eq_getElem_cons h, List.getD_eq_getElem?_getD, List.getElem?_eq_getElem h]; rfl
theorem take_at {α : Type} {l : List α} {i : Nat} {d : α} (h : i < l.length) : l.take (i + 1) = l.take i ++ [l.getD i d] := by
 rw [List.take_succ_eq_append_getElem h, List.getD_eq_getElem?_getD, List.getElem?_eq_getElem h]; rfl
theorem refhas (x y k : ByteArray) : gazetteerref5_Has.f x y k = some (hasB x y k) := by
 unfold gazetteerref5_Has.f hasB
 by_cases h1 : Op.bytesLess k.toList x.toList = true
 ·
  simp [h1]
 ·
  rw [if_neg h1]
  replace h1 := Bool.eq_false_iff.mpr h1
  by_cases h2 : Op.bytesLess k.toList y.toList = true <;> simp [h1, h2]
abbrev F28 (s : S28) : List UInt8 := s.f0.toList
abbrev T28 (s : S28) : List UInt8 := s.f1.toList
theorem rw0 (l : List S28) (hlen : l.length ≤ 100) : ∀ (n i k : Nat), n = l.length - i → i ≤ l.length → n + 1 ≤ k →
  ∃ b, gazetteerref5_Whole.l0 k l (i : Int) = some b ∧ (b = true → 0 < l.length ∧ (i < l.length → Chain F28 T28 (if i = 0 then [] else T28 (l.getD (i - 1) z28)) (l.drop i)))
 | n, i, 0, _, _, h => by omega
 | n, i, k + 1, hn, hi, hk => by
  simp only [gazetteerref5_Whole.l0]
  by_cases hlt : i < l.length
  ·
   rw [if_pos (by omega), if_pos (by omega)]
   have hrd : rd_T28 l (i : Int) = l.getD i z28 := by simp [rd_T28]
   have hd := drop_at (d := z28) hlt
   rw [hrd, hd]
   generalize hs : l.getD i z28 = s at *
   have hw := wrapN i (by omega)
   obtain ⟨b, hb, hc⟩ := rw0 l hlen (n - 1) (i + 1) k (by omega) (by omega) (by omega)
   have hlast : ((i : Int) == wrap64 ((l.length : Int) - 1)) = decide (l.drop (i + 1) = []) := by
    have : wrap64 ((l.length : Int) - 1) = (l.length : Int) - 1 := by unfold wrap64; omega
    rw [this, Bool.eq_iff_iff]; simp [List.drop_eq_nil_iff]; omega
   have step : ∀ (a : List UInt8), a = (if i = 0 then [] else T28 (l.getD (i - 1) z28)) → (gazetteerref5_Empty.f s.f0 s.f1 = some false) → F28 s = a →
     ∃ b', (if (((i : Int) == wrap64 ((l.length : Int) - 1)) != (s.f1.toList == [])) = true then some false else gazetteerref5_Whole.l0 k l (wrap64 ((i : Int) + 1))) = some b' ∧ (b' = true → 0 < l.length ∧ (i < l.length → Chain F28 T28 a (s :: l.drop (i + 1)))) := by
    intro a ha he hF
    rw [hlast, hw, hb]
    by_cases c : (decide (l.drop (i + 1) = []) != (s.f1.toList == [])) = true
    ·
     rw [if_pos c]; exact ⟨false, rfl, by simp⟩
    ·
     rw [if_neg c]
     refine ⟨b, rfl, fun hb' => ⟨by omega, fun _ => ?_⟩⟩
     have hne := (hc hb').2
     replace c : decide (l.drop (i + 1) = []) = (s.f1.toList == []) := by simpa using c
     rw [chain_cons]
     refine ⟨hF, ?_⟩
     by_cases hr : l.drop (i + 1) = []
     ·
      left; refine ⟨hr, ?_⟩
      rw [decide_eq_true hr] at c; simpa using c.symm
     ·
      right
      rw [decide_eq_false hr] at c
      have hT : s.f1.toList ≠ [] := by simpa using c.symm
      refine ⟨hr, hT, ?_, ?_⟩
      ·
       unfold gazetteerref5_Empty.f at he
       rw [if_neg hT] at he
       simpa using he
      ·
       have := hne (by rw [List.drop_eq_nil_iff] at hr; omega)
       rw [if_neg (by omega), show i + 1 - 1 = i by omega, hs] at this
       exact this
   obtain ⟨e, he⟩ : ∃ e, gazetteerref5_Empty.f s.f0 s.f1 = some e := by unfold gazetteerref5_Empty.f; split <;> exact ⟨_, rfl⟩
   rw [he]
   simp only [Option.bind_some]
   cases e with
   | true => exact ⟨false, rfl, by simp⟩
   | false =>
    simp only [Bool.false_eq_true, if_false]
    by_cases h0 : i = 0
    ·
     subst h0
     rw [if_pos (by rfl)]
     by_cases hF : s.f0.toList = []
     ·
      rw [if_pos hF]
      exact step [] (by simp) he hF
     ·
      rw [if_neg hF]; exact ⟨false, rfl, by simp⟩
    ·
     rw [if_neg (by omega)]
     have hm : wrap64 ((i : Int) - 1) = ((i - 1 : Nat) : Int) := by unfold wrap64; omega
     rw [hm, if_pos (by omega), if_pos (by omega)]
     have hrd' : rd_T28 l ((i - 1 : Nat) : Int) = l.getD (i - 1) z28 := by simp [rd_T28]
     rw [hrd']
     by_cases hF : s.f0.toList = (l.getD (i - 1) z28).f1.toList
     ·
      rw [if_pos hF]
      rw [if_neg h0]
      exact step _ (by rw [if_neg h0]) he hF
     ·
      rw [if_neg hF]; exact ⟨false, rfl, by simp⟩
  ·
   rw [if_neg (by omega)]
   exact ⟨_, rfl, fun h => ⟨by simpa using h, fun h' => absurd h' hlt⟩⟩
theorem rwh (l : List S28) (hlen : l.length ≤ 100) (k : Nat) (hk : l.length + 1 ≤ k) : ∃ b, gazetteerref5_Whole.f k l = some b ∧ (b = true → Chain F28 T28 [] l) := by
 obtain ⟨b, hb, hc⟩ := rw0 l hlen l.length 0 k (by omega) (by omega) hk
 refine ⟨b, hb, fun h => ?_⟩
 obtain ⟨h1, h2⟩ := hc h
 simpa using h2 h1
abbrev sp (s : S38) : S28 := ⟨s.f0.f0, s.f0.f1⟩
theorem rm0 (e : Int) (l : List S38) (hlen : l.length ≤ 100) : ∀ (n i k : Nat), n = l.length - i → i ≤ l.length → n + l.length + 3 ≤ k → (∀ j < i, 1 ≤ (l.getD j z38).f1 ∧ (l.getD j z38).f1 ≤ 5) →
  ∃ b, gazetteerref5_AtlasMay.l0 k 5 ((l.take i).map sp) (i : Int) e l = some b ∧ (b = true → Chain F28 T28 [] (l.map sp) ∧ ∀ j < l.length, 1 ≤ (l.getD j z38).f1 ∧ (l.getD j z38).f1 ≤ 5)
 | n, i, 0, _, _, h, _ => by omega
 | n, i, k + 1, hn, hi, hk, hj => by
  simp only [gazetteerref5_AtlasMay.l0]
  by_cases hlt : i < l.length
  ·
   rw [if_pos (by omega), if_pos (by omega)]
   have hrd : rd_T38 l (i : Int) = l.getD i z38 := by simp [rd_T38]
   rw [hrd]
   by_cases c1 : (l.getD i z38).f1 < 1
   ·
    rw [if_pos c1]; exact ⟨false, rfl, by simp⟩
   rw [if_neg c1]
   by_cases c2 : (l.getD i z38).f1 > 5
   ·
    rw [if_pos c2]; exact ⟨false, rfl, by simp⟩
   rw [if_neg c2]
   by_cases c3 : (l.getD i z38).f2 < 1
   ·
    rw [if_pos c3]; exact ⟨false, rfl, by simp⟩
   rw [if_neg c3]
   by_cases c4 : (l.getD i z38).f2 > e
   ·
    rw [if_pos c4]; exact ⟨false, rfl, by simp⟩
   rw [if_neg c4, if_pos (by simp; omega), wrapN i (by omega)]
   have := rm0 e l hlen (n - 1) (i + 1) k (by omega) (by omega) (by omega) (fun j hj' => by
    rcases Nat.lt_succ_iff_lt_or_eq.1 hj' with h | rfl
    ·
     exact hj j h
    ·
     omega)
   rw [take_at (d := z38) hlt, List.map_append] at this
   exact this
  ·
   rw [if_neg (by omega)]
   have hi' : i = l.length := by omega
   subst hi'
   rw [List.take_length]
   obtain ⟨b, hb, hc⟩ := rwh (l.map sp) (by simpa using hlen) k (by simp; omega)
   rw [hb]
   exact ⟨b, rfl, fun h => ⟨hc h, hj⟩⟩
theorem refmay (e : Int) (l : List S38) (hlen : l.length ≤ 100) (k : Nat) (hk : 2 * l.length + 4 ≤ k) : ∃ b, gazetteerref5_AtlasMay.f k e l 5 = some b ∧ (b = true → Chain F28 T28 [] (l.map sp) ∧ ∀ j < l.length, 1 ≤ (l.getD j z38).f1 ∧ (l.getD j z38).f1 ≤ 5) := by
 obtain ⟨k, rfl⟩ : ∃ m, k = m + 1 := ⟨k - 1, by omega⟩
 have hj : ∀ b : Bool, ∃ b', gazetteerref5_AtlasMay.j0 (k + 1) 5 b e l = some b' ∧ (b' = true → Chain F28 T28 [] (l.map sp) ∧ ∀ j < l.length, 1 ≤ (l.getD j z38).f1 ∧ (l.getD j z38).f1 ≤ 5) := by
  intro b
  simp only [gazetteerref5_AtlasMay.j0]
  cases b with
  | true => exact ⟨false, rfl, by simp⟩
  | false =>
   have := rm0 e l hlen l.length 0 k (by omega) (by omega) (by omega) (by omega)
   simpa using this
 unfold gazetteerref5_AtlasMay.f
 rw [if_neg (by omega), if_neg (by omega)]
 split
 ·
  exact hj true
 ·
  split
  ·
   exact hj true
  ·
   exact hj _
theorem few_l0 (l : List S28) (hlen : l.length ≤ 100) : ∀ (n i k : Nat) (c : Int), n = l.length - i → i ≤ l.length → n + 1 ≤ k → ∃ b, gazetteerlaw5_Few.l0 k l c (i : Int) = some b
 | n, i, 0, _, _, _, h => by omega
 | n, i, k + 1, c, hn, hi, hk => by
  simp only [gazetteerlaw5_Few.l0]
  by_cases hlt : i < l.length
  ·
   rw [if_pos (by omega), if_pos (by omega), wrapN i (by omega)]
   exact few_l0 l hlen (n - 1) (i + 1) k _ (by omega) (by omega) (by omega)
  ·
   rw [if_neg (by omega)]
   split <;> exact ⟨_, rfl⟩
theorem sm0 (e : Int) (l : List S38) : ∀ (n i k : Nat), n = 100 - i → i ≤ 100 → i ≤ l.length → n + 202 ≤ k → ∃ b, gazetteerlaw14_Small.l0 k ((l.take i).map sp) (i : Int) e l = some b ∧ (b = true → l.length ≤ 60)
 | n, i, 0, _, _, _, h => by omega
 | n, i, k + 1, hn, hi, hi', hk => by
  have fin : ∃ b, (if (l.length : Int) ≤ 60 then (gazetteerlaw5_Few.f k ((l.take i).map sp)).bind fun t => some t else some false) = some b ∧ (b = true → l.length ≤ 60) := by
   by_cases c : (l.length : Int) ≤ 60
   ·
    rw [if_pos c]
    obtain ⟨b, hb⟩ := few_l0 ((l.take i).map sp) (by simp; omega) _ 0 k 0 rfl (by omega) (by simp; omega)
    refine ⟨b, ?_, fun _ => by omega⟩
    unfold gazetteerlaw5_Few.f
    rw [show ((0 : Nat) : Int) = 0 from rfl] at hb
    rw [hb]; rfl
   ·
    rw [if_neg c]; exact ⟨false, rfl, by simp⟩
  simp only [gazetteerlaw14_Small.l0]
  by_cases hlt : i < l.length
  ·
   rw [if_pos (by omega)]
   by_cases h100 : i < 100
   ·
    rw [if_pos (by omega), if_pos (by omega), if_pos (by simp; omega), wrapN i (by omega)]
    have hrd : rd_T38 l (i : Int) = l.getD i z38 := by simp [rd_T38]
    rw [hrd]
    have := sm0 e l (n - 1) (i + 1) k (by omega) (by omega) (by omega) (by omega)
    rw [take_at (d := z38) hlt, List.map_append] at this
    exact this
   ·
    rw [if_neg (by omega)]
    exact fin
  ·
   rw [if_neg (by omega)]
   exact fin
theorem small (e : Int) (l : List S38) (k : Nat) (hk : 302 ≤ k) : ∃ b, gazetteerlaw14_Small.f k e l = some b ∧ (b = true → l.length ≤ 60) := by
 have := sm0 e l 100 0 k (by omega) (by omega) (by omega) (by omega)
 simpa [gazetteerlaw14_Small.f] using this
abbrev mk (s : S38) : S30 := ⟨⟨s.f0.f0, s.f0.f1⟩, s.f1, s.f2⟩
theorem md0 (a e : Int) (l : List S38) (hlen : l.length ≤ 100) : ∀ (n i k : Nat), n = l.length - i → i ≤ l.length → n + 1 ≤ k → gazetteerlaw14_Made.l0 k (i : Int) a l e ((l.take i).map mk) = some (e, l.map mk)
 | n, i, 0, _, _, h => by omega
 | n, i, k + 1, hn, hi, hk => by
  simp only [gazetteerlaw14_Made.l0]
  by_cases hlt : i < l.length
  ·
   have hrd : rd_T38 l (i : Int) = l.getD i z38 := by simp [rd_T38]
   rw [if_pos (by omega), if_pos (by omega), if_pos (by simp; omega), wrapN i (by omega), hrd]
   have := md0 a e l hlen (n - 1) (i + 1) k (by omega) (by omega) (by omega)
   rw [take_at (d := z38) hlt, List.map_append] at this
   exact this
  ·
   have hi' : i = l.length := by omega
   subst hi'
   rw [if_neg (by omega), List.take_length]
theorem made (e : Int) (l : List S38) (hlen : l.length ≤ 100) (k : Nat) (hk : l.length + 1 ≤ k) : gazetteerlaw14_Made.f k e l = some (e, l.map mk) := by
 have := md0 e e l hlen l.length 0 k (by omega) (by omega) hk
 simpa [gazetteerlaw14_Made.f] using this
theorem cn0 (key : ByteArray) (ok : Bool) (e : Int) (l : List S38) (hlen : l.length ≤ 60) (x y : ByteArray) (nd ep : Int)
  (hfin : ∀ b, (b = true → Chain F28 T28 [] (l.map sp) ∧ ∀ j < l.length, 1 ≤ (l.getD j z38).f1 ∧ (l.getD j z38).f1 ≤ 5) →
   (if b = true then (if ok = true then (if (((l.filter (fun s => hasB s.f0.f0 s.f0.f1 key)).length : Nat) : Int) = 1 then ((gazetteerref5_Has.f x y key).bind fun t => (if t = true then (if nd ≥ 1 then (some (decide (nd ≤ 5))) else (some false)) else (some false))) else (some false)) else (some false)) else (some (ok == (decide ((((l.filter (fun s => hasB s.f0.f0 s.f0.f1 key)).length : Nat) : Int) > 0))))) = some true) :
  ∀ (n i k : Nat), n = l.length - i → i ≤ l.length → n + 200 ≤ k → gazetteerlaw14_AtlasOwns.l0 k key ok ((((l.take i).filter (fun s => hasB s.f0.f0 s.f0.f1 key)).length : Nat) : Int) (i : Int) e l x y nd ep = some true
 | n, i, 0, _, _, h => by omega
 | n, i, k + 1, hn, hi, hk => by
  simp only [gazetteerlaw14_AtlasOwns.l0]
  by_cases hlt : i < l.length
  ·
   have hrd : rd_T38 l (i : Int) = l.getD i z38 := by simp [rd_T38]
   rw [if_pos (by omega), if_pos (by omega), hrd, refhas]
   simp only [Option.bind_some]
   have := cn0 key ok e l hlen x y nd ep hfin (n - 1) (i + 1) k (by omega) (by omega) (by omega)
   rw [take_at (d := z38) hlt, List.filter_append] at this
   have hle : ((l.take i).filter (fun s => hasB s.f0.f0 s.f0.f1 key)).length ≤ 60 := by
    have h1 := List.length_filter_le (fun s : S38 => hasB s.f0.f0 s.f0.f1 key) (l.take i)
    have h2 := List.length_take_le i l
    omega
   rw [wrapN i (by omega), wrapN _ (by omega)]
   cases hh : hasB (l.getD i z38).f0.f0 (l.getD i z38).f0.f1 key with
   | true =>
    rw [List.filter_cons_of_pos (by exact hh), List.filter_nil, List.length_append, List.length_singleton] at this
    rw [if_pos rfl]; exact this
   | false =>
    rw [List.filter_cons_of_neg (by simp only [hh]; simp), List.filter_nil, List.append_nil] at this
    rw [if_neg (by simp)]; exact this
  ·
   have hi' : i = l.length := by omega
   subst hi'
   rw [if_neg (by omega), List.take_length]
   obtain ⟨b, hb, hc⟩ := refmay e l (by omega) k (by omega)
   rw [hb]
   exact hfin b hc
theorem hasB_L (x y k : ByteArray) : hasB x y k = hasL x.toList y.toList k.toList := rfl
theorem j0_eq (key : ByteArray) (b : Bool) (e : Int) (l : List S38) (hlen : b = false → l.length ≤ 60) (k : Nat) (hk : 300 ≤ k) : gazetteerlaw14_AtlasOwns.j0 k key b e l = some true := by
 obtain ⟨k, rfl⟩ : ∃ m, k = m + 1 := ⟨k - 1, by omega⟩
 simp only [gazetteerlaw14_AtlasOwns.j0]
 cases b with
 | true => rfl
 | false =>
  have hlen := hlen rfl
  simp only [Bool.false_eq_true, if_false]
  refine bindE (made e l (by omega) k (by omega)) ?_
  have hcnt : (b : Bool) → Chain F28 T28 [] (l.map sp) → (l.filter (fun s => hasB s.f0.f0 s.f0.f1 key)).length = 1 := by
   intro _ h
   have := chain_count key.toList _ _ h
   rw [bl_nil, if_neg (by simp), List.filter_map, List.length_map] at this
   exact this
  have hO : atlas_Shard_52.f (l.map mk) key = some (firstAt (fun s => hasB s.f0.f0 s.f0.f1 key) (l.map mk)) := by
   unfold atlas_Shard_52.f
   rw [if_pos (by simp; omega)]
  rcases firstAt_cases (fun s : S30 => hasB s.f0.f0 s.f0.f1 key) (l.map mk) z30 with ⟨h1, h2⟩ | ⟨i, h1, h2, h3⟩
  ·
   have hz : (l.filter (fun s => hasB s.f0.f0 s.f0.f1 key)).length = 0 := by
    rw [List.length_eq_zero_iff, List.filter_eq_nil_iff]
    intro s hs
    have := h2 (mk s) (List.mem_map_of_mem hs)
    simpa using this
   have hown : atlas_Owner.f e (l.map mk) key = some (⟨#[]⟩, ⟨#[]⟩, 0, 0, false) := by
    unfold atlas_Owner.f
    rw [hO, h1]; rfl
   refine bindE hown ?_
   have := cn0 key false e l hlen ⟨#[]⟩ ⟨#[]⟩ 0 0 (fun b hb => by
    cases b with
    | true => have := hcnt true (hb rfl).1; omega
    | false => rw [hz]; rfl) l.length 0 k (by omega) (by omega) (by omega)
   simpa using this
  ·
   have hi : i < l.length := by simpa using h1
   have hg : (l.map mk).getD i z30 = mk (l.getD i z38) := by
    rw [List.getD_eq_getElem?_getD, List.getD_eq_getElem?_getD, List.getElem?_map, List.getElem?_eq_getElem hi]; rfl
   rw [hg] at h3
   have hpos : 0 < (l.filter (fun s => hasB s.f0.f0 s.f0.f1 key)).length := by
    rw [List.length_pos_iff]
    intro h
    rw [List.filter_eq_nil_iff] at h
    refine h (l.getD i z38) ?_ h3
    rw [List.getD_eq_getElem?_getD, List.getElem?_eq_getElem hi]
    exact List.getElem_mem hi
   have hown : atlas_Owner.f e (l.map mk) key = some ((l.getD i z38).f0.f0, (l.getD i z38).f0.f1, (l.getD i z38).f1, (l.getD i z38).f2, true) := by
    unfold atlas_Owner.f
    have hrd : rd_T30 (l.map mk) (i : Int) = mk (l.getD i z38) := by rw [← hg]; simp [rd_T30]
    refine bindE hO ?_
    rw [h2]
    refine iteF (by omega) (iteT (by omega) (iteT (by simp; omega) ?_))
    rw [hrd]
   refine bindE hown ?_
   have := cn0 key true e l hlen (l.getD i z38).f0.f0 (l.getD i z38).f0.f1 (l.getD i z38).f1 (l.getD i z38).f2 (fun b hb => by
    cases b with
    | true =>
     have c := hcnt true (hb rfl).1
     have d := (hb rfl).2 i hi
     rw [c, refhas]
     simp only [Option.bind_some, if_true]
     rw [if_pos (by rfl), if_pos h3, if_pos d.1, decide_eq_true d.2]
    | false =>
     have hp : ((((l.filter (fun s => hasB s.f0.f0 s.f0.f1 key)).length : Nat) : Int) > 0) := by omega
     rw [if_neg (by simp), decide_eq_true hp]; rfl) l.length 0 k (by omega) (by omega) (by omega)
   simpa using this
theorem awake_eq (k : Nat) : gazetteerlaw14_awake.f (k + 20) = some true := by
 simp [gazetteerlaw14_awake.f, atlas_First.f, atlas_Split.f, atlas_goes.f, atlas_May.f, atlas_May.j0, atlas_May.l0, span_Whole.f, span_Whole.l0, span_Empty.f, atlas_Shard_52.f, firstAt, hasB, atlas_changed.f, atlas_changed.l0, atlas_changed.l1, atlas_Shard_89.f, atlas_Owner.f, gazetteerlaw14_same.f, gazetteerlaw14_same.l0, ByteArray.toList_eq, Op.bytesLess, rd_T28, rd_T30, rd, wrap64, List.findIdx?_cons]
theorem AtlasOwns : gazetteerlaw14_AtlasOwns.Pure := by
 intro e l key _ _ _
 obtain ⟨k, _⟩ : ∃ k : Nat, k = 0 := ⟨0, rfl⟩
 refine ⟨k + 300 + 20, ?_⟩
 unfold gazetteerlaw14_AtlasOwns.f
 refine bindE (awake_eq _) (iteT rfl ?_)
 obtain ⟨b, hb, hc⟩ := small e l (k + 300 + 20) (by omega)
 refine bindE hb ?_
 by_cases h : b = true
 ·
  exact iteT h (j0_eq _ _ _ _ (fun _ => hc h) _ (by omega))
 ·
  exact iteF h (j0_eq _ _ _ _ (by simp) _ (by omega))
end Go.Proofs.Ytbajekndbamcmaa.Pure

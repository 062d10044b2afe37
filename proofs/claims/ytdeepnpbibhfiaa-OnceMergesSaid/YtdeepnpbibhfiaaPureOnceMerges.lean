/- OnceMerges: its printed parts are what they say; the law by hand shows the rest (ovr/once3.lean). No condition. -/
import Derived.Test.YtdeepnpbibhfiaaPOnceMergesy
namespace Go.Proofs.Ytdeepnpbibhfiaa.Pure
set_option linter.unusedVariables false
open Go.RowKit Go.Proofs.Ytdeepnpbibhfiaa.POnceMerges Go.Proofs.YtdeepnpbibhfiaaW.PrintOnce
theorem w1 {i : Nat} (h : i ≤ 9223372036854775806) : wrap64 ((i : Int) + 1) = ((i + 1 : Nat) : Int) := by unfold wrap64; omega
theorem small_reply (x : S33) (hl : x.f5.length ≤ maxLen) : ∀ (d k i : Nat) (s : Int), i ≤ x.f5.length → x.f5.length - i = d → d < k → ∃ b, gazetteerlaw9_SmallReply.l0 k s (i : Int) x.f0 x.f1 x.f2 x.f3 x.f4 x.f5 x.f6 x.f7 = some b ∧ (b = true → x.f5.length ≤ 300) := by
  intro d
  induction d with
  | zero =>
    intro k i s hi hd hk
    obtain ⟨k, rfl⟩ : ∃ k', k = k' + 1 := ⟨k - 1, by omega⟩
    simp only [gazetteerlaw9_SmallReply.l0]
    rw [if_neg (by omega)]
    by_cases h : (x.f5.length : Int) ≤ 300
    · rw [if_pos h]; exact ⟨_, rfl, fun _ => by omega⟩
    · rw [if_neg h]; exact ⟨_, rfl, fun h => by cases h⟩
  | succ d ih =>
    intro k i s hi hd hk
    obtain ⟨k, rfl⟩ : ∃ k', k = k' + 1 := ⟨k - 1, by omega⟩
    simp only [gazetteerlaw9_SmallReply.l0]
    rw [if_pos (by omega), if_pos (by omega), w1 (by unfold maxLen at hl; omega)]
    exact ih k (i + 1) _ (by omega) (by omega) (by omega)
theorem rd33 {l : List S33} {i : Nat} (h : i < l.length) : rd_T33 l (i : Int) = l[i] := by
  unfold rd_T33
  rw [Int.toNat_natCast, List.getD_eq_getElem?_getD, List.getElem?_eq_getElem h]; rfl
theorem small_l (l : List S33) (hx : ∀ x ∈ l, x.f5.length ≤ maxLen) : ∀ (d k i : Nat), i ≤ l.length → i ≤ 101 → 101 - i = d → d < k → (∀ x ∈ l, x.f5.length + d < k) → ∃ b, gazetteerlaw12_Small.l0 k l (i : Int) = some b ∧ (b = true → l.length ≤ 101 ∧ ∀ j, i ≤ j → ∀ h : j < l.length, l[j].f5.length ≤ 300) := by
  intro d
  induction d with
  | zero =>
    intro k i hi h1 hd hk hxk
    obtain ⟨k, rfl⟩ : ∃ k', k = k' + 1 := ⟨k - 1, by omega⟩
    simp only [gazetteerlaw12_Small.l0]
    by_cases h : (i : Int) < (l.length : Int)
    · rw [if_pos h, if_pos (by omega)]; exact ⟨_, rfl, fun h => by cases h⟩
    · rw [if_neg h]; exact ⟨_, rfl, fun _ => ⟨by omega, fun j hj h => by omega⟩⟩
  | succ d ih =>
    intro k i hi h1 hd hk hxk
    obtain ⟨k, rfl⟩ : ∃ k', k = k' + 1 := ⟨k - 1, by omega⟩
    simp only [gazetteerlaw12_Small.l0]
    by_cases h : (i : Int) < (l.length : Int)
    · have hl : i < l.length := by omega
      have hm : l[i] ∈ l := List.getElem_mem hl
      rw [if_pos h, if_neg (by omega), if_pos (by omega), rd33 hl]
      obtain ⟨b, e, t⟩ := small_reply l[i] (hx _ hm) _ k 0 (wrap64 ((l[i].f4.size : Int) + (l[i].f6.size : Int))) (Nat.zero_le _) rfl (by have := hxk _ hm; omega)
      unfold gazetteerlaw9_SmallReply.f
      rw [show ((0 : Nat) : Int) = 0 from rfl] at e
      rw [e, Option.bind_some]
      cases b with
      | false => exact ⟨_, rfl, fun h => by cases h⟩
      | true =>
        rw [if_pos rfl]
        by_cases h5 : (l[i].f4.size : Int) > 500
        · rw [if_pos h5]; exact ⟨_, rfl, fun h => by cases h⟩
        · rw [if_neg h5, w1 (by omega)]
          obtain ⟨b, e, t2⟩ := ih k (i + 1) (by omega) (by omega) (by omega) (by omega) (fun x hx => by have := hxk x hx; omega)
          refine ⟨b, e, fun hb => ⟨(t2 hb).1, fun j hj hl2 => ?_⟩⟩
          by_cases hji : j = i
          · subst hji; exact t rfl
          · exact (t2 hb).2 j (by omega) hl2
    · rw [if_neg h]; exact ⟨_, rfl, fun _ => ⟨by omega, fun j hj h => by omega⟩⟩
theorem small_f (K : Nat) (l : List S33) (hx : ∀ x ∈ l, x.f5.length + 101 < K ∧ x.f5.length ≤ maxLen) (hK : 101 < K) : ∃ b, gazetteerlaw12_Small.f K l = some b ∧ (b = true → l.length ≤ 101 ∧ ∀ x ∈ l, x.f5.length ≤ 300) := by
  obtain ⟨b, e, t⟩ := small_l l (fun x h => (hx x h).2) 101 K 0 (Nat.zero_le _) (by omega) rfl hK (fun x h => (hx x h).1)
  refine ⟨b, e, fun hb => ⟨(t hb).1, fun x hm => ?_⟩⟩
  obtain ⟨j, hj, rfl⟩ := List.getElem_of_mem hm
  exact (t hb).2 j (Nat.zero_le _) hj
theorem rd47 {l : List S33} {i : Nat} (h : i < l.length) : rd_T47 (l.map mkM) (i : Int) = mkM l[i] := by
  unfold rd_T47
  rw [Int.toNat_natCast, List.getD_eq_getElem?_getD, List.getElem?_map, List.getElem?_eq_getElem h]; rfl
theorem rd39 {l : List S33} {i : Nat} (h : i < l.length) : rd_T39 (l.map mkL) (i : Int) = mkL l[i] := by
  unfold rd_T39
  rw [Int.toNat_natCast, List.getD_eq_getElem?_getD, List.getElem?_map, List.getElem?_eq_getElem h]; rfl
theorem tk1 {l : List S33} {i : Nat} (h : i < l.length) : l.take (i + 1) = l.take i ++ [l[i]] := by
  rw [List.take_add_one, List.getElem?_eq_getElem h]; rfl
theorem made_l (l : List S33) (hl : l.length ≤ 202) : ∀ (d k i : Nat), i ≤ l.length → l.length - i = d → d < k → gazetteerlaw12_Made.l0 k (l.map mkM) ((l.take i).map mkL) (i : Int) = some (l.map mkL) := by
  intro d
  induction d with
  | zero =>
    intro k i hi hd hk
    obtain ⟨k, rfl⟩ : ∃ k', k = k' + 1 := ⟨k - 1, by omega⟩
    simp only [gazetteerlaw12_Made.l0, List.length_map]
    rw [if_neg (by omega), List.take_of_length_le (by omega)]
  | succ d ih =>
    intro k i hi hd hk
    obtain ⟨k, rfl⟩ : ∃ k', k = k' + 1 := ⟨k - 1, by omega⟩
    simp only [gazetteerlaw12_Made.l0, List.length_map]
    rw [if_pos (by omega), if_pos (by omega), if_pos (by rw [List.length_take]; omega), w1 (by omega), rd47 (by omega)]
    have h2 := ih k (i + 1) (by omega) (by omega) (by omega)
    rw [tk1 (by omega), List.map_append] at h2
    exact h2
theorem made_f (K : Nat) (l : List S33) (hl : l.length ≤ 202) (hK : 202 < K) : gazetteerlaw12_Made.f K (l.map mkM) = some (l.map mkL) := made_l l hl l.length K 0 (Nat.zero_le _) rfl (by omega)
theorem back_l (l : List S33) (hl : l.length ≤ 202) : ∀ (d k i : Nat), i ≤ l.length → l.length - i = d → d < k → gazetteerlaw12_Back.l0 k (l.map mkL) ((l.take i).map mkM) (i : Int) = some (l.map mkM) := by
  intro d
  induction d with
  | zero =>
    intro k i hi hd hk
    obtain ⟨k, rfl⟩ : ∃ k', k = k' + 1 := ⟨k - 1, by omega⟩
    simp only [gazetteerlaw12_Back.l0, List.length_map]
    rw [if_neg (by omega), List.take_of_length_le (by omega)]
  | succ d ih =>
    intro k i hi hd hk
    obtain ⟨k, rfl⟩ : ∃ k', k = k' + 1 := ⟨k - 1, by omega⟩
    simp only [gazetteerlaw12_Back.l0, List.length_map]
    rw [if_pos (by omega), if_pos (by omega), if_pos (by rw [List.length_take]; omega), w1 (by omega), rd39 (by omega)]
    have h2 := ih k (i + 1) (by omega) (by omega) (by omega)
    rw [tk1 (by omega), List.map_append] at h2
    exact h2
theorem back_f (K : Nat) (l : List S33) (hl : l.length ≤ 202) (hK : 202 < K) : gazetteerlaw12_Back.f K (l.map mkL) = some (l.map mkM) := back_l l hl l.length K 0 (Nat.zero_le _) rfl (by omega)
theorem reply_l (x : S33) (hl : x.f5.length ≤ 300) : ∀ (d k i : Nat), i ≤ x.f5.length → x.f5.length - i = d → d < k → gazetteerref5_SameReply.l0 k (i : Int) x.f0 x.f1 x.f2 x.f3 x.f4 x.f5 x.f6 x.f7 x.f0 x.f1 x.f2 x.f3 x.f4 x.f5 x.f6 x.f7 = some true := by
  intro d
  induction d with
  | zero =>
    intro k i hi hd hk
    obtain ⟨k, rfl⟩ : ∃ k', k = k' + 1 := ⟨k - 1, by omega⟩
    simp only [gazetteerref5_SameReply.l0]
    rw [if_neg (by omega)]
  | succ d ih =>
    intro k i hi hd hk
    obtain ⟨k, rfl⟩ : ∃ k', k = k' + 1 := ⟨k - 1, by omega⟩
    simp only [gazetteerref5_SameReply.l0, BEq.rfl, Bool.not_true, Bool.or_false]
    rw [if_pos (by omega), if_pos (by omega), if_pos (by omega), if_neg (by decide), w1 (by omega)]
    exact ih k (i + 1) (by omega) (by omega) (by omega)
theorem reply_f (K : Nat) (x : S33) (hl : x.f5.length ≤ 300) (hK : 302 < K) : gazetteerref5_SameReply.f K x.f0 x.f1 x.f2 x.f3 x.f4 x.f5 x.f6 x.f7 x.f0 x.f1 x.f2 x.f3 x.f4 x.f5 x.f6 x.f7 = some true := by
  obtain ⟨k, rfl⟩ : ∃ k', K = k' + 1 := ⟨K - 1, by omega⟩
  unfold gazetteerref5_SameReply.f
  rw [if_pos rfl, if_pos rfl, if_pos rfl, if_neg (by simp), if_pos rfl, if_pos rfl, if_neg (by simp), show ((x.f5.length : Int) != (x.f5.length : Int)) = false by simp]
  simp only [gazetteerref5_SameReply.j0]
  rw [if_neg (by decide)]
  exact reply_l x hl x.f5.length k 0 (Nat.zero_le _) rfl (by omega)
theorem same_l (l : List S33) (hl : l.length ≤ 202) (hx : ∀ x ∈ l, x.f5.length ≤ 300) : ∀ (d k i : Nat), i ≤ l.length → l.length - i = d → d + 303 < k → gazetteerlaw12_Same.l0 k (l.map mkM) (l.map mkM) (i : Int) = some true := by
  intro d
  induction d with
  | zero =>
    intro k i hi hd hk
    obtain ⟨k, rfl⟩ : ∃ k', k = k' + 1 := ⟨k - 1, by omega⟩
    simp only [gazetteerlaw12_Same.l0, List.length_map]
    rw [if_neg (by omega)]
  | succ d ih =>
    intro k i hi hd hk
    obtain ⟨k, rfl⟩ : ∃ k', k = k' + 1 := ⟨k - 1, by omega⟩
    simp only [gazetteerlaw12_Same.l0, List.length_map]
    rw [if_pos (by omega), if_pos (by omega), if_pos (by omega), rd47 (by omega), if_pos (by first | rfl | trivial)]
    have hm : l[i]'(by omega) ∈ l := List.getElem_mem _
    have h1 : gazetteerref5_SameReply.f k (mkM (l[i]'(by omega))).f1.f0 (mkM (l[i]'(by omega))).f1.f1 (mkM (l[i]'(by omega))).f1.f2 (mkM (l[i]'(by omega))).f1.f3 (mkM (l[i]'(by omega))).f1.f4 (mkM (l[i]'(by omega))).f1.f5 (mkM (l[i]'(by omega))).f1.f6 (mkM (l[i]'(by omega))).f1.f7 (mkM (l[i]'(by omega))).f1.f0 (mkM (l[i]'(by omega))).f1.f1 (mkM (l[i]'(by omega))).f1.f2 (mkM (l[i]'(by omega))).f1.f3 (mkM (l[i]'(by omega))).f1.f4 (mkM (l[i]'(by omega))).f1.f5 (mkM (l[i]'(by omega))).f1.f6 (mkM (l[i]'(by omega))).f1.f7 = some true := reply_f k _ (hx _ hm) (by omega)
    rw [h1, Option.bind_some, if_pos rfl, w1 (by omega)]
    exact ih k (i + 1) (by omega) (by omega) (by omega)
theorem same_f (K : Nat) (l : List S33) (hl : l.length ≤ 202) (hx : ∀ x ∈ l, x.f5.length ≤ 300) (hK : 505 < K) : gazetteerlaw12_Same.f K (l.map mkM) (l.map mkM) = some true := by
  unfold gazetteerlaw12_Same.f
  rw [if_pos rfl]
  exact same_l l hl hx l.length K 0 (Nat.zero_le _) rfl (by omega)
theorem sum_le {l : List S33} {x : S33} (h : x ∈ l) : x.f5.length ≤ (l.map (fun y => y.f5.length)).sum := by
  induction l with
  | nil => cases h
  | cons y r ih =>
    rw [List.map_cons, List.sum_cons]
    rcases List.mem_cons.1 h with rfl | h
    · omega
    · have := ih h; omega
theorem fuel (a b : List S33) : ∃ K : Nat, (∀ x ∈ a, x.f5.length + 101 < K) ∧ (∀ x ∈ b, x.f5.length + 101 < K) ∧ 1000 ≤ K :=
  ⟨(a.map (fun y => y.f5.length)).sum + (b.map (fun y => y.f5.length)).sum + 1000, fun x hx => by have := sum_le hx; omega, fun x hx => by have := sum_le hx; omega, by omega⟩
theorem parts (K : Nat) (hK : 1000 ≤ K) (X : List S33) (hl : X.length ≤ 202) (hx : ∀ x ∈ X, x.f5.length ≤ 300) : PartsP K X :=
  ⟨made_f K X hl (by omega), back_f K X hl (by omega), same_f K X hl hx (by omega)⟩
theorem fold_few {l : List S33} (hl : l.length ≤ 202) (hx : ∀ x ∈ l, x.f5.length ≤ 300) : (l.foldl noteT []).length ≤ l.length ∧ ∀ x ∈ l.foldl noteT [], x.f5.length ≤ 300 := by
  refine ⟨by have := fold_len l []; rw [List.length_nil] at this; omega, fun x h => ?_⟩
  rcases fold_mem l h with h | h
  · exact hx x h
  · cases h
theorem OnceMerges : gazetteerlaw12_OnceMerges.Pure := by
  intro l0 l1 h0 h1
  unfold gazetteerlaw12_OnceMerges.f
  rw [if_pos]
  obtain ⟨K, hK0, hK1, hK⟩ := fuel l0 l1
  obtain ⟨sa, ea, ta⟩ := small_f K l0 (fun x hx => ⟨by have := hK0 x hx; omega, (h0.2.2 x hx).2.2.2.2.2.1.1⟩) (by omega)
  obtain ⟨sb, eb, tb⟩ := small_f K l1 (fun x hx => ⟨by have := hK1 x hx; omega, (h1.2.2 x hx).2.2.2.2.2.1.1⟩) (by omega)
  refine ⟨fun x hx => (h0.2.2 x hx).1, fun x hx => (h1.2.2 x hx).1, K, sa, sb, ea, fun _ => eb, fun q0 q1 => ?_⟩
  have t0 := ta q0
  have t1 := tb q1
  have f0 := fold_few (by omega) t0.2
  have f1 := fold_few (by omega) t1.2
  have f2 := fold_few (l := l0.foldl noteT [] ++ l1.foldl noteT []) (by rw [List.length_append]; omega) (fun x hx => by rcases List.mem_append.1 hx with h | h; exact f0.2 x h; exact f1.2 x h)
  rw [List.length_append] at f2
  exact ⟨⟨t0.1, fun x hx => by have := t0.2 x hx; omega⟩, ⟨t1.1, fun x hx => by have := t1.2 x hx; omega⟩, parts K hK _ (by omega) f0.2, parts K hK _ (by omega) f1.2, parts K hK _ (by omega) f2.2⟩
end Go.Proofs.Ytdeepnpbibhfiaa.Pure

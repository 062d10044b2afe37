/- Rows of keys that are numbers: plain facts. No condition. -/
import Derived.Test.YtbajekndbamcmaaWGroveA
namespace Go.Proofs.YtbajekndbamcmaaW.GroveR
open Go.RowKit Go.Proofs.YtbajekndbamcmaaW.PrintWords Go.Proofs.YtbajekndbamcmaaW.PrintLast Go.Proofs.YtbajekndbamcmaaW.PrintMore Go.Proofs.YtbajekndbamcmaaW.PrintReg Go.Proofs.YtbajekndbamcmaaW.PrintTree Go.Proofs.YtbajekndbamcmaaW.GroveA
set_option linter.unusedVariables false
set_option linter.unusedSimpArgs false
/-! ### rows of keys that are numbers -/
def rows (f : Nat → Int) (l : List Nat) : List (Int × Int) := l.map (fun (j : Nat) => ((j : Int), f j))
theorem rows_len (f : Nat → Int) (l : List Nat) : (rows f l).length = l.length := by simp [rows]
theorem rows_app (f : Nat → Int) (l m : List Nat) : rows f (l ++ m) = rows f l ++ rows f m := by simp [rows]
/-- The numbers below N of which P is told. -/
def these (N : Nat) (P : Nat → Bool) : List Nat := (List.range N).filter P
theorem these_congr (N : Nat) (P Q : Nat → Bool) (h : ∀ q, q < N → P q = Q q) : these N P = these N Q := List.filter_congr (fun q hq => h q (List.mem_range.1 hq))
theorem these_nil (N : Nat) (P : Nat → Bool) (h : ∀ q, q < N → P q = false) : these N P = [] := List.filter_eq_nil_iff.2 (fun q hq => by rw [h q (List.mem_range.1 hq)]; decide)
theorem these_split (N x : Nat) (hx : x < N) (P : Nat → Bool) : these N P = these x P ++ (if P x then [x] else []) ++ ((List.range' (x + 1) (N - (x + 1))).filter P) := by
  have e : List.range N = List.range x ++ ([x] ++ List.range' (x + 1) (N - (x + 1))) := by
    obtain ⟨M, rfl⟩ : ∃ M, N = x + (1 + M) := ⟨N - (x + 1), by omega⟩
    rw [show x + (1 + M) - (x + 1) = M by omega, List.range_eq_range', List.range_eq_range', ← List.range'_append_1, ← List.range'_append_1]
    simp
  simp only [these, e, List.filter_append, List.append_assoc]
  congr 1
  congr 1
  simp only [List.filter_cons, List.filter_nil]
theorem these_put (N x : Nat) (hx : x < N) (P : Nat → Bool) (hP : P x = false) (f : Nat → Int) : putL sub (x : Int) (f x) (rows f (these N P)) = (rows f (these N (fun q => P q || q == x)), false) := by
  rw [these_split N x hx P, these_split N x hx (fun q => P q || q == x), hP]
  have e1 : these x (fun q => P q || q == x) = these x P := List.filter_congr (fun q hq => by
    have := List.mem_range.1 hq
    have : (q == x) = false := by simp; omega
    rw [this, Bool.or_false])
  have e2 : (List.range' (x + 1) (N - (x + 1))).filter (fun q => P q || q == x) = (List.range' (x + 1) (N - (x + 1))).filter P := List.filter_congr (fun q hq => by
    have := (List.mem_range'_1.1 hq).1
    have : (q == x) = false := by simp; omega
    rw [this, Bool.or_false])
  rw [e1, e2]
  simp only [Bool.false_eq_true, if_false, List.append_nil, beq_self_eq_true, Bool.or_true, if_true]
  rw [rows_app, rows_app, rows_app, putL_hi (cmp := sub) (x : Int) (f x) _ _ (fun p hp => by
    obtain ⟨i, hi, rfl⟩ := List.mem_map.1 hp
    have := List.mem_range.1 (List.mem_filter.1 hi).1
    simp only [sub]; omega)]
  have e3 : ∀ l : List Nat, (∀ q ∈ l, x < q) → putL sub (x : Int) (f x) (rows f l) = (((x : Int), f x) :: rows f l, false)
    | [], _ => rfl
    | a :: l, h => by
      have := h a (by simp)
      rw [show rows f (a :: l) = ((a : Int), f a) :: rows f l from rfl, putL, if_pos (by simp only [sub]; omega)]
  rw [e3 _ (fun q hq => by have := (List.mem_range'_1.1 (List.mem_filter.1 hq).1).1; omega)]
  simp [rows]
theorem these_asc (N : Nat) (P : Nat → Bool) : (these N P).Pairwise (· < ·) := List.Pairwise.filter _ (List.pairwise_lt_range)
theorem these_more (N x : Nat) (hx : x < N) (P : Nat → Bool) (hP : P x = false) : (these N (fun q => P q || q == x)).length = (these N P).length + 1 := by
  have h := putL_len (cmp := sub) (x : Int) (0 : Int) (rows (fun _ => 0) (these N P))
  have h0 : putL sub (x : Int) (0 : Int) (rows (fun _ => 0) (these N P)) = (rows (fun _ => 0) (these N (fun q => P q || q == x)), false) := these_put N x hx P hP (fun _ => 0)
  rw [h0, rows_len, rows_len] at h
  simpa using h
theorem takeL_rows (f : Nat → Int) (x : Nat) : ∀ (l : List Nat), l.Pairwise (· < ·) → takeL sub (x : Int) (rows f l) = (rows f (l.filter (fun q => q != x)), if x ∈ l then some (f x) else none)
  | [], _ => rfl
  | a :: l, h => by
    have h1 := List.pairwise_cons.1 h
    rw [show rows f (a :: l) = ((a : Int), f a) :: rows f l from rfl, takeL, takeL_rows f x l h1.2]
    have e0 : sub (x : Int) (a : Int) = (x : Int) - (a : Int) := rfl
    by_cases c1 : sub (x : Int) (a : Int) < 0
    · have hn : x ∉ a :: l := fun hm => by
        rcases List.mem_cons.1 hm with e | e
        · omega
        · have := h1.1 x e; omega
      rw [if_pos c1, if_neg hn, List.filter_eq_self.2 (fun q hq => by
        have : q ≠ x := fun e => hn (e ▸ hq)
        simpa using this)]
      rfl
    · rw [if_neg c1]
      by_cases c2 : 0 < sub (x : Int) (a : Int)
      · rw [if_pos c2, List.filter_cons_of_pos (by simp; omega)]
        have : (x ∈ a :: l) ↔ x ∈ l := by simp; omega
        simp only [this]
        rfl
      · obtain rfl : x = a := by omega
        rw [if_neg c2, List.filter_cons_of_neg (by simp), if_pos (by simp), List.filter_eq_self.2 (fun q hq => by
          have := h1.1 q hq
          simp; omega)]
theorem odd_inv : ∀ a : Nat, a < 64 → ∃ t, t < 1024 ∧ (1 + 2 * a) * t % 1024 = 1 := by decide +kernel
theorem back {s t q : Nat} (ht : s * t % 1024 = 1) (hq : q < 1024) : q * s % 1024 * t % 1024 = q := by
  rw [Nat.mod_mul_mod, Nat.mul_assoc, ← Nat.mul_mod_mod, ht]
  omega
theorem forth {s t q : Nat} (ht : s * t % 1024 = 1) (hq : q < 1024) : q * t % 1024 * s % 1024 = q := by
  rw [Nat.mod_mul_mod, Nat.mul_assoc, ← Nat.mul_mod_mod, Nat.mul_comm t s, ht]
  omega
/-- What the keys are when the first j were put. -/
def put_ (t j : Nat) : List Nat := these 1024 (fun q => decide (q * t % 1024 < j))
def val (t : Nat) (q : Nat) : Int := ((q * t % 1024 : Nat) : Int)
theorem put_next {s t j : Nat} (ht : s * t % 1024 = 1) (hj : j < 1024) : putL sub ((j * s % 1024 : Nat) : Int) (j : Int) (rows (val t) (put_ t j)) = (rows (val t) (put_ t (j + 1)), false) := by
  have hb := back (q := j) ht hj
  have hx : j * s % 1024 < 1024 := Nat.mod_lt _ (by omega)
  have h := these_put 1024 (j * s % 1024) hx (fun q => decide (q * t % 1024 < j)) (by rw [hb]; simp) (val t)
  have e : val t (j * s % 1024) = (j : Int) := by rw [val, hb]
  rw [e] at h
  refine h.trans ?_
  have : these 1024 (fun q => decide (q * t % 1024 < j) || q == j * s % 1024) = put_ t (j + 1) := these_congr _ _ _ (fun q hq' => by
    have hf := forth (q := q) ht hq'
    by_cases c : q = j * s % 1024
    · subst c; simp [hb]
    · have c2 : q * t % 1024 ≠ j := fun e => c (by rw [← e]; exact hf.symm)
      have : (q == j * s % 1024) = false := by simpa using c
      rw [this, Bool.or_false, decide_eq_decide]; omega)
  rw [this]
theorem put_len {s t : Nat} (ht : s * t % 1024 = 1) (j : Nat) : j ≤ 1024 → (put_ t j).length = j := by
  induction j with
  | zero =>
    intro _
    have : put_ t 0 = [] := these_nil _ _ (fun q _ => by simp)
    rw [this]; rfl
  | succ j ih =>
    intro h
    have h1 := ih (by omega)
    have h2 := putL_len (cmp := sub) ((j * s % 1024 : Nat) : Int) (j : Int) (rows (val t) (put_ t j))
    have h3 := put_next ht (show j < 1024 by omega)
    generalize put_ t (j + 1) = A at *
    generalize put_ t j = B at *
    rw [h3] at h2
    have h4 : (rows (val t) A).length = (rows (val t) B).length + 1 := h2
    rw [rows_len, rows_len, h1] at h4
    exact h4
theorem key_at (j s : Nat) (hj : j < 1024) (hs : s ≤ 1024) : (wrap64 ((j : Int) * (s : Int))).tmod 1024 = ((j * s % 1024 : Nat) : Int) := by
  have h1 : j * s ≤ 1024 * 1024 := Nat.mul_le_mul (by omega) hs
  have h2 : (j : Int) * (s : Int) = ((j * s : Nat) : Int) := by simp
  rw [h2]
  generalize j * s = p at *
  have h3 : wrap64 (p : Int) = (p : Int) := by unfold wrap64; omega
  rw [h3, Int.tmod_eq_emod_of_nonneg (by omega)]
  omega
/-- What the walk sees: the last key, how many. -/
def seeR (at_ s : Int) (σ : Int × Int) (x v : Int) : (Int × Int) × Bool := ((x, wrap64 ((if x ≤ σ.1 ∨ x < at_ ∨ x ≠ (wrap64 (v * s)).tmod 1024 then -10000 else σ.2) + 1)), true)
theorem goL_rows {s t : Nat} (ht : s * t % 1024 = 1) (hs : s ≤ 1024) (at_ : Int) : ∀ (l : List Nat) (la many : Int), l.Pairwise (· < ·) → (∀ q ∈ l, at_ ≤ (q : Int) ∧ la < (q : Int) ∧ q < 1024) → 0 ≤ many → many + l.length ≤ 100000 → ∃ la', goL (seeR at_ s) (rows (val t) l) (la, many) = ((la', many + l.length), true)
  | [], la, many, _, _, _, _ => ⟨la, by simp [rows, goL]⟩
  | q :: l, la, many, h, hq, h0, hm => by
    have h1 := List.pairwise_cons.1 h
    have hq0 := hq q (by simp)
    have hk := key_at (q * t % 1024) s (Nat.mod_lt _ (by omega)) hs
    rw [forth ht hq0.2.2] at hk
    have e : seeR at_ s (la, many) (q : Int) (val t q) = (((q : Int), many + 1), true) := by
      unfold seeR val
      rw [hk, if_neg (by simp only [not_or, ne_eq, Decidable.not_not]; exact ⟨by omega, by omega, trivial⟩)]
      have : wrap64 (many + 1) = many + 1 := by simp only [List.length_cons] at hm; unfold wrap64; omega
      rw [this]
    obtain ⟨la', h2⟩ := goL_rows ht hs at_ l (q : Int) (many + 1) h1.2 (fun p hp => ⟨(hq p (by simp [hp])).1, by have := h1.1 p hp; omega, (hq p (by simp [hp])).2.2⟩) (by omega) (by simp only [List.length_cons] at hm; omega)
    refine ⟨la', ?_⟩
    rw [show rows (val t) (q :: l) = ((q : Int), val t q) :: rows (val t) l from rfl, goL, e]
    simp only [if_true, h2, List.length_cons]
    congr 2
    omega
/-- How many of the first j keys are not less than a. -/
def cnt (s a : Nat) : Nat → Nat
  | 0 => 0
  | j + 1 => cnt s a j + if a ≤ j * s % 1024 then 1 else 0
theorem cnt_le (s a : Nat) : ∀ j, cnt s a j ≤ j
  | 0 => Nat.le_refl _
  | j + 1 => by have := cnt_le s a j; simp only [cnt]; split <;> omega
theorem from_len {s t a : Nat} (ht : s * t % 1024 = 1) (j : Nat) : j ≤ 1024 → (these 1024 (fun q => decide (q * t % 1024 < j) && decide (a ≤ q))).length = cnt s a j := by
  induction j with
  | zero => intro _; rw [these_nil _ _ (fun q _ => by simp)]; rfl
  | succ j ih =>
    intro h
    have hb := back (q := j) ht (by omega)
    have hx : j * s % 1024 < 1024 := Nat.mod_lt _ (by omega)
    simp only [cnt]
    rw [← ih (by omega)]
    by_cases c : a ≤ j * s % 1024
    · rw [if_pos c, ← these_more 1024 (j * s % 1024) hx _ (by rw [hb]; simp)]
      refine congrArg List.length (these_congr _ _ _ (fun q hq => ?_))
      have hf := forth (q := q) ht hq
      by_cases c2 : q = j * s % 1024
      · subst c2; simp [hb, c]
      · have c3 : q * t % 1024 ≠ j := fun e => c2 (by rw [← e]; exact hf.symm)
        have : (q == j * s % 1024) = false := by simpa using c2
        rw [this, Bool.or_false, show decide (q * t % 1024 < j + 1) = decide (q * t % 1024 < j) by rw [decide_eq_decide]; omega]
    · rw [if_neg c]
      have e := these_congr 1024 (fun q => decide (q * t % 1024 < j + 1) && decide (a ≤ q)) (fun q => decide (q * t % 1024 < j) && decide (a ≤ q)) (fun q hq => by
        have hf := forth (q := q) ht hq
        by_cases c2 : a ≤ q
        · have c3 : q * t % 1024 ≠ j := fun e => c (by rw [← e, hf]; exact c2)
          rw [show decide (q * t % 1024 < j + 1) = decide (q * t % 1024 < j) by rw [decide_eq_decide]; omega]
        · rw [decide_eq_false c2, Bool.and_false, Bool.and_false])
      rw [e, Nat.add_zero]
theorem from_rows (t k a : Nat) : (rows (val t) (put_ t k)).filter (fun p => !decide (sub p.1 (a : Int) < 0)) = rows (val t) (these 1024 (fun q => decide (q * t % 1024 < k) && decide (a ≤ q))) := by
  have : these 1024 (fun q => decide (q * t % 1024 < k) && decide (a ≤ q)) = (put_ t k).filter (fun q => decide (a ≤ q)) := by
    unfold put_ these
    rw [List.filter_filter]
    exact List.filter_congr (fun q _ => Bool.and_comm _ _)
  rw [this, rows, rows, List.filter_map]
  refine congrArg (List.map _) (List.filter_congr (fun q _ => ?_))
  show (!decide (sub (q : Int) (a : Int) < 0)) = decide (a ≤ q)
  by_cases c : a ≤ q
  · rw [decide_eq_true c, decide_eq_false (show ¬ sub (q : Int) (a : Int) < 0 by unfold sub; omega)]; rfl
  · rw [decide_eq_false c, decide_eq_true (show sub (q : Int) (a : Int) < 0 by unfold sub; omega)]; rfl
/-- What is left when the first m of every second were taken. -/
def rem (t k m : Nat) : List Nat := these 1024 (fun q => decide (q * t % 1024 < k) && !(decide (q * t % 1024 < 2 * m) && q * t % 1024 % 2 == 0))
theorem rem_start (t k : Nat) : rem t k 0 = put_ t k := these_congr _ _ _ (fun q _ => by simp)
theorem rem_asc (t k m : Nat) : (rem t k m).Pairwise (· < ·) := these_asc _ _
theorem rem_take {s t k m : Nat} (ht : s * t % 1024 = 1) (hk : k ≤ 1024) (hm : 2 * m < k) : takeL sub ((2 * m * s % 1024 : Nat) : Int) (rows (val t) (rem t k m)) = (rows (val t) (rem t k (m + 1)), some ((2 * m : Nat) : Int)) := by
  have hb := back (q := 2 * m) ht (by omega)
  have hx : 2 * m * s % 1024 < 1024 := Nat.mod_lt _ (by omega)
  rw [takeL_rows _ _ _ (rem_asc t k m)]
  have h1 : (rem t k m).filter (fun q => q != 2 * m * s % 1024) = rem t k (m + 1) := by
    have e : (rem t k m).filter (fun q => q != 2 * m * s % 1024) = these 1024 (fun q => (q != 2 * m * s % 1024) && (decide (q * t % 1024 < k) && !(decide (q * t % 1024 < 2 * m) && q * t % 1024 % 2 == 0))) := by
      unfold rem these
      rw [List.filter_filter]
    rw [e]
    refine these_congr _ _ _ (fun q hq => ?_)
    have hf := forth (q := q) ht hq
    by_cases c : q = 2 * m * s % 1024
    · subst c
      rw [hb]
      simp
    · have c3 : q * t % 1024 ≠ 2 * m := fun e => c (by rw [← e]; exact hf.symm)
      have : (q != 2 * m * s % 1024) = true := by simpa using c
      rw [this, Bool.true_and]
      generalize q * t % 1024 = y at *
      have e2 : (decide (y < 2 * m) && y % 2 == 0) = (decide (y < 2 * (m + 1)) && y % 2 == 0) := by
        by_cases c4 : y % 2 = 0
        · rw [show decide (y < 2 * (m + 1)) = decide (y < 2 * m) by rw [decide_eq_decide]; omega]
        · have : (y % 2 == 0) = false := by simpa using c4
          rw [this, Bool.and_false, Bool.and_false]
      rw [e2]
  have h2 : 2 * m * s % 1024 ∈ rem t k m := by
    unfold rem these
    rw [List.mem_filter, List.mem_range]
    refine ⟨hx, ?_⟩
    rw [hb]
    simp [hm]
  rw [h1, if_pos h2, val, hb]
theorem rem_len {s t k : Nat} (ht : s * t % 1024 = 1) (hk : k ≤ 1024) (m : Nat) : 2 * m ≤ k + 1 → (rem t k m).length = k - m := by
  induction m with
  | zero => intro _; rw [rem_start, put_len ht k hk]; rfl
  | succ m ih =>
    intro h
    have h1 := ih (by omega)
    have h2 := takeL_len (cmp := sub) ((2 * m * s % 1024 : Nat) : Int) (rows (val t) (rem t k m))
    have h3 := rem_take ht hk (show 2 * m < k by omega)
    generalize rem t k (m + 1) = A at *
    generalize rem t k m = B at *
    rw [h3] at h2
    have h4 : (rows (val t) A).length = (rows (val t) B).length - 1 := h2
    rw [rows_len, rows_len, h1] at h4
    omega
theorem rem_zero {t k m : Nat} (hm : 0 < m) : takeL sub (0 : Int) (rows (val t) (rem t k m)) = (rows (val t) (rem t k m), none) := by
  have h := takeL_rows (val t) 0 (rem t k m) (rem_asc t k m)
  have hn : 0 ∉ rem t k m := by
    unfold rem these
    rw [List.mem_filter]
    rintro ⟨_, h⟩
    simp at h
    omega
  rw [if_neg hn, List.filter_eq_self.2 (fun q hq => by
    have : q ≠ 0 := fun e => hn (e ▸ hq)
    simpa using this)] at h
  exact h
end Go.Proofs.YtbajekndbamcmaaW.GroveR

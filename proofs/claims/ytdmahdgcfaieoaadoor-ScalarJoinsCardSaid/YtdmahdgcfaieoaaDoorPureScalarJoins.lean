/- ScalarJoins, the plain law over the printed functions: of two texts that may be, one behind the other, the runes are those of both; bytes keep the order of runes. No condition. -/
import Derived.Test.YtdmahdgcfaieoaaDoorPScalarJoinsy
namespace Go.Proofs.YtdmahdgcfaieoaaDoor.Pure
set_option linter.unusedVariables false
set_option linter.unusedSimpArgs false
open Go.RowKit Go.Proofs.YtdmahdgcfaieoaaDoor.PScalarJoins Go.Proofs.YtdmahdgcfaieoaaDoorW.PrintWords Go.Proofs.YtdmahdgcfaieoaaDoorW.PrintLast Go.Proofs.YtdmahdgcfaieoaaDoorW.PrintMore

open Go.Proofs.YtdmahdgcfaieoaaDoorW.Utf hiding bytesOf
abbrev ub (ns : List Int) : List UInt8 := Go.Proofs.YtdmahdgcfaieoaaDoorW.Utf.bytesOf ns
theorem wr (x : Int) (h0 : -9223372036854775808 ≤ x) (h1 : x ≤ 9223372036854775807) : wrap64 x = x := by
  unfold wrap64; omega
theorem wr32 (x : Int) (h0 : -2147483648 ≤ x) (h1 : x ≤ 2147483647) : wrap32 x = x := by
  unfold wrap32; omega
theorem rd_at (l : List Int) (i : Nat) (h : i < l.length) : rd l (i : Int) = l[i] := by
  unfold rd; simp [List.getD, h]
theorem drop_at {α : Type} (l : List α) (i : Nat) (h : i < l.length) : l.drop i = l[i] :: l.drop (i + 1) := (List.drop_eq_getElem_cons h)
theorem ok_valid (r : Int) : validRune r = decide (okR r) := rfl

/-! ### scalar.Read -/
theorem each1 (s : ByteArray) (hs : s.size ≤ 1000000) (k : Nat) (hk : 2 ≤ k) : scalar_each_string_rune.f k [s] = some (runesOf s.data.toList, true) := by
  obtain ⟨k, rfl⟩ : ∃ j, k = j + 2 := ⟨k - 2, by omega⟩
  have hl := runesOf_length s.data.toList
  rw [← Lib.size_eq] at hl
  unfold scalar_each_string_rune.f
  simp only [scalar_each_string_rune.l0]
  refine iteT (by simp) (iteT (by omega) (iteT (by simp) (bindE (a := (runesOf s.data.toList, true)) ?_ (iteT rfl (iteT (by simp; omega) ?_)))))
  · show scalar_Read_1.f s = _
    unfold scalar_Read_1.f
    rw [if_pos (by omega)]
  · refine iteF (by simp [wrap64]) ?_
    simp
/-- What a text reads as. -/
def readR (l : List UInt8) : List Int × Int := if Lib.validD l = true then (runesOf l, 0) else ([], 2)
theorem read_eq (s : ByteArray) (hs : s.size ≤ 1000000) (k : Nat) (hk : 2 ≤ k) : scalar_Read.f k s = some (readR s.data.toList) := by
  unfold scalar_Read.f readR
  refine bindE (a := Lib.validD s.data.toList) (by unfold utf8_ValidString.f; rw [if_pos (by omega)]) ?_
  by_cases h : Lib.validD s.data.toList = true
  · rw [if_pos h, if_pos h]
    exact bindE (each1 s hs k hk) rfl
  · rw [if_neg h, if_neg h]

/-! ### scalar.Write -/
def I32 (l : List Int) : Prop := ∀ r ∈ l, -2147483648 ≤ r ∧ r ≤ 2147483647
theorem each2 (l : List Int) (hl : I32 l) (hn : l.length ≤ 100000) (d : Nat) : ∀ (k i : Nat) (acc : List Int), i ≤ l.length → l.length - i = d → d < k → acc.length ≤ 4 * i →
    scalar_each_rune_byte.l0 k acc l (l.length : Int) (i : Int) = some (if ∀ r ∈ l.drop i, okR r then (acc ++ (l.drop i).flatMap Lib.encodeRuneZ, true) else ([], false)) := by
  induction d with
  | zero =>
    intro k i acc hi hd hk ha
    obtain ⟨k, rfl⟩ : ∃ j, k = j + 1 := ⟨k - 1, by omega⟩
    simp only [scalar_each_rune_byte.l0]
    rw [if_neg (by omega), List.drop_eq_nil_of_le (by omega)]
    simp
  | succ d ih =>
    intro k i acc hi hd hk ha
    obtain ⟨k, rfl⟩ : ∃ j, k = j + 1 := ⟨k - 1, by omega⟩
    have hlt : i < l.length := by omega
    simp only [scalar_each_rune_byte.l0]
    have hr := hl l[i] (List.getElem_mem hlt)
    have hz := Lib.encodeRuneZ_length l[i]
    refine iteT (by omega) (iteT (by omega) (iteT (by omega) (bindE (a := (Lib.encodeRuneZ l[i], validRune l[i])) (by rw [rd_at l i hlt]; unfold scalar_Write_1.f; rw [if_pos hr]) ?_)))
    rw [drop_at l i hlt]
    by_cases h : okR l[i]
    · refine iteT (by simp [ok_valid, h]) (iteT (by simp only; omega) ?_)
      rw [wr _ (by omega) (by omega), show ((i : Int) + 1) = ((i + 1 : Nat) : Int) by omega, ih k (i + 1) _ (by omega) (by omega) (by omega) (by simp; omega)]
      by_cases ht : ∀ r ∈ l.drop (i + 1), okR r
      · rw [if_pos ht, if_pos (List.forall_mem_cons.2 ⟨h, ht⟩), List.flatMap_cons, List.append_assoc]
      · rw [if_neg ht, if_neg (fun c => ht (List.forall_mem_cons.1 c).2)]
    · refine iteF (by simp [ok_valid, h]) ?_
      rw [if_neg (fun c => h (List.forall_mem_cons.1 c).1)]
/-- What runes are written as. -/
def writeR (l : List Int) : ByteArray × Int := if ∀ r ∈ l, okR r then (strOfNums (l.flatMap Lib.encodeRuneZ), 0) else (⟨#[]⟩, 2)
theorem write_eq (l : List Int) (hl : I32 l) (hn : l.length ≤ 100000) (k : Nat) (hk : l.length < k) : scalar_Write.f k l = some (writeR l) := by
  unfold scalar_Write.f writeR scalar_each_rune_byte.f
  have := each2 l hl hn l.length k 0 [] (by omega) (by omega) hk (by simp)
  rw [List.drop_zero] at this
  refine bindE this ?_
  by_cases h : ∀ r ∈ l, okR r
  · rw [if_pos h, if_pos h, if_pos rfl]; rfl
  · rw [if_neg h, if_neg h]; rfl
theorem str_map (l : List Int) : (strOfNums l).data.toList = l.map fun n => UInt8.ofNat n.toNat := by
  unfold strOfNums; simp
theorem str_bytes (l : List Int) : (strOfNums (l.flatMap Lib.encodeRuneZ)).data.toList = ub l := by
  rw [str_map]
  induction l with
  | nil => rfl
  | cons x l ih => rw [List.flatMap_cons, List.map_append, ih]; rfl
theorem str_size (l : List Int) : (strOfNums (l.flatMap Lib.encodeRuneZ)).size ≤ 4 * l.length := by
  rw [Lib.size_eq, str_bytes]
  induction l with
  | nil => simp [ub, Go.Proofs.YtdmahdgcfaieoaaDoorW.Utf.bytesOf]
  | cons x l ih => show (Go.Proofs.YtdmahdgcfaieoaaDoorW.Utf.bytesOf (x :: l)).length ≤ _; rw [bytesOf_cons, List.length_append, List.length_cons]; have := enc_len x; have e : (ub l).length = (Go.Proofs.YtdmahdgcfaieoaaDoorW.Utf.bytesOf l).length := rfl; omega

/-! ### the same runes -/
theorem same_l (a b : List Int) (hn : a.length ≤ 1000000) (hab : a.length = b.length) (d : Nat) : ∀ (k i : Nat), i ≤ a.length → a.length - i = d → d < k →
    gazetteerlaw1_Same.l0 k a b (i : Int) = some (decide (a.drop i = b.drop i)) := by
  induction d with
  | zero =>
    intro k i hi hd hk
    obtain ⟨k, rfl⟩ : ∃ j, k = j + 1 := ⟨k - 1, by omega⟩
    simp only [gazetteerlaw1_Same.l0]
    rw [if_neg (by omega), List.drop_eq_nil_of_le (by omega), List.drop_eq_nil_of_le (by omega)]
    rfl
  | succ d ih =>
    intro k i hi hd hk
    obtain ⟨k, rfl⟩ : ∃ j, k = j + 1 := ⟨k - 1, by omega⟩
    have hlt : i < a.length := by omega
    have hlt2 : i < b.length := by omega
    simp only [gazetteerlaw1_Same.l0]
    rw [if_pos (by omega), if_pos (by omega), if_pos (by omega), rd_at a i hlt, rd_at b i hlt2, drop_at a i hlt, drop_at b i hlt2]
    by_cases h : a[i] = b[i]
    · rw [if_pos h, wr _ (by omega) (by omega), show ((i : Int) + 1) = ((i + 1 : Nat) : Int) by omega, ih k (i + 1) (by omega) (by omega) (by omega)]
      congr 1
      exact decide_eq_decide.2 ⟨fun e => by rw [h, e], fun e => (List.cons.inj e).2⟩
    · rw [if_neg h, decide_eq_false (fun e => h (List.cons.inj e).1)]
theorem same_eq (a b : List Int) (hn : a.length ≤ 1000000) (k : Nat) (hk : a.length < k) : gazetteerlaw1_Same.f k a b = some (decide (a = b)) := by
  unfold gazetteerlaw1_Same.f
  by_cases h : (a.length : Int) = (b.length : Int)
  · have := same_l a b hn (by omega) a.length k 0 (by omega) (by omega) hk
    rw [if_pos h]
    simpa using this
  · rw [if_neg h]
    have : a ≠ b := fun e => h (by rw [e])
    simp [this]
theorem may_any (a0 : Int) (k : Nat) (hk : 1 ≤ k) : scalar_May.f k a0 = some (decide (okR a0)) := by
  obtain ⟨k, rfl⟩ : ∃ j, k = j + 1 := ⟨k - 1, by omega⟩
  unfold scalar_May.f utf8_ValidRune.f okR
  by_cases h0 : 0 ≤ a0
  · by_cases h1 : a0 < 55296
    · simp [utf8_ValidRune.j0, h0, h1]
    · by_cases h2 : 57343 < a0
      · by_cases h3 : a0 ≤ 1114111 <;> simp [utf8_ValidRune.j0, h0, h1, h2, h3]
      · simp [utf8_ValidRune.j0, h0, h1, h2]
  · have h2 : ¬ 57343 < a0 := by omega
    simp [utf8_ValidRune.j0, h0, h2]
theorem awake_eq (k : Nat) (hk : 3 ≤ k) : gazetteerlaw1_awake.f k = some true := by
  unfold gazetteerlaw1_awake.f
  refine bindE (read_eq _ (by decide) k (by omega)) (bindE (write_eq [233] (by intro r hr; simp at hr; omega) (by simp) k (by simp; omega)) ?_)
  have e1 : readR (⟨#[195, 169]⟩ : ByteArray).data.toList = ([233], 0) := by kernel_rfl
  have e2 : writeR [233] = (⟨#[195, 169]⟩, 0) := by kernel_rfl
  rw [e1, e2]
  refine iteT rfl (iteT rfl (bindE (same_eq _ _ (by simp) k (by simp; omega)) (iteT (by simp) (iteT (by decide +kernel) (bindE (may_any 97 k (by omega)) (iteT (by decide) (bindE (a := -1) ?_ rfl)))))))
  kernel_rfl
theorem less_bLt : ∀ a b : List UInt8, Op.bytesLess a b = bLt a b
  | _, [] => by simp [Op.bytesLess, bLt]
  | [], _ :: _ => rfl
  | x :: a, y :: b => by
    simp only [Op.bytesLess, bLt]
    rw [less_bLt a b]
    by_cases h1 : x.toNat < y.toNat
    · have h1' : x < y := h1
      simp [h1, h1']
    · have h1' : ¬ x < y := h1
      by_cases h2 : y.toNat < x.toNat
      · have h3 : x ≠ y := fun e => by rw [e] at h2; omega
        simp [h1, h1', h2, h3]
      · have h3 : x = y := UInt8.toNat_inj.1 (by omega)
        subst h3
        simp
/-- The order of two rows of runes. -/
def ord (a b : List Int) : Int := if lexLt a b = true then -1 else if lexLt b a = true then 1 else 0
theorem cmp_eq (a b : List Int) (ha : ∀ r ∈ a, okR r) (hb : ∀ r ∈ b, okR r) (s t : ByteArray) (hs : s.data.toList = ub a) (ht : t.data.toList = ub b) : scalar_Compare.f s t = some (ord a b) := by
  unfold scalar_Compare.f cmp_Compare_string.f cmp_isNaN_string.f ord
  simp only [Option.bind_some, bne_self_eq_false, Bool.false_eq_true, if_false]
  rw [Lib.toList_data, Lib.toList_data, hs, ht, less_bLt, less_bLt, show bLt (ub a) (ub b) = lexLt a b from order_kept a b ha hb, show bLt (ub b) (ub a) = lexLt b a from order_kept b a hb ha]
  by_cases h1 : lexLt a b = true
  · simp [h1]
  · by_cases h2 : lexLt b a = true
    · simp [h1, h2]
    · simp [h1, h2]
theorem lex_irrefl : ∀ a : List Int, lexLt a a = false
  | [] => rfl
  | x :: a => by simp [lexLt, lex_irrefl a]
theorem ord_cons (x : Int) (a b : List Int) : ord (x :: a) (x :: b) = ord a b := by simp [ord, lexLt]
theorem ord_lt (x y : Int) (a b : List Int) (h : x < y) : ord (x :: a) (y :: b) = -1 := by simp [ord, lexLt, h]
theorem ord_gt (x y : Int) (a b : List Int) (h : y < x) : ord (x :: a) (y :: b) = 1 := by
  have : ¬ x < y := by omega
  simp [ord, lexLt, h, this]
theorem j4_eq (a b l9 : List Int) (s t : ByteArray) (C o : Int) (fl : Bool) (k : Nat) (hl : l9 = a ++ b) (hn : a.length ≤ 1000 ∧ b.length ≤ 1000) (hc : scalar_Compare.f s t = some C) (hk : a.length + b.length < k) :
    gazetteerlaw1_ScalarJoins.j4 (k + 1) a b s t l9 0 o fl = some (C == (if fl = true then (if (a.length : Int) < (b.length : Int) then -1 else 1) else o)) := by
  have hsame : gazetteerlaw1_Same.f k l9 (([] ++ a) ++ b) = some true := by
    rw [same_eq _ _ (by rw [hl, List.length_append]; omega) k (by rw [hl, List.length_append]; omega)]
    simp [hl]
  simp only [gazetteerlaw1_ScalarJoins.j4]
  by_cases hf : fl = true
  · by_cases hlt : (a.length : Int) < (b.length : Int)
    · have e : (if fl = true then (if (a.length : Int) < (b.length : Int) then (-1 : Int) else 1) else o) = -1 := by rw [if_pos hf, if_pos hlt]
      rw [e]
      exact iteT hf (iteT hlt (iteT trivial (bindE rfl (iteT (by simp; omega) (bindE rfl (iteT (by simp; omega) (bindE hsame (iteT rfl (bindE hc rfl)))))))))
    · have e : (if fl = true then (if (a.length : Int) < (b.length : Int) then (-1 : Int) else 1) else o) = 1 := by rw [if_pos hf, if_neg hlt]
      rw [e]
      exact iteT hf (iteF hlt (iteT trivial (bindE rfl (iteT (by simp; omega) (bindE rfl (iteT (by simp; omega) (bindE hsame (iteT rfl (bindE hc rfl)))))))))
  · have e : (if fl = true then (if (a.length : Int) < (b.length : Int) then (-1 : Int) else 1) else o) = o := by rw [if_neg hf]
    rw [e]
    exact iteF hf (iteT trivial (bindE rfl (iteT (by simp; omega) (bindE rfl (iteT (by simp; omega) (bindE hsame (iteT rfl (bindE hc rfl))))))))
theorem stop_eq (a b l9 : List Int) (s t : ByteArray) (C o : Int) (i : Int) (k : Nat) (hl : l9 = a ++ b) (hn : a.length ≤ 1000 ∧ b.length ≤ 1000) (hc : scalar_Compare.f s t = some C) (hk : a.length + b.length < k)
    (h : C = (if o = 0 ∧ (a.length : Int) ≠ (b.length : Int) then (if (a.length : Int) < (b.length : Int) then -1 else 1) else o)) :
    gazetteerlaw1_ScalarJoins.j3 (k + 2) a b s t l9 0 o i false = some true := by
  simp only [gazetteerlaw1_ScalarJoins.j3]
  refine iteF (by simp) ?_
  by_cases ho : o = 0
  · refine iteT ho ?_
    rw [j4_eq a b l9 s t C o _ k hl hn hc hk, h]
    by_cases hlen : (a.length : Int) = (b.length : Int)
    · simp [hlen]
    · simp [ho, hlen]
  · refine iteF ho ?_
    rw [j4_eq a b l9 s t C o _ k hl hn hc hk, h]
    simp [ho]
theorem loop_stop (a b l9 : List Int) (s t : ByteArray) (C o : Int) (i : Int) (k : Nat) (hl : l9 = a ++ b) (hn : a.length ≤ 1000 ∧ b.length ≤ 1000) (hc : scalar_Compare.f s t = some C) (hk : a.length + b.length < k) (ho : o ≠ 0) (h : C = o) :
    gazetteerlaw1_ScalarJoins.l0 (k + 3) a b s t l9 0 o i = some true := by
  simp only [gazetteerlaw1_ScalarJoins.l0]
  have e := stop_eq a b l9 s t C o i k hl hn hc hk (by rw [if_neg (fun c => ho c.1)]; exact h)
  have e2 : (o == 0) = false := by simpa using ho
  by_cases h1 : i < (a.length : Int)
  · by_cases h2 : i < (b.length : Int)
    · rw [if_pos h1, if_pos h2, e2]; exact e
    · rw [if_pos h1, if_neg h2]; exact e
  · rw [if_neg h1]; exact e
theorem loop_eq (a b l9 : List Int) (s t : ByteArray) (C : Int) (hl : l9 = a ++ b) (hn : a.length ≤ 1000 ∧ b.length ≤ 1000) (hc : scalar_Compare.f s t = some C) (d : Nat) : ∀ (k i : Nat), i ≤ a.length → i ≤ b.length → a.length - i = d → 2 * d + a.length + b.length + 6 < k →
    ord (a.drop i) (b.drop i) = C → gazetteerlaw1_ScalarJoins.l0 k a b s t l9 0 0 (i : Int) = some true := by
  induction d with
  | zero =>
    intro k i hi hj hd hk ho
    obtain ⟨k, rfl⟩ : ∃ j, k = j + 3 := ⟨k - 3, by omega⟩
    simp only [gazetteerlaw1_ScalarJoins.l0]
    refine iteF (by omega) (stop_eq a b l9 s t C 0 _ k hl hn hc (by omega) ?_)
    rw [List.drop_eq_nil_of_le (by omega)] at ho
    by_cases h : (a.length : Int) = (b.length : Int)
    · rw [List.drop_eq_nil_of_le (by omega)] at ho
      rw [← ho]; simp [h, ord, lexLt]
    · rw [drop_at b i (by omega)] at ho
      rw [if_pos ⟨rfl, h⟩, if_pos (by omega), ← ho]
      simp [ord, lexLt]
  | succ d ih =>
    intro k i hi hj hd hk ho
    obtain ⟨k, rfl⟩ : ∃ j, k = j + 6 := ⟨k - 6, by omega⟩
    have hlt : i < a.length := by omega
    simp only [gazetteerlaw1_ScalarJoins.l0]
    refine iteT (by omega) ?_
    by_cases hb : i < b.length
    case neg =>
      refine iteF (by omega) (stop_eq a b l9 s t C 0 _ (k + 3) hl hn hc (by omega) ?_)
      rw [drop_at a i hlt, show b.drop i = [] from List.drop_eq_nil_of_le (by omega)] at ho
      rw [if_pos ⟨rfl, by omega⟩, if_neg (by omega), ← ho]
      simp [ord, lexLt]
    refine iteT (by omega) ?_
    simp only [gazetteerlaw1_ScalarJoins.j3]
    rw [rd_at a i hlt, rd_at b i hb]
    rw [drop_at a i hlt, drop_at b i hb] at ho
    refine iteT rfl (iteT (by omega) (iteT (by omega) (iteT (by omega) ?_)))
    rw [wr _ (by omega) (by omega)]
    by_cases h1 : a[i] < b[i]
    · rw [ord_lt _ _ _ _ h1] at ho
      exact iteT h1 (iteF (by omega) (loop_stop a b l9 s t C (-1) _ (k + 1) hl hn hc (by omega) (by decide) ho.symm))
    · refine iteF h1 ?_
      by_cases h2 : a[i] > b[i]
      · rw [ord_gt _ _ _ _ h2] at ho
        exact iteT h2 (loop_stop a b l9 s t C 1 _ (k + 1) hl hn hc (by omega) (by decide) ho.symm)
      · refine iteF h2 ?_
        have e : a[i] = b[i] := by omega
        rw [e, ord_cons] at ho
        rw [show ((i : Int) + 1) = ((i + 1 : Nat) : Int) by omega]
        exact ih (k + 4) (i + 1) (by omega) (by omega) (by omega) (by omega) ho
theorem i32_of (l : List Int) (w0 : ∀ y ∈ l, (Lit.int .i32 y).wf = true) : I32 l := fun x hx => by
  have := w0 x hx
  have : -2147483648 ≤ x ∧ x ≤ 2147483647 := by simpa [Lit.wf, IntKind.min, IntKind.max, IntKind.signed, IntKind.bits] using this
  exact this
theorem ScalarJoins : gazetteerlaw1_ScalarJoins.Pure := by
  intro a b w0 w1
  have ha := i32_of a w0.2.2
  have hb := i32_of b w1.2.2
  obtain ⟨k, hk⟩ : ∃ k : Nat, k = 4 * a.length + 2 * b.length + 20 := ⟨_, rfl⟩
  refine ⟨k + 2, ?_⟩
  unfold gazetteerlaw1_ScalarJoins.f
  refine bindE (awake_eq _ (by omega)) (iteT rfl ?_)
  have j0t : gazetteerlaw1_ScalarJoins.j0 (k + 2) a b true = some true := by simp only [gazetteerlaw1_ScalarJoins.j0]; rfl
  by_cases h1 : (a.length : Int) > 500
  · exact iteT h1 j0t
  refine iteF h1 ?_
  by_cases h2 : (b.length : Int) > 500
  · rw [decide_eq_true h2]; exact j0t
  rw [decide_eq_false h2]
  simp only [gazetteerlaw1_ScalarJoins.j0]
  refine iteF (by simp) (bindE (write_eq a ha (by omega) _ (by omega)) (bindE (write_eq b hb (by omega) _ (by omega)) ?_))
  by_cases oa : ∀ r ∈ a, okR r
  case neg =>
    have e : writeR a = (⟨#[]⟩, 2) := by unfold writeR; rw [if_neg oa]
    rw [e]
    refine iteF (by decide) ?_
    simp only [gazetteerlaw1_ScalarJoins.j1]
    exact iteT trivial rfl
  have ea : writeR a = (strOfNums (a.flatMap Lib.encodeRuneZ), 0) := by unfold writeR; rw [if_pos oa]
  rw [ea]
  refine iteT rfl ?_
  simp only [gazetteerlaw1_ScalarJoins.j1]
  by_cases ob : ∀ r ∈ b, okR r
  case neg =>
    have e : writeR b = (⟨#[]⟩, 2) := by unfold writeR; rw [if_neg ob]
    rw [e]
    exact iteT (by decide) rfl
  have eb : writeR b = (strOfNums (b.flatMap Lib.encodeRuneZ), 0) := by unfold writeR; rw [if_pos ob]
  rw [eb]
  have sa := str_size a
  have sb := str_size b
  have es : (strOfNums (a.flatMap Lib.encodeRuneZ) ++ strOfNums (b.flatMap Lib.encodeRuneZ)).data.toList = ub (a ++ b) := by
    have : (strOfNums (a.flatMap Lib.encodeRuneZ) ++ strOfNums (b.flatMap Lib.encodeRuneZ)).data.toList = (strOfNums (a.flatMap Lib.encodeRuneZ)).data.toList ++ (strOfNums (b.flatMap Lib.encodeRuneZ)).data.toList := by
      simp [ByteArray.data_append]
    rw [this, str_bytes, str_bytes]
    exact (bytesOf_append a b).symm
  have oab : ∀ r ∈ a ++ b, okR r := fun r hr => (List.mem_append.1 hr).elim (oa r) (ob r)
  refine iteF (by simp) (iteT (by simp only; omega) (bindE (read_eq _ (by simp only [ByteArray.size_append]; omega) k (by omega)) ?_))
  have er : readR (strOfNums (a.flatMap Lib.encodeRuneZ) ++ strOfNums (b.flatMap Lib.encodeRuneZ)).data.toList = (a ++ b, 0) := by
    rw [es]; unfold readR; rw [ub, valid_of _ oab, runes_of _ oab]; rfl
  rw [er]
  exact loop_eq a b (a ++ b) _ _ (ord a b) rfl ⟨by omega, by omega⟩ (cmp_eq a b oa ob _ _ (str_bytes a) (str_bytes b)) a.length k 0 (by omega) (by omega) (by omega) (by omega) rfl
end Go.Proofs.YtdmahdgcfaieoaaDoor.Pure

/- ScalarWrites, the plain law over the printed functions: any runes: their bytes, or that one may not be; written and read they are the same; which text is less. No condition. -/
import Derived.Test.YtdmahdgcfaieoaaDoorPScalarWritesy
namespace Go.Proofs.YtdmahdgcfaieoaaDoor.Pure
set_option linter.unusedVariables false
set_option linter.unusedSimpArgs false
open Go.RowKit Go.Proofs.YtdmahdgcfaieoaaDoor.PScalarWrites Go.Proofs.YtdmahdgcfaieoaaDoorW.PrintWords Go.Proofs.YtdmahdgcfaieoaaDoorW.PrintLast Go.Proofs.YtdmahdgcfaieoaaDoorW.PrintMore

open Go.Proofs.YtdmahdgcfaieoaaDoorW.Utf hiding bytesOf
abbrev ub (ns : List Int) : List UInt8 := Go.Proofs.YtdmahdgcfaieoaaDoorW.Utf.bytesOf ns
theorem wr (x : Int) (h0 : -9223372036854775808 ≤ x) (h1 : x ≤ 9223372036854775807) : wrap64 x = x := by
  unfold wrap64; omega
theorem wr32 (x : Int) (h0 : -2147483648 ≤ x) (h1 : x ≤ 2147483647) : wrap32 x = x := by
  unfold wrap32; omega
theorem rd_at (l : List Int) (i : Nat) (h : i < l.length) : rd l (i : Int) = l[i] := by
  unfold rd; simp [List.getD, h]
theorem drop_at {α : Type} (l : List α) (i : Nat) (h : i < l.length) : l.drop i = l[i] :: l.drop (i + 1) := (List.drop_eq_getElem_cons h)
theorem ok_valid (r : Int) : validRune r = decide (okR r) := rfl

/-! ### scalar.Read -/
theorem each1 (s : ByteArray) (hs : s.size ≤ 1000000) (k : Nat) (hk : 2 ≤ k) : scalar_each_string_rune.f k [s] = some (runesOf s.data.toList, true) := by
  obtain ⟨k, rfl⟩ : ∃ j, k = j + 2 := ⟨k - 2, by omega⟩
  have hl := runesOf_length s.data.toList
  rw [← Lib.size_eq] at hl
  unfold scalar_each_string_rune.f
  simp only [scalar_each_string_rune.l0]
  refine iteT (by simp) (iteT (by omega) (iteT (by simp) (bindE (a := (runesOf s.data.toList, true)) ?_ (iteT rfl (iteT (by simp; omega) ?_)))))
  · show scalar_Read_1.f s = _
    unfold scalar_Read_1.f
    rw [if_pos (by omega)]
  · refine iteF (by simp [wrap64]) ?_
    simp
/-- What a text reads as. -/
def readR (l : List UInt8) : List Int × Int := if Lib.validD l = true then (runesOf l, 0) else ([], 2)
theorem read_eq (s : ByteArray) (hs : s.size ≤ 1000000) (k : Nat) (hk : 2 ≤ k) : scalar_Read.f k s = some (readR s.data.toList) := by
  unfold scalar_Read.f readR
  refine bindE (a := Lib.validD s.data.toList) (by unfold utf8_ValidString.f; rw [if_pos (by omega)]) ?_
  by_cases h : Lib.validD s.data.toList = true
  · rw [if_pos h, if_pos h]
    exact bindE (each1 s hs k hk) rfl
  · rw [if_neg h, if_neg h]

/-! ### scalar.Write -/
def I32 (l : List Int) : Prop := ∀ r ∈ l, -2147483648 ≤ r ∧ r ≤ 2147483647
theorem each2 (l : List Int) (hl : I32 l) (hn : l.length ≤ 100000) (d : Nat) : ∀ (k i : Nat) (acc : List Int), i ≤ l.length → l.length - i = d → d < k → acc.length ≤ 4 * i →
    scalar_each_rune_byte.l0 k acc l (l.length : Int) (i : Int) = some (if ∀ r ∈ l.drop i, okR r then (acc ++ (l.drop i).flatMap Lib.encodeRuneZ, true) else ([], false)) := by
  induction d with
  | zero =>
    intro k i acc hi hd hk ha
    obtain ⟨k, rfl⟩ : ∃ j, k = j + 1 := ⟨k - 1, by omega⟩
    simp only [scalar_each_rune_byte.l0]
    rw [if_neg (by omega), List.drop_eq_nil_of_le (by omega)]
    simp
  | succ d ih =>
    intro k i acc hi hd hk ha
    obtain ⟨k, rfl⟩ : ∃ j, k = j + 1 := ⟨k - 1, by omega⟩
    have hlt : i < l.length := by omega
    simp only [scalar_each_rune_byte.l0]
    have hr := hl l[i] (List.getElem_mem hlt)
    have hz := Lib.encodeRuneZ_length l[i]
    refine iteT (by omega) (iteT (by omega) (iteT (by omega) (bindE (a := (Lib.encodeRuneZ l[i], validRune l[i])) (by rw [rd_at l i hlt]; unfold scalar_Write_1.f; rw [if_pos hr]) ?_)))
    rw [drop_at l i hlt]
    by_cases h : okR l[i]
    · refine iteT (by simp [ok_valid, h]) (iteT (by simp only; omega) ?_)
      rw [wr _ (by omega) (by omega), show ((i : Int) + 1) = ((i + 1 : Nat) : Int) by omega, ih k (i + 1) _ (by omega) (by omega) (by omega) (by simp; omega)]
      by_cases ht : ∀ r ∈ l.drop (i + 1), okR r
      · rw [if_pos ht, if_pos (List.forall_mem_cons.2 ⟨h, ht⟩), List.flatMap_cons, List.append_assoc]
      · rw [if_neg ht, if_neg (fun c => ht (List.forall_mem_cons.1 c).2)]
    · refine iteF (by simp [ok_valid, h]) ?_
      rw [if_neg (fun c => h (List.forall_mem_cons.1 c).1)]
/-- What runes are written as. -/
def writeR (l : List Int) : ByteArray × Int := if ∀ r ∈ l, okR r then (strOfNums (l.flatMap Lib.encodeRuneZ), 0) else (⟨#[]⟩, 2)
theorem write_eq (l : List Int) (hl : I32 l) (hn : l.length ≤ 100000) (k : Nat) (hk : l.length < k) : scalar_Write.f k l = some (writeR l) := by
  unfold scalar_Write.f writeR scalar_each_rune_byte.f
  have := each2 l hl hn l.length k 0 [] (by omega) (by omega) hk (by simp)
  rw [List.drop_zero] at this
  refine bindE this ?_
  by_cases h : ∀ r ∈ l, okR r
  · rw [if_pos h, if_pos h, if_pos rfl]; rfl
  · rw [if_neg h, if_neg h]; rfl
theorem str_map (l : List Int) : (strOfNums l).data.toList = l.map fun n => UInt8.ofNat n.toNat := by
  unfold strOfNums; simp
theorem str_bytes (l : List Int) : (strOfNums (l.flatMap Lib.encodeRuneZ)).data.toList = ub l := by
  rw [str_map]
  induction l with
  | nil => rfl
  | cons x l ih => rw [List.flatMap_cons, List.map_append, ih]; rfl
theorem str_size (l : List Int) : (strOfNums (l.flatMap Lib.encodeRuneZ)).size ≤ 4 * l.length := by
  rw [Lib.size_eq, str_bytes]
  induction l with
  | nil => simp [ub, Go.Proofs.YtdmahdgcfaieoaaDoorW.Utf.bytesOf]
  | cons x l ih => show (Go.Proofs.YtdmahdgcfaieoaaDoorW.Utf.bytesOf (x :: l)).length ≤ _; rw [bytesOf_cons, List.length_append, List.length_cons]; have := enc_len x; have e : (ub l).length = (Go.Proofs.YtdmahdgcfaieoaaDoorW.Utf.bytesOf l).length := rfl; omega

/-! ### the same runes -/
theorem same_l (a b : List Int) (hn : a.length ≤ 1000000) (hab : a.length = b.length) (d : Nat) : ∀ (k i : Nat), i ≤ a.length → a.length - i = d → d < k →
    gazetteerlaw1_Same.l0 k a b (i : Int) = some (decide (a.drop i = b.drop i)) := by
  induction d with
  | zero =>
    intro k i hi hd hk
    obtain ⟨k, rfl⟩ : ∃ j, k = j + 1 := ⟨k - 1, by omega⟩
    simp only [gazetteerlaw1_Same.l0]
    rw [if_neg (by omega), List.drop_eq_nil_of_le (by omega), List.drop_eq_nil_of_le (by omega)]
    rfl
  | succ d ih =>
    intro k i hi hd hk
    obtain ⟨k, rfl⟩ : ∃ j, k = j + 1 := ⟨k - 1, by omega⟩
    have hlt : i < a.length := by omega
    have hlt2 : i < b.length := by omega
    simp only [gazetteerlaw1_Same.l0]
    rw [if_pos (by omega), if_pos (by omega), if_pos (by omega), rd_at a i hlt, rd_at b i hlt2, drop_at a i hlt, drop_at b i hlt2]
    by_cases h : a[i] = b[i]
    · rw [if_pos h, wr _ (by omega) (by omega), show ((i : Int) + 1) = ((i + 1 : Nat) : Int) by omega, ih k (i + 1) (by omega) (by omega) (by omega)]
      congr 1
      exact decide_eq_decide.2 ⟨fun e => by rw [h, e], fun e => (List.cons.inj e).2⟩
    · rw [if_neg h, decide_eq_false (fun e => h (List.cons.inj e).1)]
theorem same_eq (a b : List Int) (hn : a.length ≤ 1000000) (k : Nat) (hk : a.length < k) : gazetteerlaw1_Same.f k a b = some (decide (a = b)) := by
  unfold gazetteerlaw1_Same.f
  by_cases h : (a.length : Int) = (b.length : Int)
  · have := same_l a b hn (by omega) a.length k 0 (by omega) (by omega) hk
    rw [if_pos h]
    simpa using this
  · rw [if_neg h]
    have : a ≠ b := fun e => h (by rw [e])
    simp [this]
theorem may_any (a0 : Int) (k : Nat) (hk : 1 ≤ k) : scalar_May.f k a0 = some (decide (okR a0)) := by
  obtain ⟨k, rfl⟩ : ∃ j, k = j + 1 := ⟨k - 1, by omega⟩
  unfold scalar_May.f utf8_ValidRune.f okR
  by_cases h0 : 0 ≤ a0
  · by_cases h1 : a0 < 55296
    · simp [utf8_ValidRune.j0, h0, h1]
    · by_cases h2 : 57343 < a0
      · by_cases h3 : a0 ≤ 1114111 <;> simp [utf8_ValidRune.j0, h0, h1, h2, h3]
      · simp [utf8_ValidRune.j0, h0, h1, h2]
  · have h2 : ¬ 57343 < a0 := by omega
    simp [utf8_ValidRune.j0, h0, h2]
theorem awake_eq (k : Nat) (hk : 3 ≤ k) : gazetteerlaw1_awake.f k = some true := by
  unfold gazetteerlaw1_awake.f
  refine bindE (read_eq _ (by decide) k (by omega)) (bindE (write_eq [233] (by intro r hr; simp at hr; omega) (by simp) k (by simp; omega)) ?_)
  have e1 : readR (⟨#[195, 169]⟩ : ByteArray).data.toList = ([233], 0) := by kernel_rfl
  have e2 : writeR [233] = (⟨#[195, 169]⟩, 0) := by kernel_rfl
  rw [e1, e2]
  refine iteT rfl (iteT rfl (bindE (same_eq _ _ (by simp) k (by simp; omega)) (iteT (by simp) (iteT (by decide +kernel) (bindE (may_any 97 k (by omega)) (iteT (by decide) (bindE (a := -1) ?_ rfl)))))))
  kernel_rfl
theorem i32_and63 (x : Int) (h0 : 0 ≤ x) (h1 : x < 2147483648) : Go.bits .and .i32 x 63 = x % 64 := bits_mask .i32 31 (by decide) wraps_i32 6 (by decide) x h0 h1
theorem refmay (r : Int) : gazetteerref1_May.f r = some (decide (okR r)) := by
  unfold gazetteerref1_May.f okR
  by_cases h0 : r ≥ 0
  · by_cases h1 : r ≤ 1114111
    · by_cases h2 : r < 55296
      · simp [h0, h1, h2]
      · simp [h0, h1, h2]
    · rw [if_pos h0, if_neg h1]; exact congrArg some (decide_eq_false (p := (0 ≤ r ∧ r < 55296) ∨ (57343 < r ∧ r ≤ 1114111)) (by omega)).symm
  · rw [if_neg h0]; exact congrArg some (decide_eq_false (p := (0 ≤ r ∧ r < 55296) ∨ (57343 < r ∧ r ≤ 1114111)) (by omega)).symm
/-- The document's writing, a rune at a time. -/
theorem refwrite_l (l : List Int) (hn : l.length ≤ 100000) (d : Nat) : ∀ (k i : Nat) (acc : List Int), i ≤ l.length → l.length - i = d → d < k → acc.length ≤ 4 * i →
    gazetteerref1_Write.l0 k l acc (i : Int) = some (if ∀ r ∈ l.drop i, okR r then (strOfNums (acc ++ (l.drop i).flatMap Lib.encodeRuneZ), 0) else (⟨#[]⟩, 2)) := by
  induction d with
  | zero =>
    intro k i acc hi hd hk ha
    obtain ⟨k, rfl⟩ : ∃ j, k = j + 1 := ⟨k - 1, by omega⟩
    simp only [gazetteerref1_Write.l0]
    rw [if_neg (by omega), List.drop_eq_nil_of_le (by omega)]
    simp
  | succ d ih =>
    intro k i acc hi hd hk ha
    obtain ⟨k, rfl⟩ : ∃ j, k = j + 1 := ⟨k - 1, by omega⟩
    have hlt : i < l.length := by omega
    simp only [gazetteerref1_Write.l0]
    refine iteT (by omega) (iteT (by omega) (bindE (refmay _) ?_))
    rw [rd_at l i hlt, drop_at l i hlt]
    by_cases h : okR l[i]
    case neg =>
      refine iteF (by simp [h]) ?_
      rw [if_neg (fun c => h (List.forall_mem_cons.1 c).1)]
    refine iteT (by simp [h]) ?_
    generalize l[i] = x at h ⊢
    have go : ∀ z : List Int, z = Lib.encodeRuneZ x → gazetteerref1_Write.l0 k l (acc ++ z) (wrap64 ((i : Int) + 1)) = some (if ∀ r ∈ x :: l.drop (i + 1), okR r then (strOfNums (acc ++ (x :: l.drop (i + 1)).flatMap Lib.encodeRuneZ), 0) else (⟨#[]⟩, 2)) := by
      intro z hz
      have hzl := Lib.encodeRuneZ_length x
      rw [hz, wr _ (by omega) (by omega), show ((i : Int) + 1) = ((i + 1 : Nat) : Int) by omega, ih k (i + 1) _ (by omega) (by omega) (by omega) (by simp; omega)]
      by_cases ht : ∀ r ∈ l.drop (i + 1), okR r
      · rw [if_pos ht, if_pos (List.forall_mem_cons.2 ⟨h, ht⟩), List.flatMap_cons, List.append_assoc]
      · rw [if_neg ht, if_neg (fun c => ht (List.forall_mem_cons.1 c).2)]
    have ho := h
    unfold okR at ho
    by_cases c1 : x < 128
    · refine iteT c1 (iteT (by omega) ?_)
      refine go _ ?_
      rw [Lib.encodeRuneZ_one (by omega) (by omega)]
      congr 1; omega
    refine iteF c1 ?_
    by_cases c2 : x < 2048
    · refine iteT c2 (bindE rfl (iteT (by simp; omega) ?_))
      refine go _ ?_
      rw [Lib.encodeRuneZ_two (by omega) (by omega), u8_or192 _ (by omega) (by omega), i32_and63 _ (by omega) (by omega), u8_or128 _ (by omega) (by omega)]
      congr 1
      · omega
      · congr 1; omega
    refine iteF c2 ?_
    by_cases c3 : x < 65536
    · refine iteT c3 (bindE rfl (iteT (by simp; omega) ?_))
      refine go _ ?_
      rw [Lib.encodeRuneZ_three (by omega), u8_or224 _ (by omega) (by omega), i32_and63 _ (by omega) (by omega), i32_and63 _ (by omega) (by omega), u8_or128 _ (by omega) (by omega), u8_or128 _ (by omega) (by omega)]
      congr 1
      · omega
      · congr 1
        · omega
        · congr 1; omega
    · refine iteF c3 (bindE rfl (iteT (by simp; omega) ?_))
      refine go _ ?_
      rw [Lib.encodeRuneZ_four (by omega) (by omega), u8_or240 _ (by omega) (by omega), i32_and63 _ (by omega) (by omega), i32_and63 _ (by omega) (by omega), i32_and63 _ (by omega) (by omega), u8_or128 _ (by omega) (by omega), u8_or128 _ (by omega) (by omega), u8_or128 _ (by omega) (by omega)]
      congr 1
      · omega
      · congr 1
        · omega
        · congr 1
          · omega
          · congr 1; omega
theorem refwrite_eq (l : List Int) (hn : l.length ≤ 100000) (k : Nat) (hk : l.length < k) : gazetteerref1_Write.f k l = some (writeR l) := by
  unfold gazetteerref1_Write.f writeR
  have := refwrite_l l hn l.length k 0 [] (by omega) (by omega) hk (by simp)
  simpa using this
theorem cmp_same (a b : ByteArray) : ∃ c, scalar_Compare.f a b = some c ∧ gazetteerref1_Compare.f a b = some c := by
  unfold scalar_Compare.f cmp_Compare_string.f cmp_isNaN_string.f gazetteerref1_Compare.f
  simp only [Option.bind_some, bne_self_eq_false, Bool.false_eq_true, if_false]
  by_cases h1 : Op.bytesLess a.toList b.toList = true
  · exact ⟨-1, by simp [h1], by simp [h1]⟩
  · by_cases h2 : Op.bytesLess b.toList a.toList = true
    · exact ⟨1, by simp [h1, h2], by simp [h1, h2]⟩
    · exact ⟨0, by simp [h1, h2], by simp [h1, h2]⟩
theorem law_l (l : List Int) (s : ByteArray) (e : Int) (hn : l.length ≤ 1000) (rest : e = 0 → readR s.data.toList = (l, 0) ∧ s.size ≤ 1000000) (d : Nat) : ∀ (k i : Nat), i ≤ l.length → l.length - i = d → d + l.length + 4 ≤ k →
    gazetteerlaw1_ScalarWrites.l0 k l s e (i : Int) = some true := by
  induction d with
  | zero =>
    intro k i hi hd hk
    obtain ⟨k, rfl⟩ : ∃ j, k = j + 1 := ⟨k - 1, by omega⟩
    simp only [gazetteerlaw1_ScalarWrites.l0]
    refine iteF (by omega) ?_
    by_cases he : e = 0
    · obtain ⟨h1, h2⟩ := rest he
      refine iteT he (bindE (read_eq s h2 k (by omega)) ?_)
      rw [h1]
      refine iteT rfl (bindE (same_eq _ _ (by omega) k (by omega)) ?_)
      simp
    · exact iteF he rfl
  | succ d ih =>
    intro k i hi hd hk
    obtain ⟨k, rfl⟩ : ∃ j, k = j + 1 := ⟨k - 1, by omega⟩
    simp only [gazetteerlaw1_ScalarWrites.l0]
    refine iteT (by omega) (iteT (by omega) (bindE (may_any _ k (by omega)) (bindE (refmay _) (iteF (by simp) ?_))))
    rw [wr _ (by omega) (by omega), show ((i : Int) + 1) = ((i + 1 : Nat) : Int) by omega]
    exact ih k (i + 1) (by omega) (by omega) (by omega)
theorem ScalarWrites : gazetteerlaw1_ScalarWrites.Pure := by
  intro l a b w0 _ _
  have hl : I32 l := fun x hx => by
    have := w0.2.2 x hx
    have : -2147483648 ≤ x ∧ x ≤ 2147483647 := by simpa [Lit.wf, IntKind.min, IntKind.max, IntKind.signed, IntKind.bits] using this
    exact this
  obtain ⟨k, hk⟩ : ∃ k : Nat, k = 2 * l.length + 20 := ⟨_, rfl⟩
  refine ⟨k + 2, ?_⟩
  unfold gazetteerlaw1_ScalarWrites.f
  have j0t : gazetteerlaw1_ScalarWrites.j0 (k + 2) l a b true = some true := by simp only [gazetteerlaw1_ScalarWrites.j0]; rfl
  refine bindE (awake_eq _ (by omega)) (iteT rfl ?_)
  by_cases h1 : (l.length : Int) > 1000
  · exact iteT h1 j0t
  refine iteF h1 ?_
  by_cases h2 : (a.size : Int) > 1000
  · exact iteT h2 j0t
  refine iteF h2 ?_
  by_cases h3 : (b.size : Int) > 1000
  · rw [decide_eq_true h3]; exact j0t
  rw [decide_eq_false h3]
  simp only [gazetteerlaw1_ScalarWrites.j0]
  obtain ⟨c, hc1, hc2⟩ := cmp_same a b
  refine iteF (by simp) (bindE (write_eq l hl (by omega) _ (by omega)) (bindE (refwrite_eq l (by omega) _ (by omega)) (iteT rfl (iteT rfl (bindE hc1 (bindE hc2 ?_))))))
  simp only [gazetteerlaw1_ScalarWrites.j1]
  refine iteF (by simp) ?_
  refine law_l l _ _ (by omega) ?_ l.length k 0 (by omega) (by omega) (by omega)
  intro he
  by_cases hok : ∀ r ∈ l, okR r
  · have e : writeR l = (strOfNums (l.flatMap Lib.encodeRuneZ), 0) := by unfold writeR; rw [if_pos hok]
    rw [e]
    have := str_size l
    refine ⟨?_, by simp only; omega⟩
    unfold readR
    simp only []
    rw [str_bytes, ub, valid_of l hok, runes_of l hok]
    rfl
  · have e : writeR l = (⟨#[]⟩, 2) := by unfold writeR; rw [if_neg hok]
    rw [e] at he
    simp at he
end Go.Proofs.YtdmahdgcfaieoaaDoor.Pure

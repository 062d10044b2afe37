/- ScalarReads, the plain law over the printed functions: any bytes: their runes, or that they are none; read and written they are the same. No condition. -/
import Derived.Test.YtdmahdgcfaieoaaDoorPScalarReadsy
namespace Go.Proofs.YtdmahdgcfaieoaaDoor.Pure
set_option linter.unusedVariables false
set_option linter.unusedSimpArgs false
open Go.RowKit Go.Proofs.YtdmahdgcfaieoaaDoor.PScalarReads Go.Proofs.YtdmahdgcfaieoaaDoorW.PrintWords Go.Proofs.YtdmahdgcfaieoaaDoorW.PrintLast Go.Proofs.YtdmahdgcfaieoaaDoorW.PrintMore

open Go.Proofs.YtdmahdgcfaieoaaDoorW.Utf hiding bytesOf
abbrev ub (ns : List Int) : List UInt8 := Go.Proofs.YtdmahdgcfaieoaaDoorW.Utf.bytesOf ns
theorem wr (x : Int) (h0 : -9223372036854775808 ≤ x) (h1 : x ≤ 9223372036854775807) : wrap64 x = x := by
  unfold wrap64; omega
theorem wr32 (x : Int) (h0 : -2147483648 ≤ x) (h1 : x ≤ 2147483647) : wrap32 x = x := by
  unfold wrap32; omega
theorem rd_at (l : List Int) (i : Nat) (h : i < l.length) : rd l (i : Int) = l[i] := by
  unfold rd; simp [List.getD, h]
theorem drop_at {α : Type} (l : List α) (i : Nat) (h : i < l.length) : l.drop i = l[i] :: l.drop (i + 1) := (List.drop_eq_getElem_cons h)
theorem ok_valid (r : Int) : validRune r = decide (okR r) := rfl

/-! ### scalar.Read -/
theorem each1 (s : ByteArray) (hs : s.size ≤ 1000000) (k : Nat) (hk : 2 ≤ k) : scalar_each_string_rune.f k [s] = some (runesOf s.data.toList, true) := by
  obtain ⟨k, rfl⟩ : ∃ j, k = j + 2 := ⟨k - 2, by omega⟩
  have hl := runesOf_length s.data.toList
  rw [← Lib.size_eq] at hl
  unfold scalar_each_string_rune.f
  simp only [scalar_each_string_rune.l0]
  refine iteT (by simp) (iteT (by omega) (iteT (by simp) (bindE (a := (runesOf s.data.toList, true)) ?_ (iteT rfl (iteT (by simp; omega) ?_)))))
  · show scalar_Read_1.f s = _
    unfold scalar_Read_1.f
    rw [if_pos (by omega)]
  · refine iteF (by simp [wrap64]) ?_
    simp
/-- What a text reads as. -/
def readR (l : List UInt8) : List Int × Int := if Lib.validD l = true then (runesOf l, 0) else ([], 2)
theorem read_eq (s : ByteArray) (hs : s.size ≤ 1000000) (k : Nat) (hk : 2 ≤ k) : scalar_Read.f k s = some (readR s.data.toList) := by
  unfold scalar_Read.f readR
  refine bindE (a := Lib.validD s.data.toList) (by unfold utf8_ValidString.f; rw [if_pos (by omega)]) ?_
  by_cases h : Lib.validD s.data.toList = true
  · rw [if_pos h, if_pos h]
    exact bindE (each1 s hs k hk) rfl
  · rw [if_neg h, if_neg h]

/-! ### scalar.Write -/
def I32 (l : List Int) : Prop := ∀ r ∈ l, -2147483648 ≤ r ∧ r ≤ 2147483647
theorem each2 (l : List Int) (hl : I32 l) (hn : l.length ≤ 100000) (d : Nat) : ∀ (k i : Nat) (acc : List Int), i ≤ l.length → l.length - i = d → d < k → acc.length ≤ 4 * i →
    scalar_each_rune_byte.l0 k acc l (l.length : Int) (i : Int) = some (if ∀ r ∈ l.drop i, okR r then (acc ++ (l.drop i).flatMap Lib.encodeRuneZ, true) else ([], false)) := by
  induction d with
  | zero =>
    intro k i acc hi hd hk ha
    obtain ⟨k, rfl⟩ : ∃ j, k = j + 1 := ⟨k - 1, by omega⟩
    simp only [scalar_each_rune_byte.l0]
    rw [if_neg (by omega), List.drop_eq_nil_of_le (by omega)]
    simp
  | succ d ih =>
    intro k i acc hi hd hk ha
    obtain ⟨k, rfl⟩ : ∃ j, k = j + 1 := ⟨k - 1, by omega⟩
    have hlt : i < l.length := by omega
    simp only [scalar_each_rune_byte.l0]
    have hr := hl l[i] (List.getElem_mem hlt)
    have hz := Lib.encodeRuneZ_length l[i]
    refine iteT (by omega) (iteT (by omega) (iteT (by omega) (bindE (a := (Lib.encodeRuneZ l[i], validRune l[i])) (by rw [rd_at l i hlt]; unfold scalar_Write_1.f; rw [if_pos hr]) ?_)))
    rw [drop_at l i hlt]
    by_cases h : okR l[i]
    · refine iteT (by simp [ok_valid, h]) (iteT (by simp only; omega) ?_)
      rw [wr _ (by omega) (by omega), show ((i : Int) + 1) = ((i + 1 : Nat) : Int) by omega, ih k (i + 1) _ (by omega) (by omega) (by omega) (by simp; omega)]
      by_cases ht : ∀ r ∈ l.drop (i + 1), okR r
      · rw [if_pos ht, if_pos (List.forall_mem_cons.2 ⟨h, ht⟩), List.flatMap_cons, List.append_assoc]
      · rw [if_neg ht, if_neg (fun c => ht (List.forall_mem_cons.1 c).2)]
    · refine iteF (by simp [ok_valid, h]) ?_
      rw [if_neg (fun c => h (List.forall_mem_cons.1 c).1)]
/-- What runes are written as. -/
def writeR (l : List Int) : ByteArray × Int := if ∀ r ∈ l, okR r then (strOfNums (l.flatMap Lib.encodeRuneZ), 0) else (⟨#[]⟩, 2)
theorem write_eq (l : List Int) (hl : I32 l) (hn : l.length ≤ 100000) (k : Nat) (hk : l.length < k) : scalar_Write.f k l = some (writeR l) := by
  unfold scalar_Write.f writeR scalar_each_rune_byte.f
  have := each2 l hl hn l.length k 0 [] (by omega) (by omega) hk (by simp)
  rw [List.drop_zero] at this
  refine bindE this ?_
  by_cases h : ∀ r ∈ l, okR r
  · rw [if_pos h, if_pos h, if_pos rfl]; rfl
  · rw [if_neg h, if_neg h]; rfl
theorem str_map (l : List Int) : (strOfNums l).data.toList = l.map fun n => UInt8.ofNat n.toNat := by
  unfold strOfNums; simp
theorem str_bytes (l : List Int) : (strOfNums (l.flatMap Lib.encodeRuneZ)).data.toList = ub l := by
  rw [str_map]
  induction l with
  | nil => rfl
  | cons x l ih => rw [List.flatMap_cons, List.map_append, ih]; rfl
theorem str_size (l : List Int) : (strOfNums (l.flatMap Lib.encodeRuneZ)).size ≤ 4 * l.length := by
  rw [Lib.size_eq, str_bytes]
  induction l with
  | nil => simp [ub, Go.Proofs.YtdmahdgcfaieoaaDoorW.Utf.bytesOf]
  | cons x l ih => show (Go.Proofs.YtdmahdgcfaieoaaDoorW.Utf.bytesOf (x :: l)).length ≤ _; rw [bytesOf_cons, List.length_append, List.length_cons]; have := enc_len x; have e : (ub l).length = (Go.Proofs.YtdmahdgcfaieoaaDoorW.Utf.bytesOf l).length := rfl; omega

/-! ### the same runes -/
theorem same_l (a b : List Int) (hn : a.length ≤ 1000000) (hab : a.length = b.length) (d : Nat) : ∀ (k i : Nat), i ≤ a.length → a.length - i = d → d < k →
    gazetteerlaw1_Same.l0 k a b (i : Int) = some (decide (a.drop i = b.drop i)) := by
  induction d with
  | zero =>
    intro k i hi hd hk
    obtain ⟨k, rfl⟩ : ∃ j, k = j + 1 := ⟨k - 1, by omega⟩
    simp only [gazetteerlaw1_Same.l0]
    rw [if_neg (by omega), List.drop_eq_nil_of_le (by omega), List.drop_eq_nil_of_le (by omega)]
    rfl
  | succ d ih =>
    intro k i hi hd hk
    obtain ⟨k, rfl⟩ : ∃ j, k = j + 1 := ⟨k - 1, by omega⟩
    have hlt : i < a.length := by omega
    have hlt2 : i < b.length := by omega
    simp only [gazetteerlaw1_Same.l0]
    rw [if_pos (by omega), if_pos (by omega), if_pos (by omega), rd_at a i hlt, rd_at b i hlt2, drop_at a i hlt, drop_at b i hlt2]
    by_cases h : a[i] = b[i]
    · rw [if_pos h, wr _ (by omega) (by omega), show ((i : Int) + 1) = ((i + 1 : Nat) : Int) by omega, ih k (i + 1) (by omega) (by omega) (by omega)]
      congr 1
      exact decide_eq_decide.2 ⟨fun e => by rw [h, e], fun e => (List.cons.inj e).2⟩
    · rw [if_neg h, decide_eq_false (fun e => h (List.cons.inj e).1)]
theorem same_eq (a b : List Int) (hn : a.length ≤ 1000000) (k : Nat) (hk : a.length < k) : gazetteerlaw1_Same.f k a b = some (decide (a = b)) := by
  unfold gazetteerlaw1_Same.f
  by_cases h : (a.length : Int) = (b.length : Int)
  · have := same_l a b hn (by omega) a.length k 0 (by omega) (by omega) hk
    rw [if_pos h]
    simpa using this
  · rw [if_neg h]
    have : a ≠ b := fun e => h (by rw [e])
    simp [this]
theorem may_any (a0 : Int) (k : Nat) (hk : 1 ≤ k) : scalar_May.f k a0 = some (decide (okR a0)) := by
  obtain ⟨k, rfl⟩ : ∃ j, k = j + 1 := ⟨k - 1, by omega⟩
  unfold scalar_May.f utf8_ValidRune.f okR
  by_cases h0 : 0 ≤ a0
  · by_cases h1 : a0 < 55296
    · simp [utf8_ValidRune.j0, h0, h1]
    · by_cases h2 : 57343 < a0
      · by_cases h3 : a0 ≤ 1114111 <;> simp [utf8_ValidRune.j0, h0, h1, h2, h3]
      · simp [utf8_ValidRune.j0, h0, h1, h2]
  · have h2 : ¬ 57343 < a0 := by omega
    simp [utf8_ValidRune.j0, h0, h2]
theorem awake_eq (k : Nat) (hk : 3 ≤ k) : gazetteerlaw1_awake.f k = some true := by
  unfold gazetteerlaw1_awake.f
  refine bindE (read_eq _ (by decide) k (by omega)) (bindE (write_eq [233] (by intro r hr; simp at hr; omega) (by simp) k (by simp; omega)) ?_)
  have e1 : readR (⟨#[195, 169]⟩ : ByteArray).data.toList = ([233], 0) := by kernel_rfl
  have e2 : writeR [233] = (⟨#[195, 169]⟩, 0) := by kernel_rfl
  rw [e1, e2]
  refine iteT rfl (iteT rfl (bindE (same_eq _ _ (by simp) k (by simp; omega)) (iteT (by simp) (iteT (by decide +kernel) (bindE (may_any 97 k (by omega)) (iteT (by decide) (bindE (a := -1) ?_ rfl)))))))
  kernel_rfl
/-! ### the document's reading -/
theorem bt_getD (s : ByteArray) (i : Nat) : bt s (i : Int) = (((s.data.toList.getD i 0).toNat : Nat) : Int) := by
  unfold bt
  by_cases h : i < s.size
  · have h' : i < s.data.toList.length := by rw [← Lib.size_eq]; exact h
    simp [h, List.getD_eq_getElem?_getD, List.getElem?_eq_getElem h']
    rfl
  · have h' : s.data.toList.length ≤ i := by rw [← Lib.size_eq]; omega
    simp [h, List.getD_eq_getElem?_getD, List.getElem?_eq_none h']
theorem b64f : ∀ n : Fin 256, (Go.bits .and .u8 ((n.val : Nat) : Int) 192 = 128) = (n.val / 64 = 2) := by decide +kernel
theorem b64 (b : Int) (h0 : 0 ≤ b) (h1 : b ≤ 255) : (Go.bits .and .u8 b 192 = 128) ↔ b / 64 = 2 := by
  obtain ⟨n, rfl⟩ := Int.eq_ofNat_of_zero_le h0
  have h := b64f ⟨n, by omega⟩
  simp only at h
  rw [h]
  omega
theorem i32_and63 (x : Int) (h0 : 0 ≤ x) (h1 : x < 2147483648) : Go.bits .and .i32 x 63 = x % 64 := bits_mask .i32 31 (by decide) wraps_i32 6 (by decide) x h0 h1
theorem refmay (r : Int) : gazetteerref1_May.f r = some (decide (okR r)) := by
  unfold gazetteerref1_May.f okR
  by_cases h0 : r ≥ 0
  · by_cases h1 : r ≤ 1114111
    · by_cases h2 : r < 55296
      · simp [h0, h1, h2]
      · simp [h0, h1, h2]
    · rw [if_pos h0, if_neg h1]; exact congrArg some (decide_eq_false (p := (0 ≤ r ∧ r < 55296) ∨ (57343 < r ∧ r ≤ 1114111)) (by omega)).symm
  · rw [if_neg h0]; exact congrArg some (decide_eq_false (p := (0 ≤ r ∧ r < 55296) ∨ (57343 < r ∧ r ≤ 1114111)) (by omega)).symm
theorem l1_end (s : ByteArray) (acc : List Int) (at_ n r x : Int) (k : Nat) (hx : ¬ x < n) (ha : acc.length ≤ 100000) :
    gazetteerref1_Read.l1 (k + 1) s acc at_ n r x = if (n = 3 ∧ r < 2048) ∨ (n = 4 ∧ r < 65536) ∨ ¬ okR r then some ([], 2) else gazetteerref1_Read.l0 k s (acc ++ [r]) (wrap64 (at_ + n)) := by
  simp only [gazetteerref1_Read.l1, refmay]
  rw [if_neg hx]
  have hl : acc.length < 35184372088832 := by omega
  by_cases h3 : n = 3
  · have h4 : ¬ n = 4 := by omega
    by_cases hr : r < 2048
    · simp [h3, hr]
    · by_cases ho : okR r <;> simp [h3, hr, ho, hl]
  · by_cases h4 : n = 4
    · by_cases hr : r < 65536
      · simp [h4, hr]
      · by_cases ho : okR r <;> simp [h4, hr, ho, hl]
    · by_cases ho : okR r <;> simp [h3, h4, ho, hl]
theorem l1_step (s : ByteArray) (acc : List Int) (at_ x : Nat) (n r : Int) (k : Nat) (hx : (x : Int) < n) (hs : at_ + x < s.size) (hz : s.size ≤ 100000) (hr : 0 ≤ r) (hr2 : r < 33554432) :
    gazetteerref1_Read.l1 (k + 1) s acc (at_ : Int) n r (x : Int) = if bt s ((at_ + x : Nat) : Int) / 64 = 2 then gazetteerref1_Read.l1 k s acc (at_ : Int) n (r * 64 + bt s ((at_ + x : Nat) : Int) % 64) ((x + 1 : Nat) : Int) else some ([], 2) := by
  simp only [gazetteerref1_Read.l1]
  have hb := bt_range s ((at_ + x : Nat) : Int)
  rw [if_pos hx, wr ((at_ : Int) + (x : Int)) (by omega) (by omega), show ((at_ : Int) + (x : Int)) = ((at_ + x : Nat) : Int) by omega, if_pos (by omega), if_pos (by omega)]
  have e1 := b64 _ hb.1 hb.2
  by_cases hc : bt s ((at_ + x : Nat) : Int) / 64 = 2
  · rw [if_pos (e1.2 hc), if_pos hc, u8_and63 _ hb.1 (by omega), wr32 _ (by omega) (by omega), wr32 _ (by omega) (by omega), i32_or6 _ _ (by omega) (by omega) (by omega) (by omega) (by omega), wr _ (by omega) (by omega)]
    rw [show ((x : Int) + 1) = ((x + 1 : Nat) : Int) by omega]
  · rw [if_neg (fun h => hc (e1.1 h)), if_neg hc]
theorem j3_eq (s : ByteArray) (acc : List Int) (at_ : Nat) (n r : Int) (k : Nat) (hs : at_ < s.size) (hz : s.size ≤ 100000) :
    gazetteerref1_Read.j3 (k + 2) s acc (at_ : Int) n r = if n = 0 ∨ (s.size : Int) - (at_ : Int) < n then some ([], 2) else gazetteerref1_Read.l1 k s acc (at_ : Int) n r 1 := by
  simp only [gazetteerref1_Read.j3, gazetteerref1_Read.j4]
  rw [wr _ (by omega) (by omega)]
  by_cases h0 : n = 0
  · simp [h0]
  · by_cases h1 : (s.size : Int) - (at_ : Int) < n
    · simp [h0, h1]
    · simp [h0, h1]
theorem l0_start (s : ByteArray) (acc : List Int) (at_ : Nat) (k : Nat) (hs : at_ < s.size) (b : Int) (hb : b = bt s (at_ : Int)) :
    ∃ k', k ≤ k' ∧ gazetteerref1_Read.l0 (k + 4) s acc (at_ : Int) = if b < 128 then gazetteerref1_Read.j3 k' s acc (at_ : Int) 1 b else if 194 ≤ b ∧ b < 224 then gazetteerref1_Read.j3 k' s acc (at_ : Int) 2 (b % 32)
      else if 224 ≤ b ∧ b < 240 then gazetteerref1_Read.j3 k' s acc (at_ : Int) 3 (b % 16) else if 240 ≤ b ∧ b < 245 then gazetteerref1_Read.j3 k' s acc (at_ : Int) 4 (b % 8) else gazetteerref1_Read.j3 k' s acc (at_ : Int) 0 b := by
  have hr := bt_range s (at_ : Int)
  rw [← hb] at hr
  simp only [gazetteerref1_Read.l0]
  rw [if_pos (by omega), if_pos (by omega), ← hb, wr32 b (by omega) (by omega)]
  by_cases c1 : b < 128
  · exact ⟨k + 3, by omega, by simp [c1]⟩
  by_cases c2 : b ≥ 194
  · by_cases c3 : b < 224
    · refine ⟨k + 2, by omega, ?_⟩
      simp only [gazetteerref1_Read.j1]
      rw [if_neg c1, if_pos c2, if_pos (by simpa using c3), if_neg c1, if_pos ⟨c2, c3⟩, u8_and31 _ hr.1 (by omega), wr32 _ (by omega) (by omega)]
    · by_cases c4 : b < 240
      · refine ⟨k + 1, by omega, ?_⟩
        simp only [gazetteerref1_Read.j1, gazetteerref1_Read.j2]
        rw [if_neg c1, if_pos c2, if_neg (by simpa using c3), if_pos (by omega), if_pos (by simpa using c4), if_neg c1, if_neg (by omega), if_pos (by omega), u8_and15 _ hr.1 (by omega), wr32 _ (by omega) (by omega)]
      · by_cases c5 : b < 245
        · refine ⟨k + 1, by omega, ?_⟩
          simp only [gazetteerref1_Read.j1, gazetteerref1_Read.j2]
          rw [if_neg c1, if_pos c2, if_neg (by simpa using c3), if_pos (by omega), if_neg (by simpa using c4), if_pos (by omega), if_pos c5, if_neg c1, if_neg (by omega), if_neg (by omega), if_pos (by omega), u8_and7 _ hr.1 (by omega), wr32 _ (by omega) (by omega)]
        · refine ⟨k + 1, by omega, ?_⟩
          simp only [gazetteerref1_Read.j1, gazetteerref1_Read.j2]
          rw [if_neg c1, if_pos c2, if_neg (by simpa using c3), if_pos (by omega), if_neg (by simpa using c4), if_pos (by omega), if_neg c5, if_neg c1, if_neg (by omega), if_neg (by omega), if_neg (by omega)]
  · refine ⟨k + 1, by omega, ?_⟩
    simp only [gazetteerref1_Read.j1, gazetteerref1_Read.j2]
    rw [if_neg c1, if_neg c2, if_neg (by simp), if_neg (by omega), if_neg (by simp), if_neg (by omega), if_neg c1, if_neg (by omega), if_neg (by omega), if_neg (by omega)]
set_option maxRecDepth 100000 in
set_option maxHeartbeats 4000000 in
theorem badN (n b0 b1 b2 b3 : Nat) (h : (128 ≤ b0 ∧ b0 < 194) ∨ 245 ≤ b0) (l0 : b0 < 256) (l1 : b1 < 256) : Lib.decodeN n b0 b1 b2 b3 = (65533, 1) := Lib.decodeN_bad n b0 b1 b2 b3 (by omega)
set_option maxRecDepth 100000 in
set_option maxHeartbeats 8000000 in
theorem refread_l (s : ByteArray) (hs : s.size ≤ 100000) (d : Nat) : ∀ (k at_ : Nat) (acc : List Int), at_ ≤ s.size → s.size - at_ ≤ d → 12 * d + 12 ≤ k → acc.length ≤ at_ →
    gazetteerref1_Read.l0 k s acc (at_ : Int) = some (if Lib.validD (s.data.toList.drop at_) = true then (acc ++ runesOf (s.data.toList.drop at_), 0) else ([], 2)) := by
  have hsz := Lib.size_eq s
  have fin : ∀ (k at_ : Nat) (acc : List Int), s.size ≤ at_ → gazetteerref1_Read.l0 (k + 1) s acc (at_ : Int) = some (if Lib.validD (s.data.toList.drop at_) = true then (acc ++ runesOf (s.data.toList.drop at_), 0) else ([], 2)) := by
    intro k at_ acc h
    simp only [gazetteerref1_Read.l0]
    rw [if_neg (by omega), List.drop_eq_nil_of_le (by omega), runesOf_nil, Lib.validD_nil]
    simp
  induction d with
  | zero =>
    intro k at_ acc hi hd hk ha
    obtain ⟨k, rfl⟩ : ∃ j, k = j + 1 := ⟨k - 1, by omega⟩
    exact fin k at_ acc (by omega)
  | succ d ih =>
    intro k at_ acc hi hd hk ha
    by_cases hlt : at_ < s.size
    case neg =>
      obtain ⟨k, rfl⟩ : ∃ j, k = j + 1 := ⟨k - 1, by omega⟩
      exact fin k at_ acc (by omega)
    obtain ⟨k, rfl⟩ : ∃ j, k = (j + 7) + 4 := ⟨k - 11, by omega⟩
    have hne : s.data.toList.drop at_ ≠ [] := by
      intro h
      have := congrArg List.length h
      simp at this
      rw [← Lib.size_eq] at hsz
      have h2 : s.data.size = s.size := rfl
      omega
    have hlen : (s.data.toList.drop at_).length = s.size - at_ := by rw [List.length_drop, ← hsz]
    rw [Lib.validD_step _ hne, runesOf_step _ hne, Lib.decodeL_N, hlen]
    rw [Lib.getD_dropU, Lib.getD_dropU, Lib.getD_dropU, Lib.getD_dropU, Nat.add_zero]
    have e0 := bt_getD s at_
    have e1 := bt_getD s (at_ + 1)
    have e2 := bt_getD s (at_ + 2)
    have e3 := bt_getD s (at_ + 3)
    have l0 := (s.data.toList.getD at_ 0).toNat_lt
    have l1 := (s.data.toList.getD (at_ + 1) 0).toNat_lt
    have l2 := (s.data.toList.getD (at_ + 2) 0).toNat_lt
    have l3 := (s.data.toList.getD (at_ + 3) 0).toNat_lt
    generalize (s.data.toList.getD at_ 0).toNat = b0 at e0 l0 ⊢
    generalize (s.data.toList.getD (at_ + 1) 0).toNat = b1 at e1 l1 ⊢
    generalize (s.data.toList.getD (at_ + 2) 0).toNat = b2 at e2 l2 ⊢
    generalize (s.data.toList.getD (at_ + 3) 0).toNat = b3 at e3 l3 ⊢
    have bad : Lib.decodeN (s.size - at_) b0 b1 b2 b3 = (65533, 1) → some (([] : List Int), (2 : Int)) = some (if (if (Lib.decodeN (s.size - at_) b0 b1 b2 b3).1 = 65533 ∧ (Lib.decodeN (s.size - at_) b0 b1 b2 b3).2 = 1 then false else Lib.validD ((s.data.toList.drop at_).drop (Lib.decodeN (s.size - at_) b0 b1 b2 b3).2)) = true
        then (acc ++ (((Lib.decodeN (s.size - at_) b0 b1 b2 b3).1 : Nat) : Int) :: runesOf ((s.data.toList.drop at_).drop (Lib.decodeN (s.size - at_) b0 b1 b2 b3).2), 0) else ([], 2)) := by
      intro h; rw [h]; simp
    have good : ∀ (r : Int) (c w : Nat) (j : Nat), Lib.decodeN (s.size - at_) b0 b1 b2 b3 = (c, w) → r = (c : Int) → ¬ (c = 65533 ∧ w = 1) → 1 ≤ w → w ≤ s.size - at_ → 12 * d + 12 ≤ j →
        gazetteerref1_Read.l0 j s (acc ++ [r]) (wrap64 ((at_ : Int) + (w : Int))) = some (if (if (Lib.decodeN (s.size - at_) b0 b1 b2 b3).1 = 65533 ∧ (Lib.decodeN (s.size - at_) b0 b1 b2 b3).2 = 1 then false else Lib.validD ((s.data.toList.drop at_).drop (Lib.decodeN (s.size - at_) b0 b1 b2 b3).2)) = true
        then (acc ++ (((Lib.decodeN (s.size - at_) b0 b1 b2 b3).1 : Nat) : Int) :: runesOf ((s.data.toList.drop at_).drop (Lib.decodeN (s.size - at_) b0 b1 b2 b3).2), 0) else ([], 2)) := by
      intro r c w j h hr hb hw hw2 hj
      rw [h, wr _ (by omega) (by omega), show ((at_ : Int) + (w : Int)) = ((at_ + w : Nat) : Int) by omega, ih j (at_ + w) (acc ++ [r]) (by omega) (by omega) hj (by simp; omega)]
      simp only []
      rw [if_neg hb, List.drop_drop, hr]
      simp
    obtain ⟨k', hk', hl0⟩ := l0_start s acc at_ (k + 7) hlt b0 e0.symm
    rw [hl0]
    obtain ⟨k', rfl⟩ : ∃ j, k' = (j + 5) + 2 := ⟨k' - 7, by omega⟩
    have hacc : acc.length ≤ 100000 := by omega
    simp only [j3_eq s acc at_ _ _ _ hlt hs]
    by_cases c1 : (b0 : Int) < 128
    · rw [if_pos c1, if_neg (by omega), l1_end s acc _ 1 _ 1 _ (by omega) hacc, if_neg (by unfold okR; omega)]
      exact good _ b0 1 _ (by unfold Lib.decodeN; rw [if_pos (by omega)]) rfl (by omega) (by omega) (by omega) (by omega)
    rw [if_neg c1]
    by_cases c2 : 194 ≤ (b0 : Int) ∧ (b0 : Int) < 224
    · rw [if_pos c2]
      by_cases hn : (2 : Int) = 0 ∨ (s.size : Int) - (at_ : Int) < 2
      · rw [if_pos hn]
        exact bad (by unfold Lib.decodeN; rw [if_neg (by omega), if_neg (by omega), if_neg (by omega), if_neg (by omega)])
      · rw [if_neg hn, show (1 : Int) = ((1 : Nat) : Int) from rfl, l1_step s acc at_ 1 2 _ _ (by omega) (by omega) hs (by omega) (by omega), e1]
        by_cases d1 : (b1 : Int) / 64 = 2
        · rw [if_pos d1, l1_end s acc _ 2 _ _ _ (by omega) hacc, if_neg (by unfold okR; omega)]
          exact good _ (b0 % 32 * 64 + b1 % 64) 2 _ (by unfold Lib.decodeN; rw [if_neg (by omega), if_pos (by omega), if_pos (by omega)]) (by omega) (by omega) (by omega) (by omega) (by omega)
        · rw [if_neg d1]
          exact bad (by unfold Lib.decodeN; rw [if_neg (by omega), if_neg (by omega), if_neg (by omega), if_neg (by omega)])
    rw [if_neg c2]
    by_cases c3 : 224 ≤ (b0 : Int) ∧ (b0 : Int) < 240
    · rw [if_pos c3]
      by_cases hn : (3 : Int) = 0 ∨ (s.size : Int) - (at_ : Int) < 3
      · rw [if_pos hn]
        exact bad (by unfold Lib.decodeN; rw [if_neg (by omega), if_neg (by omega), if_neg (by omega), if_neg (by omega)])
      · rw [if_neg hn, show (1 : Int) = ((1 : Nat) : Int) from rfl, l1_step s acc at_ 1 3 _ _ (by omega) (by omega) hs (by omega) (by omega), e1]
        by_cases d1 : (b1 : Int) / 64 = 2
        · rw [if_pos d1, l1_step s acc at_ 2 3 _ _ (by omega) (by omega) hs (by omega) (by omega), e2]
          by_cases d2 : (b2 : Int) / 64 = 2
          · rw [if_pos d2, l1_end s acc _ 3 _ _ _ (by omega) hacc]
            by_cases hb : (3 = 3 ∧ ((b0 : Int) % 16 * 64 + (b1 : Int) % 64) * 64 + (b2 : Int) % 64 < 2048) ∨ ((3 : Int) = 4 ∧ ((b0 : Int) % 16 * 64 + (b1 : Int) % 64) * 64 + (b2 : Int) % 64 < 65536) ∨ ¬ okR (((b0 : Int) % 16 * 64 + (b1 : Int) % 64) * 64 + (b2 : Int) % 64)
            · rw [if_pos (by simpa using hb)]
              exact bad (by unfold okR at hb; unfold Lib.decodeN; rw [if_neg (by omega), if_neg (by omega), if_pos (by omega), if_neg (by omega)])
            · rw [if_neg (by simpa using hb)]
              exact good _ (b0 % 16 * 4096 + b1 % 64 * 64 + b2 % 64) 3 _ (by unfold okR at hb; unfold Lib.decodeN; rw [if_neg (by omega), if_neg (by omega), if_pos (by omega), if_pos (by omega)]) (by omega) (by omega) (by omega) (by omega) (by omega)
          · rw [if_neg d2]
            exact bad (by unfold Lib.decodeN; rw [if_neg (by omega), if_neg (by omega), if_neg (by omega), if_neg (by omega)])
        · rw [if_neg d1]
          exact bad (by unfold Lib.decodeN; rw [if_neg (by omega), if_neg (by omega), if_neg (by omega), if_neg (by omega)])
    rw [if_neg c3]
    by_cases c4 : 240 ≤ (b0 : Int) ∧ (b0 : Int) < 245
    · rw [if_pos c4]
      by_cases hn : (4 : Int) = 0 ∨ (s.size : Int) - (at_ : Int) < 4
      · rw [if_pos hn]
        exact bad (by unfold Lib.decodeN; rw [if_neg (by omega), if_neg (by omega), if_neg (by omega), if_neg (by omega)])
      · rw [if_neg hn, show (1 : Int) = ((1 : Nat) : Int) from rfl, l1_step s acc at_ 1 4 _ _ (by omega) (by omega) hs (by omega) (by omega), e1]
        by_cases d1 : (b1 : Int) / 64 = 2
        · rw [if_pos d1, l1_step s acc at_ 2 4 _ _ (by omega) (by omega) hs (by omega) (by omega), e2]
          by_cases d2 : (b2 : Int) / 64 = 2
          · rw [if_pos d2, l1_step s acc at_ 3 4 _ _ (by omega) (by omega) hs (by omega) (by omega), e3]
            by_cases d3 : (b3 : Int) / 64 = 2
            · rw [if_pos d3, l1_end s acc _ 4 _ _ _ (by omega) hacc]
              by_cases hb : (((b0 : Int) % 8 * 64 + (b1 : Int) % 64) * 64 + (b2 : Int) % 64) * 64 + (b3 : Int) % 64 < 65536 ∨ ¬ okR ((((b0 : Int) % 8 * 64 + (b1 : Int) % 64) * 64 + (b2 : Int) % 64) * 64 + (b3 : Int) % 64)
              · rw [if_pos (by simpa using hb)]
                exact bad (by unfold okR at hb; unfold Lib.decodeN; rw [if_neg (by omega), if_neg (by omega), if_neg (by omega), if_pos (by omega), if_neg (by omega)])
              · rw [if_neg (by simpa using hb)]
                exact good _ (b0 % 8 * 262144 + b1 % 64 * 4096 + b2 % 64 * 64 + b3 % 64) 4 _ (by unfold okR at hb; unfold Lib.decodeN; rw [if_neg (by omega), if_neg (by omega), if_neg (by omega), if_pos (by omega), if_pos (by omega)]) (by omega) (by omega) (by omega) (by omega) (by omega)
            · rw [if_neg d3]
              exact bad (by unfold Lib.decodeN; rw [if_neg (by omega), if_neg (by omega), if_neg (by omega), if_neg (by omega)])
          · rw [if_neg d2]
            exact bad (by unfold Lib.decodeN; rw [if_neg (by omega), if_neg (by omega), if_neg (by omega), if_neg (by omega)])
        · rw [if_neg d1]
          exact bad (by unfold Lib.decodeN; rw [if_neg (by omega), if_neg (by omega), if_neg (by omega), if_neg (by omega)])
    rw [if_neg c4, if_pos (Or.inl trivial)]
    exact bad (badN _ _ _ _ _ (by omega) l0 l1)
theorem refread_eq (s : ByteArray) (hs : s.size ≤ 100000) (k : Nat) (hk : 12 * s.size + 12 ≤ k) : gazetteerref1_Read.f k s = some (readR s.data.toList) := by
  unfold gazetteerref1_Read.f readR
  have := refread_l s hs s.size k 0 [] (by omega) (by omega) hk (by simp)
  simpa using this
theorem ScalarReads : gazetteerlaw1_ScalarReads.Pure := by
  intro s _
  obtain ⟨k, hk⟩ : ∃ k : Nat, k = 12 * s.size + 20 := ⟨_, rfl⟩
  refine ⟨k + 1, ?_⟩
  unfold gazetteerlaw1_ScalarReads.f
  refine bindE (awake_eq _ (by omega)) (iteT rfl ?_)
  by_cases h : (s.size : Int) > 3000
  · exact iteT h rfl
  refine iteF h (bindE (read_eq s (by omega) _ (by omega)) (bindE (refread_eq s (by omega) _ (by omega)) (iteT rfl ?_)))
  have hl := runesOf_length s.data.toList
  rw [← Lib.size_eq] at hl
  have hl2 : (readR s.data.toList).1.length ≤ s.size := by
    unfold readR; split
    · exact hl
    · simp
  refine bindE (same_eq _ _ (by omega) _ (by omega)) ?_
  simp only [gazetteerlaw1_ScalarReads.j0]
  refine iteF (by simp) ?_
  by_cases hv : Lib.validD s.data.toList = true
  · have e : readR s.data.toList = (runesOf s.data.toList, 0) := by unfold readR; rw [if_pos hv]
    rw [e]
    have hok := runesOf_ok s.data.toList
    refine iteT rfl (bindE (write_eq _ (fun r hr => by have := hok r hr; unfold okR at this; omega) (by simp only; omega) _ (by simp only; omega)) ?_)
    have ew : writeR (runesOf s.data.toList) = (strOfNums ((runesOf s.data.toList).flatMap Lib.encodeRuneZ), 0) := by unfold writeR; rw [if_pos hok]
    rw [ew]
    refine iteT rfl ?_
    simp only []
    rw [Lib.toList_data, Lib.toList_data, str_bytes, show ub (runesOf s.data.toList) = s.data.toList from bytes_runes _ hv]
    simp
  · have e : readR s.data.toList = ([], 2) := by unfold readR; rw [if_neg hv]
    rw [e]
    exact iteF (by decide) rfl
end Go.Proofs.YtdmahdgcfaieoaaDoor.Pure

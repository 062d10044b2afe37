/- ScalarCuts, the plain law over the printed functions: a text cut between runes is a text; cut within one it is none; what is read ahead stays. No condition. -/
import Derived.Test.YtdmahdgcfaieoaaDoorPScalarCutsy
namespace Go.Proofs.YtdmahdgcfaieoaaDoor.Pure
set_option linter.unusedVariables false
set_option linter.unusedSimpArgs false
open Go.RowKit Go.Proofs.YtdmahdgcfaieoaaDoor.PScalarCuts Go.Proofs.YtdmahdgcfaieoaaDoorW.PrintWords Go.Proofs.YtdmahdgcfaieoaaDoorW.PrintLast Go.Proofs.YtdmahdgcfaieoaaDoorW.PrintMore

open Go.Proofs.YtdmahdgcfaieoaaDoorW.Utf hiding bytesOf
abbrev ub (ns : List Int) : List UInt8 := Go.Proofs.YtdmahdgcfaieoaaDoorW.Utf.bytesOf ns
theorem wr (x : Int) (h0 : -9223372036854775808 ≤ x) (h1 : x ≤ 9223372036854775807) : wrap64 x = x := by
  unfold wrap64; omega
theorem wr32 (x : Int) (h0 : -2147483648 ≤ x) (h1 : x ≤ 2147483647) : wrap32 x = x := by
  unfold wrap32; omega
theorem rd_at (l : List Int) (i : Nat) (h : i < l.length) : rd l (i : Int) = l[i] := by
  unfold rd; simp [List.getD, h]
theorem drop_at {α : Type} (l : List α) (i : Nat) (h : i < l.length) : l.drop i = l[i] :: l.drop (i + 1) := (List.drop_eq_getElem_cons h)
theorem ok_valid (r : Int) : validRune r = decide (okR r) := rfl

/-! ### scalar.Read -/
theorem each1 (s : ByteArray) (hs : s.size ≤ 1000000) (k : Nat) (hk : 2 ≤ k) : scalar_each_string_rune.f k [s] = some (runesOf s.data.toList, true) := by
  obtain ⟨k, rfl⟩ : ∃ j, k = j + 2 := ⟨k - 2, by omega⟩
  have hl := runesOf_length s.data.toList
  rw [← Lib.size_eq] at hl
  unfold scalar_each_string_rune.f
  simp only [scalar_each_string_rune.l0]
  refine iteT (by simp) (iteT (by omega) (iteT (by simp) (bindE (a := (runesOf s.data.toList, true)) ?_ (iteT rfl (iteT (by simp; omega) ?_)))))
  · show scalar_Read_1.f s = _
    unfold scalar_Read_1.f
    rw [if_pos (by omega)]
  · refine iteF (by simp [wrap64]) ?_
    simp
/-- What a text reads as. -/
def readR (l : List UInt8) : List Int × Int := if Lib.validD l = true then (runesOf l, 0) else ([], 2)
theorem read_eq (s : ByteArray) (hs : s.size ≤ 1000000) (k : Nat) (hk : 2 ≤ k) : scalar_Read.f k s = some (readR s.data.toList) := by
  unfold scalar_Read.f readR
  refine bindE (a := Lib.validD s.data.toList) (by unfold utf8_ValidString.f; rw [if_pos (by omega)]) ?_
  by_cases h : Lib.validD s.data.toList = true
  · rw [if_pos h, if_pos h]
    exact bindE (each1 s hs k hk) rfl
  · rw [if_neg h, if_neg h]

/-! ### scalar.Write -/
def I32 (l : List Int) : Prop := ∀ r ∈ l, -2147483648 ≤ r ∧ r ≤ 2147483647
theorem each2 (l : List Int) (hl : I32 l) (hn : l.length ≤ 100000) (d : Nat) : ∀ (k i : Nat) (acc : List Int), i ≤ l.length → l.length - i = d → d < k → acc.length ≤ 4 * i →
    scalar_each_rune_byte.l0 k acc l (l.length : Int) (i : Int) = some (if ∀ r ∈ l.drop i, okR r then (acc ++ (l.drop i).flatMap Lib.encodeRuneZ, true) else ([], false)) := by
  induction d with
  | zero =>
    intro k i acc hi hd hk ha
    obtain ⟨k, rfl⟩ : ∃ j, k = j + 1 := ⟨k - 1, by omega⟩
    simp only [scalar_each_rune_byte.l0]
    rw [if_neg (by omega), List.drop_eq_nil_of_le (by omega)]
    simp
  | succ d ih =>
    intro k i acc hi hd hk ha
    obtain ⟨k, rfl⟩ : ∃ j, k = j + 1 := ⟨k - 1, by omega⟩
    have hlt : i < l.length := by omega
    simp only [scalar_each_rune_byte.l0]
    have hr := hl l[i] (List.getElem_mem hlt)
    have hz := Lib.encodeRuneZ_length l[i]
    refine iteT (by omega) (iteT (by omega) (iteT (by omega) (bindE (a := (Lib.encodeRuneZ l[i], validRune l[i])) (by rw [rd_at l i hlt]; unfold scalar_Write_1.f; rw [if_pos hr]) ?_)))
    rw [drop_at l i hlt]
    by_cases h : okR l[i]
    · refine iteT (by simp [ok_valid, h]) (iteT (by simp only; omega) ?_)
      rw [wr _ (by omega) (by omega), show ((i : Int) + 1) = ((i + 1 : Nat) : Int) by omega, ih k (i + 1) _ (by omega) (by omega) (by omega) (by simp; omega)]
      by_cases ht : ∀ r ∈ l.drop (i + 1), okR r
      · rw [if_pos ht, if_pos (List.forall_mem_cons.2 ⟨h, ht⟩), List.flatMap_cons, List.append_assoc]
      · rw [if_neg ht, if_neg (fun c => ht (List.forall_mem_cons.1 c).2)]
    · refine iteF (by simp [ok_valid, h]) ?_
      rw [if_neg (fun c => h (List.forall_mem_cons.1 c).1)]
/-- What runes are written as. -/
def writeR (l : List Int) : ByteArray × Int := if ∀ r ∈ l, okR r then (strOfNums (l.flatMap Lib.encodeRuneZ), 0) else (⟨#[]⟩, 2)
theorem write_eq (l : List Int) (hl : I32 l) (hn : l.length ≤ 100000) (k : Nat) (hk : l.length < k) : scalar_Write.f k l = some (writeR l) := by
  unfold scalar_Write.f writeR scalar_each_rune_byte.f
  have := each2 l hl hn l.length k 0 [] (by omega) (by omega) hk (by simp)
  rw [List.drop_zero] at this
  refine bindE this ?_
  by_cases h : ∀ r ∈ l, okR r
  · rw [if_pos h, if_pos h, if_pos rfl]; rfl
  · rw [if_neg h, if_neg h]; rfl
theorem str_map (l : List Int) : (strOfNums l).data.toList = l.map fun n => UInt8.ofNat n.toNat := by
  unfold strOfNums; simp
theorem str_bytes (l : List Int) : (strOfNums (l.flatMap Lib.encodeRuneZ)).data.toList = ub l := by
  rw [str_map]
  induction l with
  | nil => rfl
  | cons x l ih => rw [List.flatMap_cons, List.map_append, ih]; rfl
theorem str_size (l : List Int) : (strOfNums (l.flatMap Lib.encodeRuneZ)).size ≤ 4 * l.length := by
  rw [Lib.size_eq, str_bytes]
  induction l with
  | nil => simp [ub, Go.Proofs.YtdmahdgcfaieoaaDoorW.Utf.bytesOf]
  | cons x l ih => show (Go.Proofs.YtdmahdgcfaieoaaDoorW.Utf.bytesOf (x :: l)).length ≤ _; rw [bytesOf_cons, List.length_append, List.length_cons]; have := enc_len x; have e : (ub l).length = (Go.Proofs.YtdmahdgcfaieoaaDoorW.Utf.bytesOf l).length := rfl; omega

/-! ### the same runes -/
theorem same_l (a b : List Int) (hn : a.length ≤ 1000000) (hab : a.length = b.length) (d : Nat) : ∀ (k i : Nat), i ≤ a.length → a.length - i = d → d < k →
    gazetteerlaw1_Same.l0 k a b (i : Int) = some (decide (a.drop i = b.drop i)) := by
  induction d with
  | zero =>
    intro k i hi hd hk
    obtain ⟨k, rfl⟩ : ∃ j, k = j + 1 := ⟨k - 1, by omega⟩
    simp only [gazetteerlaw1_Same.l0]
    rw [if_neg (by omega), List.drop_eq_nil_of_le (by omega), List.drop_eq_nil_of_le (by omega)]
    rfl
  | succ d ih =>
    intro k i hi hd hk
    obtain ⟨k, rfl⟩ : ∃ j, k = j + 1 := ⟨k - 1, by omega⟩
    have hlt : i < a.length := by omega
    have hlt2 : i < b.length := by omega
    simp only [gazetteerlaw1_Same.l0]
    rw [if_pos (by omega), if_pos (by omega), if_pos (by omega), rd_at a i hlt, rd_at b i hlt2, drop_at a i hlt, drop_at b i hlt2]
    by_cases h : a[i] = b[i]
    · rw [if_pos h, wr _ (by omega) (by omega), show ((i : Int) + 1) = ((i + 1 : Nat) : Int) by omega, ih k (i + 1) (by omega) (by omega) (by omega)]
      congr 1
      exact decide_eq_decide.2 ⟨fun e => by rw [h, e], fun e => (List.cons.inj e).2⟩
    · rw [if_neg h, decide_eq_false (fun e => h (List.cons.inj e).1)]
theorem same_eq (a b : List Int) (hn : a.length ≤ 1000000) (k : Nat) (hk : a.length < k) : gazetteerlaw1_Same.f k a b = some (decide (a = b)) := by
  unfold gazetteerlaw1_Same.f
  by_cases h : (a.length : Int) = (b.length : Int)
  · have := same_l a b hn (by omega) a.length k 0 (by omega) (by omega) hk
    rw [if_pos h]
    simpa using this
  · rw [if_neg h]
    have : a ≠ b := fun e => h (by rw [e])
    simp [this]
theorem may_any (a0 : Int) (k : Nat) (hk : 1 ≤ k) : scalar_May.f k a0 = some (decide (okR a0)) := by
  obtain ⟨k, rfl⟩ : ∃ j, k = j + 1 := ⟨k - 1, by omega⟩
  unfold scalar_May.f utf8_ValidRune.f okR
  by_cases h0 : 0 ≤ a0
  · by_cases h1 : a0 < 55296
    · simp [utf8_ValidRune.j0, h0, h1]
    · by_cases h2 : 57343 < a0
      · by_cases h3 : a0 ≤ 1114111 <;> simp [utf8_ValidRune.j0, h0, h1, h2, h3]
      · simp [utf8_ValidRune.j0, h0, h1, h2]
  · have h2 : ¬ 57343 < a0 := by omega
    simp [utf8_ValidRune.j0, h0, h2]
theorem awake_eq (k : Nat) (hk : 3 ≤ k) : gazetteerlaw1_awake.f k = some true := by
  unfold gazetteerlaw1_awake.f
  refine bindE (read_eq _ (by decide) k (by omega)) (bindE (write_eq [233] (by intro r hr; simp at hr; omega) (by simp) k (by simp; omega)) ?_)
  have e1 : readR (⟨#[195, 169]⟩ : ByteArray).data.toList = ([233], 0) := by kernel_rfl
  have e2 : writeR [233] = (⟨#[195, 169]⟩, 0) := by kernel_rfl
  rw [e1, e2]
  refine iteT rfl (iteT rfl (bindE (same_eq _ _ (by simp) k (by simp; omega)) (iteT (by simp) (iteT (by decide +kernel) (bindE (may_any 97 k (by omega)) (iteT (by decide) (bindE (a := -1) ?_ rfl)))))))
  kernel_rfl
theorem ub_nil : ub [] = [] := rfl
theorem ub_take (l : List Int) (n : Nat) (h : n < l.length) : ub (l.take (n + 1)) = ub (l.take n) ++ Lib.encodeRune l[n] := by
  have : l.take (n + 1) = l.take n ++ [l[n]] := List.take_succ_eq_append_getElem h
  rw [this]
  show Go.Proofs.YtdmahdgcfaieoaaDoorW.Utf.bytesOf _ = Go.Proofs.YtdmahdgcfaieoaaDoorW.Utf.bytesOf _ ++ _
  rw [bytesOf_append, bytesOf_cons]
  simp [Go.Proofs.YtdmahdgcfaieoaaDoorW.Utf.bytesOf]
theorem ub_split (l : List Int) (n : Nat) : ub l = ub (l.take n) ++ ub (l.drop n) := by
  show Go.Proofs.YtdmahdgcfaieoaaDoorW.Utf.bytesOf _ = Go.Proofs.YtdmahdgcfaieoaaDoorW.Utf.bytesOf _ ++ Go.Proofs.YtdmahdgcfaieoaaDoorW.Utf.bytesOf _
  rw [← bytesOf_append, List.take_append_drop]
theorem one_at (l : List Int) (n : Nat) (h : n < l.length) : (l.take (n + 1)).drop n = [l[n]] := by
  have : l.take (n + 1) = l.take n ++ [l[n]] := List.take_succ_eq_append_getElem h
  rw [this, List.drop_append, List.drop_eq_nil_of_le (by simp; omega)]
  have : n - (l.take n).length = 0 := by simp; omega
  rw [this]; rfl
theorem cut_whole (l : List Int) (hok : ∀ r ∈ l, okR r) (n : Nat) : readR ((ub l).take (ub (l.take n)).length) = (l.take n, 0) := by
  rw [ub_split l n, List.take_left]
  have h : ∀ r ∈ l.take n, okR r := fun r hr => hok r (List.mem_of_mem_take hr)
  unfold readR
  rw [ub, valid_of _ h, runes_of _ h]; rfl
theorem cut_within (l : List Int) (hok : ∀ r ∈ l, okR r) (n : Nat) (h : n < l.length) (c : Nat) (h1 : (ub (l.take n)).length < c) (h2 : c < (ub (l.take (n + 1))).length) : readR ((ub l).take c) = ([], 2) := by
  have e : (ub l).take c = Go.Proofs.YtdmahdgcfaieoaaDoorW.Utf.bytesOf (l.take n) ++ (Lib.encodeRune l[n]).take (c - (ub (l.take n)).length) := by
    rw [ub_split l (n + 1), List.take_append_of_le_length (by omega), ub_take l n h, List.take_append, List.take_of_length_le (by omega)]
  rw [ub_take l n h, List.length_append] at h2
  have hv : Lib.validD ((ub l).take c) = false := by
    rw [e, valid_bytes _ _ (fun r hr => hok r (List.mem_of_mem_take hr))]
    exact cut_invalid _ (hok _ (List.getElem_mem h)) _ (by omega) (by omega)
  unfold readR
  rw [hv]; rfl
theorem cuts_l (l : List Int) (hl : I32 l) (hok : ∀ r ∈ l, okR r) (hn : l.length ≤ 300) (c : Nat) (hc : c ≤ (ub l).length) (d : Nat) : ∀ (k n : Nat), n ≤ l.length → l.length - n = d → d + l.length + 6 ≤ k → (ub (l.take n)).length ≤ c →
    gazetteerlaw1_ScalarCuts.l0 k l (c : Int) (readR ((ub l).take c)).1 (readR ((ub l).take c)).2 (n : Int) ((ub (l.take n)).length : Int) = some true := by
  have stop : ∀ (k n : Nat), n ≤ l.length → l.length < k → (ub (l.take n)).length = c → gazetteerlaw1_ScalarCuts.l0 (k + 1) l (c : Int) (readR ((ub l).take c)).1 (readR ((ub l).take c)).2 (n : Int) ((ub (l.take n)).length : Int) = some true := by
    intro k n hi hk h
    simp only [gazetteerlaw1_ScalarCuts.l0]
    have e : readR ((ub l).take c) = (l.take n, 0) := by rw [← h]; exact cut_whole l hok n
    rw [e]
    refine iteF (by omega) (iteT (by omega) (iteT rfl (iteT (by omega) (iteT (by omega) ?_))))
    refine bindE (same_eq _ _ (by simp; omega) k (by simp; omega)) ?_
    simp
  induction d with
  | zero =>
    intro k n hi hd hk h
    obtain ⟨k, rfl⟩ : ∃ j, k = j + 1 := ⟨k - 1, by omega⟩
    have : l.take n = l := List.take_of_length_le (by omega)
    exact stop k n hi (by omega) (by rw [this] at h ⊢; omega)
  | succ d ih =>
    intro k n hi hd hk h
    obtain ⟨k, rfl⟩ : ∃ j, k = j + 2 := ⟨k - 2, by omega⟩
    by_cases hlt : (ub (l.take n)).length < c
    case neg => exact stop (k + 1) n hi (by omega) (by omega)
    have hn2 : n < l.length := by omega
    have hlen : (ub l).length ≤ 4 * l.length := by
      have := str_size l
      rw [Lib.size_eq, str_bytes] at this
      exact this
    rw [gazetteerlaw1_ScalarCuts.l0]
    have hz := enc_len l[n]
    rw [wr ((n : Int) + 1) (by omega) (by omega)]
    have eS : ((l.take ((n : Int) + 1).toNat).drop ((n : Int)).toNat) = [l[n]] := by
      rw [show ((n : Int) + 1).toNat = n + 1 by omega, show ((n : Int)).toNat = n by omega]; exact one_at l n hn2
    rw [eS]
    have ok1 : ∀ r ∈ [l[n]], okR r := fun r hr => by simp at hr; subst hr; exact hok _ (List.getElem_mem hn2)
    have i1 : I32 [l[n]] := fun r hr => by simp at hr; subst hr; exact hl _ (List.getElem_mem hn2)
    have ew : writeR [l[n]] = (strOfNums ([l[n]].flatMap Lib.encodeRuneZ), 0) := by unfold writeR; rw [if_pos ok1]
    have hw := write_eq [l[n]] i1 (by simp) (k + 1) (by simp; omega)
    rw [ew] at hw
    refine iteT (by omega) (iteT (by omega) (iteT (by omega) (iteT (by omega) (bindE hw ?_))))
    have hsz : ((strOfNums ([l[n]].flatMap Lib.encodeRuneZ)).size : Int) = ((Lib.encodeRune l[n]).length : Int) := by
      rw [Lib.size_eq, str_bytes]
      show ((Go.Proofs.YtdmahdgcfaieoaaDoorW.Utf.bytesOf [l[n]]).length : Int) = _
      rw [bytesOf_cons]; simp [Go.Proofs.YtdmahdgcfaieoaaDoorW.Utf.bytesOf]
    simp only []
    rw [hsz, wr _ (by omega) (by omega)]
    have enext : ((ub (l.take n)).length : Int) + ((Lib.encodeRune l[n]).length : Int) = ((ub (l.take (n + 1))).length : Int) := by
      rw [ub_take l n hn2, List.length_append]; omega
    rw [enext, show ((n : Int) + 1) = ((n + 1 : Nat) : Int) by omega]
    by_cases hle : (ub (l.take (n + 1))).length ≤ c
    · exact ih (k + 1) (n + 1) (by omega) (by omega) (by omega) hle
    · have e := cut_within l hok n hn2 c hlt (by omega)
      simp only [gazetteerlaw1_ScalarCuts.l0]
      rw [e]
      exact iteF (by omega) (iteF (by omega) (iteT rfl rfl))
theorem ScalarCuts : gazetteerlaw1_ScalarCuts.Pure := by
  intro l cut w0 w1
  have hl : I32 l := fun x hx => by
    have := w0.2.2 x hx
    have : -2147483648 ≤ x ∧ x ≤ 2147483647 := by simpa [Lit.wf, IntKind.min, IntKind.max, IntKind.signed, IntKind.bits] using this
    exact this
  have hcut : 0 ≤ cut ∧ cut ≤ 65535 := by simpa [Lit.wf, IntKind.min, IntKind.max, IntKind.signed, IntKind.bits] using w1
  obtain ⟨k, hk⟩ : ∃ k : Nat, k = 2 * l.length + 20 := ⟨_, rfl⟩
  refine ⟨k, ?_⟩
  unfold gazetteerlaw1_ScalarCuts.f
  refine bindE (awake_eq _ (by omega)) (iteT rfl ?_)
  by_cases h1 : (l.length : Int) > 300
  · exact iteT h1 rfl
  refine iteF h1 (bindE (write_eq l hl (by omega) k (by omega)) ?_)
  by_cases hok : ∀ r ∈ l, okR r
  case neg =>
    have e : writeR l = (⟨#[]⟩, 2) := by unfold writeR; rw [if_neg hok]
    rw [e]
    exact iteF (by decide) rfl
  have e : writeR l = (strOfNums (l.flatMap Lib.encodeRuneZ), 0) := by unfold writeR; rw [if_pos hok]
  rw [e]
  have hs := str_size l
  have hu : (strOfNums (l.flatMap Lib.encodeRuneZ)).size = (ub l).length := by rw [Lib.size_eq, str_bytes]
  simp only []
  rw [wr cut (by omega) (by omega), wr _ (by omega) (by omega)]
  have ht : Int.tmod cut (((strOfNums (l.flatMap Lib.encodeRuneZ)).size : Int) + 1) = cut % (((strOfNums (l.flatMap Lib.encodeRuneZ)).size : Int) + 1) := Int.tmod_eq_emod_of_nonneg hcut.1
  rw [ht]
  have hm0 : 0 ≤ cut % (((strOfNums (l.flatMap Lib.encodeRuneZ)).size : Int) + 1) := Int.emod_nonneg _ (by omega)
  have hm1 : cut % (((strOfNums (l.flatMap Lib.encodeRuneZ)).size : Int) + 1) < ((strOfNums (l.flatMap Lib.encodeRuneZ)).size : Int) + 1 := Int.emod_lt_of_pos _ (by omega)
  generalize cut % (((strOfNums (l.flatMap Lib.encodeRuneZ)).size : Int) + 1) = m at hm0 hm1 ⊢
  obtain ⟨c, rfl⟩ := Int.eq_ofNat_of_zero_le hm0
  have ex : ((strOfNums (l.flatMap Lib.encodeRuneZ)).extract 0 ((c : Int)).toNat).data.toList = (ub l).take c := by
    rw [← str_bytes, ByteArray.data_extract, Array.toList_extract]
    simp
  have exs : ((strOfNums (l.flatMap Lib.encodeRuneZ)).extract 0 ((c : Int)).toNat).size ≤ 1000000 := by
    rw [Lib.size_eq, ex, List.length_take]; omega
  refine iteT trivial (iteF (by omega) (iteT (by omega) (iteT (by omega) (bindE (read_eq _ exs k (by omega)) ?_))))
  rw [ex]
  have := cuts_l l hl hok (by omega) c (by omega) l.length k 0 (by omega) (by omega) (by omega) (by simp [ub_nil])
  simpa [ub_nil] using this
end Go.Proofs.YtdmahdgcfaieoaaDoor.Pure

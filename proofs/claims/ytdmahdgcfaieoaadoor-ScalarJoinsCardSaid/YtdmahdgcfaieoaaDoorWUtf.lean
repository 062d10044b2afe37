/- Plain laws of UTF-8, no program in them: the runes of bytes and the bytes of runes, each undone by the other; what is cut within a rune is no text; bytes keep the order of runes. No condition. -/
import Derived.Lib.ValidLaws
import Derived.Lib.MapLaws
import Derived.Lib.RuneBytes
namespace Go.Proofs.YtdmahdgcfaieoaaDoorW.Utf
open Go.Lib
set_option linter.unusedVariables false

/-- may a rune be? -/
def okR (r : Int) : Prop := (0 ≤ r ∧ r < 55296) ∨ (57343 < r ∧ r ≤ 1114111)
instance (r : Int) : Decidable (okR r) := by unfold okR; infer_instance
/-- the runes of bytes, one after another, as the model decodes. -/
def runesGo : Nat → List UInt8 → List Int
  | 0, _ => []
  | n + 1, l => if l = [] then [] else ((decodeL l).1 : Int) :: runesGo n (l.drop (decodeL l).2)
def runesOf (l : List UInt8) : List Int := runesGo l.length l
/-- the bytes of runes. -/
def bytesOf (ns : List Int) : List UInt8 := ns.flatMap encodeRune

theorem runesGo_nil : ∀ n, runesGo n [] = []
  | 0 => rfl
  | _ + 1 => by simp [runesGo]
theorem runesGo_fuel : ∀ (n m : Nat) (l : List UInt8), l.length ≤ n → l.length ≤ m → runesGo n l = runesGo m l
  | 0, m, l, hn, _ => by
    have : l = [] := List.eq_nil_of_length_eq_zero (by omega)
    subst this
    rw [runesGo_nil, runesGo_nil]
  | n + 1, 0, l, _, hm => by
    have : l = [] := List.eq_nil_of_length_eq_zero (by omega)
    subst this
    rw [runesGo_nil, runesGo_nil]
  | n + 1, m + 1, l, hn, hm => by
    unfold runesGo
    by_cases hne : l = []
    · simp [hne]
    · have hw := decodeL_width l
      have hl : 0 < l.length := List.length_pos_iff.2 hne
      rw [if_neg hne, if_neg hne, runesGo_fuel n m (l.drop (decodeL l).2) (by rw [List.length_drop]; omega) (by rw [List.length_drop]; omega)]
theorem runesOf_nil : runesOf [] = [] := rfl
theorem runesOf_step (l : List UInt8) (hne : l ≠ []) : runesOf l = ((decodeL l).1 : Int) :: runesOf (l.drop (decodeL l).2) := by
  have hl : 0 < l.length := List.length_pos_iff.2 hne
  have hw := decodeL_width l
  obtain ⟨n, hn⟩ : ∃ n, l.length = n + 1 := ⟨l.length - 1, by omega⟩
  unfold runesOf
  rw [hn]
  show (if l = [] then [] else _) = _
  rw [if_neg hne, runesGo_fuel n (l.drop (decodeL l).2).length _ (by rw [List.length_drop]; omega) (Nat.le_refl _)]

/-- Strong induction on the length, a rune at a time. -/
theorem rune_ind {P : List UInt8 → Prop} (h0 : P []) (h1 : ∀ l, l ≠ [] → P (l.drop (decodeL l).2) → P l) : ∀ l, P l := by
  intro l
  induction hn : l.length using Nat.strongRecOn generalizing l with
  | _ n ih =>
    by_cases hne : l = []
    · subst hne; exact h0
    · have hw := decodeL_width l
      have hl : 0 < l.length := List.length_pos_iff.2 hne
      exact h1 l hne (ih _ (by rw [List.length_drop]; omega) _ rfl)

set_option maxRecDepth 100000 in
set_option maxHeartbeats 4000000 in
theorem decodeN_ok (n b0 b1 b2 b3 : Nat) (h0 : b0 < 256) : okR ((decodeN n b0 b1 b2 b3).1 : Int) := by
  unfold okR decodeN
  repeat' split
  all_goals (simp only; omega)
theorem decodeL_ok (l : List UInt8) : okR ((decodeL l).1 : Int) := by
  rw [decodeL_N]; exact decodeN_ok _ _ _ _ _ (l.getD 0 0).toNat_lt
theorem runesOf_ok (l : List UInt8) : ∀ r ∈ runesOf l, okR r := by
  refine rune_ind (P := fun l => ∀ r ∈ runesOf l, okR r) (fun r hr => by simp [runesOf_nil] at hr) (fun l hne ih r hr => ?_) l
  rw [runesOf_step l hne] at hr
  rcases List.mem_cons.1 hr with rfl | hr
  · exact decodeL_ok l
  · exact ih r hr
theorem runesOf_length (l : List UInt8) : (runesOf l).length ≤ l.length := by
  refine rune_ind (P := fun l => (runesOf l).length ≤ l.length) (by simp [runesOf_nil]) (fun l hne ih => ?_) l
  rw [runesOf_step l hne, List.length_cons]
  have hw := decodeL_width l
  have hl : 0 < l.length := List.length_pos_iff.2 hne
  rw [List.length_drop] at ih
  omega

/-- What was read and is written again is the same. -/
theorem bytes_runes (l : List UInt8) (hv : validD l = true) : bytesOf (runesOf l) = l := by
  revert hv
  refine rune_ind (P := fun l => validD l = true → bytesOf (runesOf l) = l) (fun _ => rfl) (fun l hne ih hv => ?_) l
  rw [validD_step l hne] at hv
  split at hv
  · cases hv
  · rename_i hb
    rw [runesOf_step l hne]
    show encodeRune _ ++ bytesOf (runesOf _) = l
    rw [ih hv, encode_decode l hne hb, List.take_append_drop]

/-! ### the bytes of a rune, decoded -/
theorem enc_bytes (r : Int) : encodeRune r = (encodeRuneZ r).map fun x => x.toNat.toUInt8 := rfl
theorem u8n (n : Nat) (h : n < 256) : (n.toUInt8).toNat = n := by simp; omega
theorem getD_app0 (a t : List UInt8) (i : Nat) (h : i < a.length) : (a ++ t).getD i 0 = a.getD i 0 := by
  simp [List.getD, List.getElem?_append_left h]

set_option maxRecDepth 100000 in
set_option maxHeartbeats 4000000 in
theorem decode_encode (r : Int) (hr : okR r) (t : List UInt8) : decodeL (encodeRune r ++ t) = (r.toNat, (encodeRune r).length) := by
  unfold okR at hr
  rw [decodeL_N]
  by_cases c1 : r ≤ 127
  · rw [enc_bytes, encodeRuneZ_one (by omega) c1]
    simp only [List.map_cons, List.map_nil, List.cons_append, List.nil_append, List.length_cons, List.length_nil, List.getD_cons_zero]
    rw [u8n _ (by omega)]
    unfold decodeN
    rw [if_pos (by omega)]
  by_cases c2 : r ≤ 2047
  · rw [enc_bytes, encodeRuneZ_two (by omega) c2]
    simp only [List.map_cons, List.map_nil, List.cons_append, List.nil_append, List.length_cons, List.length_nil, List.getD_cons_zero, List.getD_cons_succ]
    rw [u8n _ (by omega), u8n _ (by omega)]
    unfold decodeN
    rw [if_neg (by omega), if_pos (by omega), if_pos (by omega)]
    apply Prod.ext
    · simp only; omega
    · simp only
  by_cases c3 : r ≤ 65535
  · rw [enc_bytes, encodeRuneZ_three (by omega)]
    simp only [List.map_cons, List.map_nil, List.cons_append, List.nil_append, List.length_cons, List.length_nil, List.getD_cons_zero, List.getD_cons_succ]
    rw [u8n _ (by omega), u8n _ (by omega), u8n _ (by omega)]
    unfold decodeN
    rw [if_neg (by omega), if_neg (by omega), if_pos (by omega), if_pos (by omega)]
    apply Prod.ext
    · simp only; omega
    · simp only
  · rw [enc_bytes, encodeRuneZ_four (by omega) (by omega)]
    simp only [List.map_cons, List.map_nil, List.cons_append, List.nil_append, List.length_cons, List.length_nil, List.getD_cons_zero, List.getD_cons_succ]
    rw [u8n _ (by omega), u8n _ (by omega), u8n _ (by omega), u8n _ (by omega)]
    unfold decodeN
    rw [if_neg (by omega), if_neg (by omega), if_neg (by omega), if_pos (by omega), if_pos (by omega)]
    apply Prod.ext
    · simp only; omega
    · simp only

theorem enc_ne (r : Int) : encodeRune r ≠ [] := by
  have := encodeRuneZ_length r
  intro h
  have h2 := congrArg List.length h
  simp [enc_bytes] at h2
  rw [h2] at this
  simp at this
theorem enc_len (r : Int) : 1 ≤ (encodeRune r).length ∧ (encodeRune r).length ≤ 4 := by
  have := encodeRuneZ_length r
  simpa [enc_bytes] using this

theorem enc_not_bad (r : Int) (hr : okR r) (t : List UInt8) : ¬ ((decodeL (encodeRune r ++ t)).1 = 65533 ∧ (decodeL (encodeRune r ++ t)).2 = 1) := by
  rw [decode_encode r hr t]
  rintro ⟨h1, h2⟩
  have h1 : r.toNat = 65533 := h1
  have h2 : (encodeRune r).length = 1 := h2
  rw [enc_bytes, encodeRuneZ_three (by omega)] at h2
  simp at h2
theorem valid_enc (r : Int) (hr : okR r) (t : List UInt8) : validD (encodeRune r ++ t) = validD t := by
  rw [validD_step _ (by simp [enc_ne]), if_neg (enc_not_bad r hr t), decode_encode r hr t]
  simp
theorem runes_enc (r : Int) (hr : okR r) (t : List UInt8) : runesOf (encodeRune r ++ t) = r :: runesOf t := by
  rw [runesOf_step _ (by simp [enc_ne]), decode_encode r hr t]
  have : ((r.toNat : Nat) : Int) = r := by unfold okR at hr; omega
  simp [this]

theorem bytesOf_cons (r : Int) (ns : List Int) : bytesOf (r :: ns) = encodeRune r ++ bytesOf ns := rfl
theorem bytesOf_append (a b : List Int) : bytesOf (a ++ b) = bytesOf a ++ bytesOf b := by simp [bytesOf]
theorem valid_bytes : ∀ (ns : List Int) (t : List UInt8), (∀ r ∈ ns, okR r) → validD (bytesOf ns ++ t) = validD t
  | [], t, _ => by simp [bytesOf]
  | r :: ns, t, h => by
    rw [bytesOf_cons, List.append_assoc, valid_enc r (h r (by simp)), valid_bytes ns t (fun x hx => h x (by simp [hx]))]
theorem runes_bytes : ∀ (ns : List Int) (t : List UInt8), (∀ r ∈ ns, okR r) → runesOf (bytesOf ns ++ t) = ns ++ runesOf t
  | [], t, _ => by simp [bytesOf]
  | r :: ns, t, h => by
    rw [bytesOf_cons, List.append_assoc, runes_enc r (h r (by simp)), runes_bytes ns t (fun x hx => h x (by simp [hx]))]
    rfl
theorem valid_of (ns : List Int) (h : ∀ r ∈ ns, okR r) : validD (bytesOf ns) = true := by
  have := valid_bytes ns [] h
  rw [List.append_nil] at this
  rw [this]; exact validD_nil
theorem runes_of (ns : List Int) (h : ∀ r ∈ ns, okR r) : runesOf (bytesOf ns) = ns := by
  have := runes_bytes ns [] h
  rw [List.append_nil, runesOf_nil, List.append_nil] at this
  exact this

/-! ### cut within a rune -/
set_option maxRecDepth 100000 in
set_option maxHeartbeats 4000000 in
theorem cut_bad (r : Int) (hr : okR r) (k : Nat) (hk : 0 < k) (hk2 : k < (encodeRune r).length) : decodeL ((encodeRune r).take k) = (65533, 1) := by
  unfold okR at hr
  rw [decodeL_N]
  by_cases c1 : r ≤ 127
  · rw [enc_bytes, encodeRuneZ_one (by omega) c1] at hk2; simp at hk2; omega
  by_cases c2 : r ≤ 2047
  · rw [enc_bytes, encodeRuneZ_two (by omega) c2] at hk2 ⊢
    simp at hk2
    obtain rfl : k = 1 := by omega
    simp only [List.map_cons, List.map_nil, List.take_succ_cons, List.take_zero, List.length_cons, List.length_nil, List.getD_cons_zero, List.getD_cons_succ, List.getD_nil]
    rw [u8n _ (by omega)]
    unfold decodeN
    rw [if_neg (by omega), if_neg (by omega), if_neg (by omega), if_neg (by omega)]
  by_cases c3 : r ≤ 65535
  · rw [enc_bytes, encodeRuneZ_three (by omega)] at hk2 ⊢
    simp at hk2
    have hk3 : k = 1 ∨ k = 2 := by omega
    rcases hk3 with rfl | rfl
    · simp only [List.map_cons, List.map_nil, List.take_succ_cons, List.take_zero, List.length_cons, List.length_nil, List.getD_cons_zero, List.getD_cons_succ, List.getD_nil]
      rw [u8n _ (by omega)]
      unfold decodeN
      rw [if_neg (by omega), if_neg (by omega), if_neg (by omega), if_neg (by omega)]
    · simp only [List.map_cons, List.map_nil, List.take_succ_cons, List.take_zero, List.length_cons, List.length_nil, List.getD_cons_zero, List.getD_cons_succ, List.getD_nil]
      rw [u8n _ (by omega), u8n _ (by omega)]
      unfold decodeN
      rw [if_neg (by omega), if_neg (by omega), if_neg (by omega), if_neg (by omega)]
  · rw [enc_bytes, encodeRuneZ_four (by omega) (by omega)] at hk2 ⊢
    simp at hk2
    have hk3 : k = 1 ∨ k = 2 ∨ k = 3 := by omega
    rcases hk3 with rfl | rfl | rfl
    · simp only [List.map_cons, List.map_nil, List.take_succ_cons, List.take_zero, List.length_cons, List.length_nil, List.getD_cons_zero, List.getD_cons_succ, List.getD_nil]
      rw [u8n _ (by omega)]
      unfold decodeN
      rw [if_neg (by omega), if_neg (by omega), if_neg (by omega), if_neg (by omega)]
    · simp only [List.map_cons, List.map_nil, List.take_succ_cons, List.take_zero, List.length_cons, List.length_nil, List.getD_cons_zero, List.getD_cons_succ, List.getD_nil]
      rw [u8n _ (by omega), u8n _ (by omega)]
      unfold decodeN
      rw [if_neg (by omega), if_neg (by omega), if_neg (by omega), if_neg (by omega)]
    · simp only [List.map_cons, List.map_nil, List.take_succ_cons, List.take_zero, List.length_cons, List.length_nil, List.getD_cons_zero, List.getD_cons_succ, List.getD_nil]
      rw [u8n _ (by omega), u8n _ (by omega), u8n _ (by omega)]
      unfold decodeN
      rw [if_neg (by omega), if_neg (by omega), if_neg (by omega), if_neg (by omega)]
theorem cut_invalid (r : Int) (hr : okR r) (k : Nat) (hk : 0 < k) (hk2 : k < (encodeRune r).length) : validD ((encodeRune r).take k) = false := by
  rw [validD_step _ (by intro h; have := congrArg List.length h; simp at this; exact this.elim (fun h => by omega) (fun h => enc_ne r h)), if_pos (by rw [cut_bad r hr k hk hk2]; exact ⟨rfl, rfl⟩)]

/-! ### the order of bytes and of runes -/
/-- is a row of numbers less than another one? -/
def lexLt : List Int → List Int → Bool
  | _, [] => false
  | [], _ :: _ => true
  | x :: xs, y :: ys => if x < y then true else if y < x then false else lexLt xs ys
def bLt : List UInt8 → List UInt8 → Bool
  | _, [] => false
  | [], _ :: _ => true
  | x :: xs, y :: ys => if x.toNat < y.toNat then true else if y.toNat < x.toNat then false else bLt xs ys
theorem bLt_same (p s t : List UInt8) : bLt (p ++ s) (p ++ t) = bLt s t := by
  induction p with
  | nil => rfl
  | cons x p ih => simp [bLt, ih]
set_option maxRecDepth 100000 in
set_option maxHeartbeats 8000000 in
theorem enc_lt (x y : Int) (hx : okR x) (hy : okR y) (h : x < y) (s t : List UInt8) : bLt (encodeRune x ++ s) (encodeRune y ++ t) = true ∧ bLt (encodeRune y ++ t) (encodeRune x ++ s) = false := by
  unfold okR at hx hy
  have fx : (0 ≤ x ∧ x ≤ 127 ∧ encodeRuneZ x = [x]) ∨ (128 ≤ x ∧ x ≤ 2047 ∧ encodeRuneZ x = [192 + x / 64, 128 + x % 64]) ∨ (2048 ≤ x ∧ x ≤ 65535 ∧ encodeRuneZ x = [224 + x / 4096, 128 + x / 64 % 64, 128 + x % 64]) ∨ (65536 ≤ x ∧ x ≤ 1114111 ∧ encodeRuneZ x = [240 + x / 262144, 128 + x / 4096 % 64, 128 + x / 64 % 64, 128 + x % 64]) := by
    by_cases c1 : x ≤ 127
    · exact .inl ⟨by omega, c1, encodeRuneZ_one (by omega) c1⟩
    by_cases c2 : x ≤ 2047
    · exact .inr (.inl ⟨by omega, c2, encodeRuneZ_two (by omega) c2⟩)
    by_cases c3 : x ≤ 65535
    · exact .inr (.inr (.inl ⟨by omega, c3, encodeRuneZ_three (by omega)⟩))
    · exact .inr (.inr (.inr ⟨by omega, by omega, encodeRuneZ_four (by omega) (by omega)⟩))
  have fy : (0 ≤ y ∧ y ≤ 127 ∧ encodeRuneZ y = [y]) ∨ (128 ≤ y ∧ y ≤ 2047 ∧ encodeRuneZ y = [192 + y / 64, 128 + y % 64]) ∨ (2048 ≤ y ∧ y ≤ 65535 ∧ encodeRuneZ y = [224 + y / 4096, 128 + y / 64 % 64, 128 + y % 64]) ∨ (65536 ≤ y ∧ y ≤ 1114111 ∧ encodeRuneZ y = [240 + y / 262144, 128 + y / 4096 % 64, 128 + y / 64 % 64, 128 + y % 64]) := by
    by_cases c1 : y ≤ 127
    · exact .inl ⟨by omega, c1, encodeRuneZ_one (by omega) c1⟩
    by_cases c2 : y ≤ 2047
    · exact .inr (.inl ⟨by omega, c2, encodeRuneZ_two (by omega) c2⟩)
    by_cases c3 : y ≤ 65535
    · exact .inr (.inr (.inl ⟨by omega, c3, encodeRuneZ_three (by omega)⟩))
    · exact .inr (.inr (.inr ⟨by omega, by omega, encodeRuneZ_four (by omega) (by omega)⟩))
  rcases fx with ⟨a1, a2, e1⟩ | ⟨a1, a2, e1⟩ | ⟨a1, a2, e1⟩ | ⟨a1, a2, e1⟩ <;> rcases fy with ⟨b1, b2, e2⟩ | ⟨b1, b2, e2⟩ | ⟨b1, b2, e2⟩ | ⟨b1, b2, e2⟩ <;> rw [enc_bytes, enc_bytes, e1, e2] <;> simp only [List.map_cons, List.map_nil, List.cons_append, List.nil_append, bLt] <;> (repeat rw [u8n _ (by omega)]) <;> constructor <;> (repeat' split) <;> first | rfl | (exfalso; omega)

theorem bLt_enc_pos (y : Int) (s : List UInt8) : bLt [] (encodeRune y ++ s) = true ∧ bLt (encodeRune y ++ s) [] = false := by
  obtain ⟨b, c, h⟩ : ∃ b c, encodeRune y = b :: c := by
    cases h : encodeRune y with
    | nil => exact absurd h (enc_ne y)
    | cons b c => exact ⟨b, c, rfl⟩
  rw [h]
  exact ⟨rfl, rfl⟩
/-- Bytes keep the order of runes. -/
theorem order_kept : ∀ (a b : List Int), (∀ r ∈ a, okR r) → (∀ r ∈ b, okR r) → bLt (bytesOf a) (bytesOf b) = lexLt a b
  | [], [], _, _ => rfl
  | [], y :: b, _, _ => by rw [bytesOf_cons]; exact (bLt_enc_pos y _).1
  | x :: a, [], _, _ => by rw [bytesOf_cons]; exact (bLt_enc_pos x _).2
  | x :: a, y :: b, ha, hb => by
    rw [bytesOf_cons, bytesOf_cons]
    unfold lexLt
    by_cases h1 : x < y
    · rw [if_pos h1]; exact (enc_lt x y (ha x (by simp)) (hb y (by simp)) h1 _ _).1
    · by_cases h2 : y < x
      · rw [if_neg h1, if_pos h2]; exact (enc_lt y x (hb y (by simp)) (ha x (by simp)) h2 _ _).2
      · obtain rfl : x = y := by omega
        rw [if_neg h1, if_neg h2, bLt_same]
        exact order_kept a b (fun r hr => ha r (by simp [hr])) (fun r hr => hb r (by simp [hr]))
end Go.Proofs.YtdmahdgcfaieoaaDoorW.Utf

/- SealKinds, the plain law over the printed functions: frames of any kinds, one behind another: all are told, each with its kind ahead; the sum is by the kind, too. No condition. -/
import Derived.Test.YtkolcgofhjbebaaPSealKindsy
import Derived.Test.YtkolcgofhjbebaaWBits
namespace Go.Proofs.Ytkolcgofhjbebaa.Pure
set_option linter.unusedVariables false
set_option linter.unusedSimpArgs false
open Go.RowKit Go.Proofs.Ytkolcgofhjbebaa.PSealKinds Go.Proofs.YtkolcgofhjbebaaW.PrintWords Go.Proofs.YtkolcgofhjbebaaW.PrintLast Go.Proofs.YtkolcgofhjbebaaW.PrintMore Go.Proofs.YtkolcgofhjbebaaW.PrintBits

theorem wr (x : Int) (h0 : -9223372036854775808 ≤ x) (h1 : x ≤ 9223372036854775807) : wrap64 x = x := by
  unfold wrap64; omega
/-- One byte more in a sum's two halves. -/
def upd (p : Int × Int) (x : Int) : Int × Int := ((p.1 + x) % 65521, (p.2 + (p.1 + x) % 65521) % 65521)
def ck (p : Int × Int) (l : List Int) : Int × Int := l.foldl upd p
def Half (p : Int × Int) : Prop := 0 ≤ p.1 ∧ p.1 < 65521 ∧ 0 ≤ p.2 ∧ p.2 < 65521
def Bytes (l : List Int) : Prop := ∀ x ∈ l, 0 ≤ x ∧ x < 256
theorem upd_half (p : Int × Int) (x : Int) : Half (upd p x) := by
  unfold Half upd; simp only; omega
theorem ck_half (l : List Int) : ∀ p, Half p → Half (ck p l) := by
  induction l with
  | nil => intro p h; exact h
  | cons x l ih => intro p _; exact ih _ (upd_half p x)
theorem half10 : Half (1, 0) := by unfold Half; simp
theorem ck_append (p : Int × Int) (l m : List Int) : ck p (l ++ m) = ck (ck p l) m := by unfold ck; rw [List.foldl_append]
/-- The sum of bytes. -/
def S (l : List Int) : Int := (ck (1, 0) l).2 * 65536 + (ck (1, 0) l).1
theorem S_bd (l : List Int) : 0 ≤ S l ∧ S l < 4294967296 := by
  have h := ck_half l (1, 0) half10
  unfold Half at h; unfold S; omega
theorem or16 (p : Int × Int) (h : Half p) : Go.bits .or .u32 ((p.2 * 65536) % 4294967296) p.1 = p.2 * 65536 + p.1 := by
  unfold Half at h
  have e : (p.2 * 65536) % 4294967296 = p.2 * 2 ^ 16 := by
    rw [show ((2 : Int) ^ 16) = 65536 by decide]; omega
  rw [e, u32_or_add p.2 p.1 16 (by omega) (by omega) (by rw [show ((2 : Int) ^ 16) = 65536 by decide]; omega) (by rw [show ((2 : Int) ^ 16) = 65536 by decide]; omega)]
  rw [show ((2 : Int) ^ 16) = 65536 by decide]
theorem rd_at (l : List Int) (i : Nat) (h : i < l.length) : rd l (i : Int) = l[i] := by
  unfold rd; simp [List.getD, h]
theorem drop_at (l : List Int) (i : Nat) (h : i < l.length) : l.drop i = l[i] :: l.drop (i + 1) := (List.drop_eq_getElem_cons h)

theorem more_eq (l : List Int) (hl : Bytes l) (hn : l.length ≤ 140737488351232) (d : Nat) : ∀ (k i : Nat) (p : Int × Int), i ≤ l.length → l.length - i = d → d < k → Half p →
    seal_more.l0 k p.1 p.2 l (l.length : Int) (i : Int) = some ((ck p (l.drop i)).1, (ck p (l.drop i)).2) := by
  induction d with
  | zero =>
    intro k i p hi hd hk hp
    obtain ⟨k, rfl⟩ : ∃ j, k = j + 1 := ⟨k - 1, by omega⟩
    simp only [seal_more.l0]
    rw [if_neg (by omega), List.drop_eq_nil_of_le (by omega)]
    rfl
  | succ d ih =>
    intro k i p hi hd hk hp
    obtain ⟨k, rfl⟩ : ∃ j, k = j + 1 := ⟨k - 1, by omega⟩
    have hlt : i < l.length := by omega
    simp only [seal_more.l0]
    rw [if_pos (by omega), if_pos (by omega), if_pos (by omega), rd_at l i hlt, drop_at l i hlt]
    have hb := hl l[i] (List.getElem_mem hlt)
    unfold Half at hp
    have e1 : ((p.1 + (l[i] % 4294967296)) % 4294967296) % 65521 = (upd p l[i]).1 := by unfold upd; simp only; omega
    have e2 : ((p.2 + (((p.1 + (l[i] % 4294967296)) % 4294967296) % 65521)) % 4294967296) % 65521 = (upd p l[i]).2 := by rw [e1]; unfold upd; simp only; omega
    rw [e2, e1, wr _ (by omega) (by omega)]
    have := ih k (i + 1) (upd p l[i]) (by omega) (by omega) (by omega) (upd_half _ _)
    rw [show ((i + 1 : Nat) : Int) = (i : Int) + 1 by omega] at this
    rw [this]
    rfl
theorem more_f (l : List Int) (hl : Bytes l) (hn : l.length ≤ 140737488351232) (k : Nat) (p : Int × Int) (hk : l.length < k) (hp : Half p) : seal_more.f k p.1 p.2 l = some ((ck p l).1, (ck p l).2) := by
  unfold seal_more.f
  have := more_eq l hl hn l.length k 0 p (by omega) (by omega) (by omega) hp
  simpa using this
theorem sum_f (h l : List Int) (hh : Bytes h) (hl : Bytes l) (hhn : h.length ≤ 140737488351232) (hn : l.length ≤ 140737488351232) (k : Nat) (hk : h.length < k) (hk' : l.length < k) : seal_sum.f k h l = some (S (h ++ l)) := by
  unfold seal_sum.f
  refine bindE (more_f h hh hhn k (1, 0) hk half10) (bindE (more_f l hl hn k (ck (1, 0) h) hk' (ck_half h _ half10)) ?_)
  show some (Go.bits .or .u32 (((ck (ck (1, 0) h) l).2 * 65536) % 4294967296) (ck (ck (1, 0) h) l).1) = _
  rw [or16 _ (ck_half l _ (ck_half h _ half10))]
  unfold S
  rw [ck_append]
/-- A frame's head, its sum's bytes, a frame. -/
def head3 (kind : Int) (l : List Int) : List Int := [(l.length : Int) / 256 % 256, (l.length : Int) % 256, kind]
def four (s : Int) : List Int := [s / 16777216 % 256, s / 65536 % 256, s / 256 % 256, s % 256]
def frame (kind : Int) (l : List Int) : List Int := head3 kind l ++ four (S (head3 kind l ++ l)) ++ l
theorem head3_bytes (kind : Int) (l : List Int) (h0 : 0 ≤ kind) (h1 : kind < 256) : Bytes (head3 kind l) := by
  intro x hx
  simp only [head3, List.mem_cons, List.not_mem_nil, or_false] at hx
  rcases hx with rfl | rfl | rfl <;> omega
theorem four_bytes (s : Int) : Bytes (four s) := by
  intro x hx
  simp only [four, List.mem_cons, List.not_mem_nil, or_false] at hx
  rcases hx with rfl | rfl | rfl | rfl <;> omega
theorem frame_len (kind : Int) (l : List Int) : (frame kind l).length = 7 + l.length := by simp [frame, head3, four]; omega
theorem Frame_ok (kind : Int) (l : List Int) (h0 : 0 ≤ kind) (h1 : kind < 256) (hl : Bytes l) (hn : l.length ≤ 32768) (k : Nat) (hk : l.length + 3 < k) : seal_Frame.f k kind l = some (frame kind l, 0) := by
  unfold seal_Frame.f
  refine iteF (by omega) (bindE rfl (bindE (sum_f (head3 kind l) l (head3_bytes kind l h0 h1) hl (by simp [head3]) (by omega) k (by simp [head3]; omega) (by omega)) (bindE rfl (iteT (by simp) (bindE rfl (iteT (by simp; omega) ?_))))))
  rfl
theorem Frame_long (kind : Int) (l : List Int) (hn : ¬ l.length ≤ 32768) (k : Nat) : seal_Frame.f k kind l = some ([], 3) := by
  unfold seal_Frame.f
  exact iteT (by omega) rfl
theorem rd_nat (l : List Int) (i : Nat) (h : i < l.length) : rd l i = l[i] := rd_at l i h

theorem four_or (s : Int) (h0 : 0 ≤ s) (h1 : s < 4294967296) :
    Go.bits .or .u32 (Go.bits .or .u32 (Go.bits .or .u32 (((s / 16777216 % 256 % 4294967296) * 16777216) % 4294967296) (((s / 65536 % 256 % 4294967296) * 65536) % 4294967296)) (((s / 256 % 256 % 4294967296) * 256) % 4294967296)) (s % 256 % 4294967296) = s := by
  have p24 : ((2 : Int) ^ 24) = 16777216 := by decide
  have p16 : ((2 : Int) ^ 16) = 65536 := by decide
  have p8 : ((2 : Int) ^ 8) = 256 := by decide
  have e1 : ((s / 16777216 % 256 % 4294967296) * 16777216) % 4294967296 = (s / 16777216) * 2 ^ 24 := by rw [p24]; omega
  have e2 : ((s / 65536 % 256 % 4294967296) * 65536) % 4294967296 = (s / 65536 % 256) * 65536 := by omega
  have e3 : ((s / 256 % 256 % 4294967296) * 256) % 4294967296 = (s / 256 % 256) * 256 := by omega
  have e4 : s % 256 % 4294967296 = s % 256 := by omega
  rw [e1, e2, e3, e4, u32_or_add _ _ 24 (by omega) (by omega) (by rw [p24]; omega) (by rw [p24]; omega), p24,
    show s / 16777216 * 16777216 + s / 65536 % 256 * 65536 = (s / 65536) * 2 ^ 16 by rw [p16]; omega,
    u32_or_add _ _ 16 (by omega) (by omega) (by rw [p16]; omega) (by rw [p16]; omega), p16,
    show s / 65536 * 65536 + s / 256 % 256 * 256 = (s / 256) * 2 ^ 8 by rw [p8]; omega,
    u32_or_add _ _ 8 (by omega) (by omega) (by rw [p8]; omega) (by rw [p8]; omega), p8]
  omega
theorem len_or (n : Int) (h0 : 0 ≤ n) (h1 : n ≤ 32768) : Go.bits .or .i64 (wrap64 ((wrap64 (n / 256 % 256)) * 256)) (wrap64 (n % 256)) = n := by
  have p8 : ((2 : Int) ^ 8) = 256 := by decide
  rw [wr (n / 256 % 256) (by omega) (by omega), wr (n % 256) (by omega) (by omega), wr _ (by omega) (by omega), show n / 256 % 256 * 256 = (n / 256) * 2 ^ 8 by rw [p8]; omega,
    i64_or_add _ _ 8 (by omega) (by omega) (by rw [p8]; omega) (by rw [p8]; omega), p8]
  omega

/-- What a frame's bytes, with whatever sum, open to, whatever stands behind them. -/
theorem Open_any (kind : Int) (s : Int) (l m : List Int) (h0 : 0 ≤ kind) (h1 : kind < 256) (hs0 : 0 ≤ s) (hs1 : s < 4294967296) (hl : Bytes l) (hn : l.length ≤ 32768) (hm : m.length ≤ 140737488000000) (k : Nat) (hk : l.length + 3 < k) :
    seal_Open.f k (head3 kind l ++ four s ++ l ++ m) = if S (head3 kind l ++ l) = s then some (kind, l, 7 + (l.length : Int), 0) else some (0, [], 0, 6) := by
  have hlen : (head3 kind l ++ four s ++ l ++ m).length = 7 + l.length + m.length := by simp [head3, four]; omega
  have r0 : rd (head3 kind l ++ four s ++ l ++ m) 0 = (l.length : Int) / 256 % 256 := rfl
  have r1 : rd (head3 kind l ++ four s ++ l ++ m) 1 = (l.length : Int) % 256 := rfl
  have r2 : rd (head3 kind l ++ four s ++ l ++ m) 2 = kind := rfl
  have r3 : rd (head3 kind l ++ four s ++ l ++ m) 3 = s / 16777216 % 256 := rfl
  have r4 : rd (head3 kind l ++ four s ++ l ++ m) 4 = s / 65536 % 256 := rfl
  have r5 : rd (head3 kind l ++ four s ++ l ++ m) 5 = s / 256 % 256 := rfl
  have r6 : rd (head3 kind l ++ four s ++ l ++ m) 6 = s % 256 := rfl
  have t3 : (head3 kind l ++ four s ++ l ++ m).take 3 = head3 kind l := rfl
  have tl : ((head3 kind l ++ four s ++ l ++ m).take (7 + l.length)).drop 7 = l := by
    have e : head3 kind l ++ four s ++ l ++ m = (head3 kind l ++ four s) ++ (l ++ m) := by simp
    have e7 : (head3 kind l ++ four s).length = 7 := rfl
    rw [e, List.take_append, e7, List.take_of_length_le (by rw [e7]; omega), show 7 + l.length - 7 = l.length by omega, List.take_left' rfl, List.drop_append, e7]
    simp
    exact Nat.le_refl 7
  unfold seal_Open.f
  rw [hlen, r0, r1, r2, r3, r4, r5, r6, len_or _ (by omega) (by omega), wr (7 + (l.length : Int)) (by omega) (by omega), show (7 + (l.length : Int)).toNat = 7 + l.length by omega, tl, four_or _ hs0 hs1]
  have t3' : List.take (3 : Int).toNat (head3 kind l ++ four s ++ l ++ m) = head3 kind l := t3
  refine iteF (by omega) (iteT (by omega) (iteT (by omega) (iteF (by omega) (iteF (by omega) (iteT (by omega) (iteT (by omega) (iteT ?_ (bindE rfl (iteT (by omega) (bindE (a := S (head3 kind l ++ l)) ?_ (iteT (by omega) (iteT (by omega) (iteT (by omega) (iteT (by omega) ?_))))))))))))))
  · simp; omega
  · first | rw [t3] | rw [t3'] | skip
    exact sum_f (head3 kind l) l (head3_bytes kind l h0 h1) hl (by simp [head3]) (by omega) k (by simp [head3]; omega) (by omega)
  · by_cases c : S (head3 kind l ++ l) = s
    · rw [if_pos c, if_pos c]
      exact iteT (by omega) (by simp)
    · rw [if_neg c, if_neg c]
theorem Open_frame (kind : Int) (l m : List Int) (h0 : 0 ≤ kind) (h1 : kind < 256) (hl : Bytes l) (hn : l.length ≤ 32768) (hm : m.length ≤ 140737488000000) (k : Nat) (hk : l.length + 3 < k) :
    seal_Open.f k (frame kind l ++ m) = some (kind, l, 7 + (l.length : Int), 0) := by
  have hS := S_bd (head3 kind l ++ l)
  have := Open_any kind (S (head3 kind l ++ l)) l m h0 h1 hS.1 hS.2 hl hn hm k hk
  rw [if_pos rfl] at this
  exact this
theorem Open_nil (k : Nat) : seal_Open.f k [] = some (0, [], 0, 7) := by
  unfold seal_Open.f
  exact iteT (by simp) rfl
theorem awake_eq (k : Nat) (hk : 3 < k) : gazetteerlaw8_awake.f k = some true := by
  unfold gazetteerlaw8_awake.f
  have nb : Bytes [] := fun x hx => by cases hx
  refine bindE (Frame_ok 1 [] (by omega) (by omega) nb (by simp) k (by simpa using hk)) (bindE (a := (1, [], 7, 0)) ?_ ?_)
  · have := Open_frame 1 [] [] (by omega) (by omega) nb (by simp) (by simp) k (by simpa using hk)
    simpa using this
  · refine iteT rfl (iteT rfl (iteT (by simp [frame_len]) (iteT rfl (iteT rfl (iteT rfl (iteT (by simp [frame_len]) ?_))))))
    rfl
/-- The lower half of a sum. -/
theorem ck_one (l : List Int) : ∀ p : Int × Int, 0 ≤ p.1 → p.1 < 65521 → (ck p l).1 = (p.1 + l.sum) % 65521 := by
  induction l with
  | nil => intro p h0 h1; simp only [List.sum_nil]; unfold ck; simp only [List.foldl_nil]; omega
  | cons x l ih =>
    intro p h0 h1
    have := ih (upd p x) (by unfold upd; simp only; omega) (by unfold upd; simp only; omega)
    have e : ck p (x :: l) = ck (upd p x) l := rfl
    rw [e, this, List.sum_cons]
    unfold upd
    simp only
    omega
theorem S_mod (l : List Int) : S l % 65536 = (1 + l.sum) % 65521 := by
  have h := ck_half l (1, 0) half10
  have e := ck_one l (1, 0) (by simp) (by simp)
  unfold Half at h
  unfold S
  simp only at e
  omega
def frames (ks data : List Int) : List Int := (ks.map fun kd => frame kd data).flatten
theorem frames_cons (kd : Int) (ks data : List Int) : frames (kd :: ks) data = frame kd data ++ frames ks data := rfl
theorem frames_snoc (ks : List Int) (kd : Int) (data : List Int) : frames (ks ++ [kd]) data = frames ks data ++ frame kd data := by simp [frames]
theorem frames_len (ks data : List Int) : (frames ks data).length = ks.length * (7 + data.length) := by
  induction ks with
  | nil => simp [frames]
  | cons kd ks ih => rw [frames_cons, List.length_append, frame_len, ih, List.length_cons, Nat.add_mul]; omega

theorem All_eq (data : List Int) (hd : Bytes data) (hn : data.length ≤ 100) (ks : List Int) : ∀ (pre : List Int) (acc : List (List Int)) (k : Nat), Bytes ks → pre.length + ks.length * 107 ≤ 10000 → acc.length + ks.length ≤ 100 → ks.length + data.length + 10 < k →
    seal_All.l0 k (pre ++ frames ks data) acc (pre.length : Int) = some (acc ++ ks.map (fun kd => kd :: data), ((pre ++ frames ks data).length : Int)) := by
  induction ks with
  | nil =>
    intro pre acc k _ hp ha hk
    obtain ⟨k, rfl⟩ : ∃ j, k = j + 1 := ⟨k - 1, by omega⟩
    simp only [seal_All.l0]
    have e : frames [] data = [] := rfl
    rw [e, List.append_nil]
    refine iteT (by omega) (iteT (by omega) (bindE (a := (0, [], 0, 7)) ?_ (iteF (by decide) ?_)))
    · rw [show ((pre.length : Int)).toNat = pre.length by omega, List.drop_length]
      exact Open_nil k
    · simp
  | cons kd ks ih =>
    intro pre acc k hb hp ha hk
    obtain ⟨k, rfl⟩ : ∃ j, k = j + 1 := ⟨k - 1, by omega⟩
    have hkd := hb kd List.mem_cons_self
    simp only [List.length_cons] at hp ha hk
    have hfl : (frames ks data).length ≤ 10000 := by
      rw [frames_len]
      exact Nat.le_trans (Nat.mul_le_mul_left _ (show 7 + data.length ≤ 107 by omega)) (by omega)
    simp only [seal_All.l0]
    refine iteT (by omega) (iteT (by simp; omega) (bindE (a := (kd, data, 7 + (data.length : Int), 0)) ?_ (iteT (by trivial) (bindE rfl (iteT (by simp; omega) (iteT (by omega) ?_))))))
    · rw [show ((pre.length : Int)).toNat = pre.length by omega, List.drop_left', frames_cons]
      · exact Open_frame kd data (frames ks data) (by omega) (by omega) hd (by omega) (by omega) k (by omega)
      · rfl
    · have := ih (pre ++ frame kd data) (acc ++ [kd :: data]) k (fun x hx => hb x (List.mem_cons_of_mem _ hx)) (by rw [List.length_append, frame_len]; omega) (by simp; omega) (by omega)
      rw [List.append_assoc, ← frames_cons] at this
      rw [List.length_append, frame_len] at this
      simp only []
      rw [wr _ (by omega) (by omega), show (pre.length : Int) + (7 + (data.length : Int)) = ((pre.length + (7 + data.length) : Nat) : Int) by omega]
      have e : [kd] ++ data = kd :: data := rfl
      rw [e, this]
      simp

theorem last_eq (kd : Int) (ks data : List Int) (hkd : 0 ≤ kd ∧ kd < 256) (hd : Bytes data) (hn : data.length ≤ 100) (hks : ks.length ≤ 40) (k : Nat) (hk : data.length + 3 < k) :
    seal_Open.f k ((frames (kd :: ks) data).set 2 ((kd + 1) % 256)) = some (0, [], 0, 6) := by
  have hfl : (frames ks data).length ≤ 10000 := by
    rw [frames_len]
    exact Nat.le_trans (Nat.mul_le_mul hks (show 7 + data.length ≤ 107 by omega)) (by omega)
  have hS := S_bd (head3 kd data ++ data)
  have e : (frames (kd :: ks) data).set 2 ((kd + 1) % 256) = head3 ((kd + 1) % 256) data ++ four (S (head3 kd data ++ data)) ++ data ++ frames ks data := rfl
  rw [e, Open_any _ _ data (frames ks data) (by omega) (by omega) hS.1 hS.2 hd (by omega) (by omega) k hk]
  rw [if_neg]
  intro h
  have h1 := S_mod (head3 ((kd + 1) % 256) data ++ data)
  have h2 := S_mod (head3 kd data ++ data)
  rw [h, h2] at h1
  rw [List.sum_append, List.sum_append] at h1
  simp only [head3, List.sum_cons, List.sum_nil] at h1
  omega

theorem l1_eq (ks data : List Int) (hks : ks.length ≤ 40) (hb : Bytes ks) (hd : Bytes data) (hn : data.length ≤ 100) (d : Nat) : ∀ (k i : Nat), i ≤ ks.length → ks.length - i = d → d + data.length + 10 < k →
    gazetteerlaw8_SealKinds.l1 k ks data (frames ks data) (ks.map fun kd => kd :: data) (i : Int) = some true := by
  induction d with
  | zero =>
    intro k i hi hd' hk
    obtain ⟨k, rfl⟩ : ∃ j, k = j + 1 := ⟨k - 1, by omega⟩
    simp only [gazetteerlaw8_SealKinds.l1]
    refine iteF (by simp; omega) ?_
    cases ks with
    | nil => exact iteT (by trivial) rfl
    | cons kd ks =>
      have hl : (frames (kd :: ks) data).length = 7 + data.length + (frames ks data).length := by rw [frames_cons, List.length_append, frame_len]
      have hkd := hb kd List.mem_cons_self
      simp only [List.length_cons] at hks
      refine iteF (by omega) (iteT (by omega) (bindE (a := (0, [], 0, 6)) ?_ rfl))
      exact last_eq kd ks data hkd hd hn (by omega) k (by omega)
  | succ d ih =>
    intro k i hi hd' hk
    obtain ⟨k, rfl⟩ : ∃ j, k = j + 1 := ⟨k - 1, by omega⟩
    have hlt : i < ks.length := by omega
    have r : rd_L1 (ks.map fun kd => kd :: data) (i : Int) = ks[i] :: data := by
      unfold rd_L1
      simp [List.getD, hlt]
    simp only [gazetteerlaw8_SealKinds.l1]
    rw [r, rd_at ks i hlt]
    refine iteT (by simp; omega) (iteT (by omega) (iteT ?_ (iteT (by simp) (iteT (by omega) (iteT (by trivial) (iteT (by simp; omega) (iteT (by trivial) ?_)))))))
    · rw [wr _ (by omega) (by omega)]; simp; omega
    · have := ih k (i + 1) (by omega) (by omega) (by omega)
      rw [wr _ (by omega) (by omega)]
      rw [show ((i + 1 : Nat) : Int) = (i : Int) + 1 by omega] at this
      exact this

theorem l0_eq (ks data : List Int) (hks : ks.length ≤ 40) (hb : Bytes ks) (hd : Bytes data) (hn : data.length ≤ 100) (d : Nat) : ∀ (k i : Nat), i ≤ ks.length → ks.length - i = d → d + ks.length + data.length + 30 < k →
    gazetteerlaw8_SealKinds.l0 k ks data (frames (ks.take i) data) (i : Int) = some true := by
  induction d with
  | zero =>
    intro k i hi hd' hk
    obtain ⟨k, rfl⟩ : ∃ j, k = j + 1 := ⟨k - 1, by omega⟩
    simp only [gazetteerlaw8_SealKinds.l0]
    have e : ks.take i = ks := List.take_of_length_le (by omega)
    rw [e]
    have hall := All_eq data hd hn ks [] [] k hb (by simp; omega) (by simp; omega) (by omega)
    refine iteF (by omega) (bindE (a := (ks.map (fun kd => kd :: data), ((frames ks data).length : Int))) ?_ (iteT (by simp) ?_))
    · unfold seal_All.f
      simpa using hall
    · obtain ⟨k, rfl⟩ : ∃ j, k = j + 1 := ⟨k - 1, by omega⟩
      simp only [gazetteerlaw8_SealKinds.j2]
      exact iteF (by simp) (l1_eq ks data hks hb hd hn ks.length k 0 (by omega) (by omega) (by omega))
  | succ d ih =>
    intro k i hi hd' hk
    obtain ⟨k, rfl⟩ : ∃ j, k = j + 1 := ⟨k - 1, by omega⟩
    have hlt : i < ks.length := by omega
    have hkd := hb ks[i] (List.getElem_mem hlt)
    have hfl : (frames (ks.take i) data).length ≤ 10000 := by
      rw [frames_len]
      exact Nat.le_trans (Nat.mul_le_mul (show (ks.take i).length ≤ 40 by rw [List.length_take]; omega) (show 7 + data.length ≤ 107 by omega)) (by omega)
    simp only [gazetteerlaw8_SealKinds.l0]
    rw [rd_at ks i hlt]
    refine iteT (by omega) (iteT (by omega) (bindE (Frame_ok ks[i] data (by omega) (by omega) hd (by omega) k (by omega)) (iteT (by trivial) (iteT ?_ ?_))))
    · simp only [frame_len]; omega
    · have := ih k (i + 1) (by omega) (by omega) (by omega)
      rw [List.take_succ_eq_append_getElem hlt, frames_snoc, show ((i + 1 : Nat) : Int) = (i : Int) + 1 by omega] at this
      rw [wr _ (by omega) (by omega)]
      exact this

theorem SealKinds : gazetteerlaw8_SealKinds.Pure := by
  intro ks data w1 w2
  have by_ : ∀ l : List Int, (∀ y ∈ l, (Lit.int .u8 y).wf = true) → Bytes l := fun l h x hx => by
    have := h x hx
    have : 0 ≤ x ∧ x ≤ 255 := by simpa [Lit.wf, IntKind.min, IntKind.max, IntKind.signed, IntKind.bits] using this
    omega
  have hb := by_ ks w1.2.2
  have hd := by_ data w2.2.2
  obtain ⟨k, hk⟩ : ∃ k : Nat, k = 2 * ks.length + data.length + 100 := ⟨_, rfl⟩
  refine ⟨k + 2, ?_⟩
  unfold gazetteerlaw8_SealKinds.f
  refine bindE (awake_eq _ (by omega)) (iteT (by trivial) ?_)
  have triv : gazetteerlaw8_SealKinds.j0 (k + 2) ks data true = some true := by
    simp only [gazetteerlaw8_SealKinds.j0]
    exact iteT (by trivial) rfl
  by_cases c1 : (ks.length : Int) > 40
  · exact iteT c1 triv
  · refine iteF c1 ?_
    by_cases c2 : (data.length : Int) > 100
    · rw [decide_eq_true c2]; exact triv
    · rw [decide_eq_false c2]
      simp only [gazetteerlaw8_SealKinds.j0]
      refine iteF (by simp) ?_
      exact l0_eq ks data (by omega) hb hd (by omega) ks.length _ 0 (by omega) (by omega) (by omega)

end Go.Proofs.Ytkolcgofhjbebaa.Pure

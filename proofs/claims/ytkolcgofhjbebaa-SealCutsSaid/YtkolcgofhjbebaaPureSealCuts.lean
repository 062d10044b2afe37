/- SealCuts, the plain law over the printed functions: a row of frames cut anywhere opens as far as it is whole; a frame of which one byte of its data is turned does not open. No condition. -/
import Derived.Test.YtkolcgofhjbebaaPSealCutsy
import Derived.Test.YtkolcgofhjbebaaWBits
namespace Go.Proofs.Ytkolcgofhjbebaa.Pure
set_option linter.unusedVariables false
set_option linter.unusedSimpArgs false
open Go.RowKit Go.Proofs.Ytkolcgofhjbebaa.PSealCuts Go.Proofs.YtkolcgofhjbebaaW.PrintWords Go.Proofs.YtkolcgofhjbebaaW.PrintLast Go.Proofs.YtkolcgofhjbebaaW.PrintMore Go.Proofs.YtkolcgofhjbebaaW.PrintBits

theorem wr (x : Int) (h0 : -9223372036854775808 ≤ x) (h1 : x ≤ 9223372036854775807) : wrap64 x = x := by
  unfold wrap64; omega
/-- One byte more in a sum's two halves. -/
def upd (p : Int × Int) (x : Int) : Int × Int := ((p.1 + x) % 65521, (p.2 + (p.1 + x) % 65521) % 65521)
def ck (p : Int × Int) (l : List Int) : Int × Int := l.foldl upd p
def Half (p : Int × Int) : Prop := 0 ≤ p.1 ∧ p.1 < 65521 ∧ 0 ≤ p.2 ∧ p.2 < 65521
def Bytes (l : List Int) : Prop := ∀ x ∈ l, 0 ≤ x ∧ x < 256
theorem upd_half (p : Int × Int) (x : Int) : Half (upd p x) := by
  unfold Half upd; simp only; omega
theorem ck_half (l : List Int) : ∀ p, Half p → Half (ck p l) := by
  induction l with
  | nil => intro p h; exact h
  | cons x l ih => intro p _; exact ih _ (upd_half p x)
theorem half10 : Half (1, 0) := by unfold Half; simp
theorem ck_append (p : Int × Int) (l m : List Int) : ck p (l ++ m) = ck (ck p l) m := by unfold ck; rw [List.foldl_append]
/-- The sum of bytes. -/
def S (l : List Int) : Int := (ck (1, 0) l).2 * 65536 + (ck (1, 0) l).1
theorem S_bd (l : List Int) : 0 ≤ S l ∧ S l < 4294967296 := by
  have h := ck_half l (1, 0) half10
  unfold Half at h; unfold S; omega
theorem or16 (p : Int × Int) (h : Half p) : Go.bits .or .u32 ((p.2 * 65536) % 4294967296) p.1 = p.2 * 65536 + p.1 := by
  unfold Half at h
  have e : (p.2 * 65536) % 4294967296 = p.2 * 2 ^ 16 := by
    rw [show ((2 : Int) ^ 16) = 65536 by decide]; omega
  rw [e, u32_or_add p.2 p.1 16 (by omega) (by omega) (by rw [show ((2 : Int) ^ 16) = 65536 by decide]; omega) (by rw [show ((2 : Int) ^ 16) = 65536 by decide]; omega)]
  rw [show ((2 : Int) ^ 16) = 65536 by decide]
theorem rd_at (l : List Int) (i : Nat) (h : i < l.length) : rd l (i : Int) = l[i] := by
  unfold rd; simp [List.getD, h]
theorem drop_at (l : List Int) (i : Nat) (h : i < l.length) : l.drop i = l[i] :: l.drop (i + 1) := (List.drop_eq_getElem_cons h)

theorem more_eq (l : List Int) (hl : Bytes l) (hn : l.length ≤ 140737488351232) (d : Nat) : ∀ (k i : Nat) (p : Int × Int), i ≤ l.length → l.length - i = d → d < k → Half p →
    seal_more.l0 k p.1 p.2 l (l.length : Int) (i : Int) = some ((ck p (l.drop i)).1, (ck p (l.drop i)).2) := by
  induction d with
  | zero =>
    intro k i p hi hd hk hp
    obtain ⟨k, rfl⟩ : ∃ j, k = j + 1 := ⟨k - 1, by omega⟩
    simp only [seal_more.l0]
    rw [if_neg (by omega), List.drop_eq_nil_of_le (by omega)]
    rfl
  | succ d ih =>
    intro k i p hi hd hk hp
    obtain ⟨k, rfl⟩ : ∃ j, k = j + 1 := ⟨k - 1, by omega⟩
    have hlt : i < l.length := by omega
    simp only [seal_more.l0]
    rw [if_pos (by omega), if_pos (by omega), if_pos (by omega), rd_at l i hlt, drop_at l i hlt]
    have hb := hl l[i] (List.getElem_mem hlt)
    unfold Half at hp
    have e1 : ((p.1 + (l[i] % 4294967296)) % 4294967296) % 65521 = (upd p l[i]).1 := by unfold upd; simp only; omega
    have e2 : ((p.2 + (((p.1 + (l[i] % 4294967296)) % 4294967296) % 65521)) % 4294967296) % 65521 = (upd p l[i]).2 := by rw [e1]; unfold upd; simp only; omega
    rw [e2, e1, wr _ (by omega) (by omega)]
    have := ih k (i + 1) (upd p l[i]) (by omega) (by omega) (by omega) (upd_half _ _)
    rw [show ((i + 1 : Nat) : Int) = (i : Int) + 1 by omega] at this
    rw [this]
    rfl
theorem more_f (l : List Int) (hl : Bytes l) (hn : l.length ≤ 140737488351232) (k : Nat) (p : Int × Int) (hk : l.length < k) (hp : Half p) : seal_more.f k p.1 p.2 l = some ((ck p l).1, (ck p l).2) := by
  unfold seal_more.f
  have := more_eq l hl hn l.length k 0 p (by omega) (by omega) (by omega) hp
  simpa using this
theorem sum_f (h l : List Int) (hh : Bytes h) (hl : Bytes l) (hhn : h.length ≤ 140737488351232) (hn : l.length ≤ 140737488351232) (k : Nat) (hk : h.length < k) (hk' : l.length < k) : seal_sum.f k h l = some (S (h ++ l)) := by
  unfold seal_sum.f
  refine bindE (more_f h hh hhn k (1, 0) hk half10) (bindE (more_f l hl hn k (ck (1, 0) h) hk' (ck_half h _ half10)) ?_)
  show some (Go.bits .or .u32 (((ck (ck (1, 0) h) l).2 * 65536) % 4294967296) (ck (ck (1, 0) h) l).1) = _
  rw [or16 _ (ck_half l _ (ck_half h _ half10))]
  unfold S
  rw [ck_append]
/-- A frame's head, its sum's bytes, a frame. -/
def head3 (kind : Int) (l : List Int) : List Int := [(l.length : Int) / 256 % 256, (l.length : Int) % 256, kind]
def four (s : Int) : List Int := [s / 16777216 % 256, s / 65536 % 256, s / 256 % 256, s % 256]
def frame (kind : Int) (l : List Int) : List Int := head3 kind l ++ four (S (head3 kind l ++ l)) ++ l
theorem head3_bytes (kind : Int) (l : List Int) (h0 : 0 ≤ kind) (h1 : kind < 256) : Bytes (head3 kind l) := by
  intro x hx
  simp only [head3, List.mem_cons, List.not_mem_nil, or_false] at hx
  rcases hx with rfl | rfl | rfl <;> omega
theorem four_bytes (s : Int) : Bytes (four s) := by
  intro x hx
  simp only [four, List.mem_cons, List.not_mem_nil, or_false] at hx
  rcases hx with rfl | rfl | rfl | rfl <;> omega
theorem frame_len (kind : Int) (l : List Int) : (frame kind l).length = 7 + l.length := by simp [frame, head3, four]; omega
theorem Frame_ok (kind : Int) (l : List Int) (h0 : 0 ≤ kind) (h1 : kind < 256) (hl : Bytes l) (hn : l.length ≤ 32768) (k : Nat) (hk : l.length + 3 < k) : seal_Frame.f k kind l = some (frame kind l, 0) := by
  unfold seal_Frame.f
  refine iteF (by omega) (bindE rfl (bindE (sum_f (head3 kind l) l (head3_bytes kind l h0 h1) hl (by simp [head3]) (by omega) k (by simp [head3]; omega) (by omega)) (bindE rfl (iteT (by simp) (bindE rfl (iteT (by simp; omega) ?_))))))
  rfl
theorem Frame_long (kind : Int) (l : List Int) (hn : ¬ l.length ≤ 32768) (k : Nat) : seal_Frame.f k kind l = some ([], 3) := by
  unfold seal_Frame.f
  exact iteT (by omega) rfl
theorem rd_nat (l : List Int) (i : Nat) (h : i < l.length) : rd l i = l[i] := rd_at l i h

theorem four_or (s : Int) (h0 : 0 ≤ s) (h1 : s < 4294967296) :
    Go.bits .or .u32 (Go.bits .or .u32 (Go.bits .or .u32 (((s / 16777216 % 256 % 4294967296) * 16777216) % 4294967296) (((s / 65536 % 256 % 4294967296) * 65536) % 4294967296)) (((s / 256 % 256 % 4294967296) * 256) % 4294967296)) (s % 256 % 4294967296) = s := by
  have p24 : ((2 : Int) ^ 24) = 16777216 := by decide
  have p16 : ((2 : Int) ^ 16) = 65536 := by decide
  have p8 : ((2 : Int) ^ 8) = 256 := by decide
  have e1 : ((s / 16777216 % 256 % 4294967296) * 16777216) % 4294967296 = (s / 16777216) * 2 ^ 24 := by rw [p24]; omega
  have e2 : ((s / 65536 % 256 % 4294967296) * 65536) % 4294967296 = (s / 65536 % 256) * 65536 := by omega
  have e3 : ((s / 256 % 256 % 4294967296) * 256) % 4294967296 = (s / 256 % 256) * 256 := by omega
  have e4 : s % 256 % 4294967296 = s % 256 := by omega
  rw [e1, e2, e3, e4, u32_or_add _ _ 24 (by omega) (by omega) (by rw [p24]; omega) (by rw [p24]; omega), p24,
    show s / 16777216 * 16777216 + s / 65536 % 256 * 65536 = (s / 65536) * 2 ^ 16 by rw [p16]; omega,
    u32_or_add _ _ 16 (by omega) (by omega) (by rw [p16]; omega) (by rw [p16]; omega), p16,
    show s / 65536 * 65536 + s / 256 % 256 * 256 = (s / 256) * 2 ^ 8 by rw [p8]; omega,
    u32_or_add _ _ 8 (by omega) (by omega) (by rw [p8]; omega) (by rw [p8]; omega), p8]
  omega
theorem len_or (n : Int) (h0 : 0 ≤ n) (h1 : n ≤ 32768) : Go.bits .or .i64 (wrap64 ((wrap64 (n / 256 % 256)) * 256)) (wrap64 (n % 256)) = n := by
  have p8 : ((2 : Int) ^ 8) = 256 := by decide
  rw [wr (n / 256 % 256) (by omega) (by omega), wr (n % 256) (by omega) (by omega), wr _ (by omega) (by omega), show n / 256 % 256 * 256 = (n / 256) * 2 ^ 8 by rw [p8]; omega,
    i64_or_add _ _ 8 (by omega) (by omega) (by rw [p8]; omega) (by rw [p8]; omega), p8]
  omega

/-- What a frame's bytes, with whatever sum, open to, whatever stands behind them. -/
theorem Open_any (kind : Int) (s : Int) (l m : List Int) (h0 : 0 ≤ kind) (h1 : kind < 256) (hs0 : 0 ≤ s) (hs1 : s < 4294967296) (hl : Bytes l) (hn : l.length ≤ 32768) (hm : m.length ≤ 140737488000000) (k : Nat) (hk : l.length + 3 < k) :
    seal_Open.f k (head3 kind l ++ four s ++ l ++ m) = if S (head3 kind l ++ l) = s then some (kind, l, 7 + (l.length : Int), 0) else some (0, [], 0, 6) := by
  have hlen : (head3 kind l ++ four s ++ l ++ m).length = 7 + l.length + m.length := by simp [head3, four]; omega
  have r0 : rd (head3 kind l ++ four s ++ l ++ m) 0 = (l.length : Int) / 256 % 256 := rfl
  have r1 : rd (head3 kind l ++ four s ++ l ++ m) 1 = (l.length : Int) % 256 := rfl
  have r2 : rd (head3 kind l ++ four s ++ l ++ m) 2 = kind := rfl
  have r3 : rd (head3 kind l ++ four s ++ l ++ m) 3 = s / 16777216 % 256 := rfl
  have r4 : rd (head3 kind l ++ four s ++ l ++ m) 4 = s / 65536 % 256 := rfl
  have r5 : rd (head3 kind l ++ four s ++ l ++ m) 5 = s / 256 % 256 := rfl
  have r6 : rd (head3 kind l ++ four s ++ l ++ m) 6 = s % 256 := rfl
  have t3 : (head3 kind l ++ four s ++ l ++ m).take 3 = head3 kind l := rfl
  have tl : ((head3 kind l ++ four s ++ l ++ m).take (7 + l.length)).drop 7 = l := by
    have e : head3 kind l ++ four s ++ l ++ m = (head3 kind l ++ four s) ++ (l ++ m) := by simp
    have e7 : (head3 kind l ++ four s).length = 7 := rfl
    rw [e, List.take_append, e7, List.take_of_length_le (by rw [e7]; omega), show 7 + l.length - 7 = l.length by omega, List.take_left' rfl, List.drop_append, e7]
    simp
    exact Nat.le_refl 7
  unfold seal_Open.f
  rw [hlen, r0, r1, r2, r3, r4, r5, r6, len_or _ (by omega) (by omega), wr (7 + (l.length : Int)) (by omega) (by omega), show (7 + (l.length : Int)).toNat = 7 + l.length by omega, tl, four_or _ hs0 hs1]
  have t3' : List.take (3 : Int).toNat (head3 kind l ++ four s ++ l ++ m) = head3 kind l := t3
  refine iteF (by omega) (iteT (by omega) (iteT (by omega) (iteF (by omega) (iteF (by omega) (iteT (by omega) (iteT (by omega) (iteT ?_ (bindE rfl (iteT (by omega) (bindE (a := S (head3 kind l ++ l)) ?_ (iteT (by omega) (iteT (by omega) (iteT (by omega) (iteT (by omega) ?_))))))))))))))
  · simp; omega
  · first | rw [t3] | rw [t3'] | skip
    exact sum_f (head3 kind l) l (head3_bytes kind l h0 h1) hl (by simp [head3]) (by omega) k (by simp [head3]; omega) (by omega)
  · by_cases c : S (head3 kind l ++ l) = s
    · rw [if_pos c, if_pos c]
      exact iteT (by omega) (by simp)
    · rw [if_neg c, if_neg c]
theorem Open_frame (kind : Int) (l m : List Int) (h0 : 0 ≤ kind) (h1 : kind < 256) (hl : Bytes l) (hn : l.length ≤ 32768) (hm : m.length ≤ 140737488000000) (k : Nat) (hk : l.length + 3 < k) :
    seal_Open.f k (frame kind l ++ m) = some (kind, l, 7 + (l.length : Int), 0) := by
  have hS := S_bd (head3 kind l ++ l)
  have := Open_any kind (S (head3 kind l ++ l)) l m h0 h1 hS.1 hS.2 hl hn hm k hk
  rw [if_pos rfl] at this
  exact this
theorem Open_nil (k : Nat) : seal_Open.f k [] = some (0, [], 0, 7) := by
  unfold seal_Open.f
  exact iteT (by simp) rfl
theorem awake_eq (k : Nat) (hk : 3 < k) : gazetteerlaw8_awake.f k = some true := by
  unfold gazetteerlaw8_awake.f
  have nb : Bytes [] := fun x hx => by cases hx
  refine bindE (Frame_ok 1 [] (by omega) (by omega) nb (by simp) k (by simpa using hk)) (bindE (a := (1, [], 7, 0)) ?_ ?_)
  · have := Open_frame 1 [] [] (by omega) (by omega) nb (by simp) (by simp) k (by simpa using hk)
    simpa using this
  · refine iteT rfl (iteT rfl (iteT (by simp [frame_len]) (iteT rfl (iteT rfl (iteT rfl (iteT (by simp [frame_len]) ?_))))))
    rfl
/-- The lower half of a sum. -/
theorem ck_one (l : List Int) : ∀ p : Int × Int, 0 ≤ p.1 → p.1 < 65521 → (ck p l).1 = (p.1 + l.sum) % 65521 := by
  induction l with
  | nil => intro p h0 h1; simp only [List.sum_nil]; unfold ck; simp only [List.foldl_nil]; omega
  | cons x l ih =>
    intro p h0 h1
    have := ih (upd p x) (by unfold upd; simp only; omega) (by unfold upd; simp only; omega)
    have e : ck p (x :: l) = ck (upd p x) l := rfl
    rw [e, this, List.sum_cons]
    unfold upd
    simp only
    omega
theorem S_mod (l : List Int) : S l % 65536 = (1 + l.sum) % 65521 := by
  have h := ck_half l (1, 0) half10
  have e := ck_one l (1, 0) (by simp) (by simp)
  unfold Half at h
  unfold S
  simp only at e
  omega
/-- Frames, one behind another, their kinds by their places (from n on). -/
def fr (n : Nat) (rows : List (List Int)) : List Int := match rows with
  | [] => []
  | r :: rs => frame ((n : Int) % 256) r ++ fr (n + 1) rs
theorem fr_snoc (rows : List (List Int)) (r : List Int) : ∀ n, fr n (rows ++ [r]) = fr n rows ++ frame (((n + rows.length : Nat) : Int) % 256) r := by
  induction rows with
  | nil => intro n; simp [fr]
  | cons x rows ih => intro n; simp only [List.cons_append, fr, ih (n + 1), List.append_assoc, List.length_cons]; rw [show n + 1 + rows.length = n + (rows.length + 1) by omega]
theorem fr_len (rows : List (List Int)) (h : ∀ r ∈ rows, r.length ≤ 200) : ∀ n, (fr n rows).length ≤ 207 * rows.length := by
  induction rows with
  | nil => intro n; simp [fr]
  | cons x rows ih =>
    intro n
    have := ih (fun r hr => h r (List.mem_cons_of_mem _ hr)) (n + 1)
    have := h x List.mem_cons_self
    simp only [fr, List.length_append, frame_len, List.length_cons]; omega
theorem fr_split (rows : List (List Int)) (i : Nat) (n : Nat) : fr n rows = fr n (rows.take i) ++ fr (n + i) (rows.drop i) := by
  induction i generalizing rows n with
  | zero => simp [fr]
  | succ i ih =>
    cases rows with
    | nil => simp [fr]
    | cons x rows => simp only [List.take_succ_cons, List.drop_succ_cons, fr]; rw [ih rows (n + 1), List.append_assoc, show n + 1 + i = n + (i + 1) by omega]
/-- What is too short is no frame. -/
theorem Open_short (kind : Int) (l : List Int) (hn : l.length ≤ 200) (j : Nat) (hj : j < 7 + l.length) (k : Nat) : seal_Open.f k ((frame kind l).take j) = some (0, [], 0, 7) := by
  have hlen : ((frame kind l).take j).length = j := by rw [List.length_take, frame_len]; omega
  unfold seal_Open.f
  rw [hlen]
  by_cases h7 : (j : Int) < 7
  · exact iteT h7 rfl
  · refine iteF h7 (iteT (by omega) (iteT (by omega) ?_))
    have r0 : rd ((frame kind l).take j) 0 = (l.length : Int) / 256 % 256 := by
      have := rd_at ((frame kind l).take j) 0 (by rw [hlen]; omega)
      rw [show ((0 : Nat) : Int) = 0 from rfl] at this
      rw [this, List.getElem_take]; rfl
    have r1 : rd ((frame kind l).take j) 1 = (l.length : Int) % 256 := by
      have := rd_at ((frame kind l).take j) 1 (by rw [hlen]; omega)
      rw [show ((1 : Nat) : Int) = 1 from rfl] at this
      rw [this, List.getElem_take]; rfl
    rw [r0, r1, len_or _ (by omega) (by omega), wr (7 + (l.length : Int)) (by omega) (by omega)]
    exact iteF (by omega) (iteT (by omega) rfl)
def told (n : Nat) (rows : List (List Int)) : List (List Int) := match rows with
  | [] => []
  | r :: rs => (((n : Int) % 256) :: r) :: told (n + 1) rs
theorem told_len (rows : List (List Int)) : ∀ n, (told n rows).length = rows.length := by
  induction rows with
  | nil => intro n; rfl
  | cons x rows ih => intro n; simp [told, ih]
theorem All_cut (rows : List (List Int)) : ∀ (n : Nat) (pre p : List Int) (acc : List (List Int)) (k : Nat), (∀ r ∈ rows, Bytes r ∧ r.length ≤ 200) → pre.length + rows.length * 207 + p.length ≤ 20000 → acc.length + rows.length ≤ 100 → rows.length + 210 < k → (∀ j, seal_Open.f j p = some (0, [], 0, 7)) →
    seal_All.l0 k (pre ++ (fr n rows ++ p)) acc (pre.length : Int) = some (acc ++ told n rows, ((pre ++ fr n rows).length : Int)) := by
  induction rows with
  | nil =>
    intro n pre p acc k _ hp ha hk ho
    obtain ⟨k, rfl⟩ : ∃ j, k = j + 1 := ⟨k - 1, by omega⟩
    simp only [seal_All.l0, fr, List.nil_append]
    refine iteT (by omega) (iteT (by simp; omega) (bindE (a := (0, [], 0, 7)) ?_ (iteF (by decide) ?_)))
    · rw [show ((pre.length : Int)).toNat = pre.length by omega, List.drop_left' rfl]
      exact ho k
    · simp [told]
  | cons r rows ih =>
    intro n pre p acc k hb hp ha hk ho
    obtain ⟨k, rfl⟩ : ∃ j, k = j + 1 := ⟨k - 1, by omega⟩
    obtain ⟨hr, hrl⟩ := hb r List.mem_cons_self
    simp only [List.length_cons] at hp ha hk
    have hfl := fr_len rows (fun x hx => (hb x (List.mem_cons_of_mem _ hx)).2) (n + 1)
    simp only [seal_All.l0]
    have hlen : ((pre ++ (fr n (r :: rows) ++ p)).length : Int) = (pre.length : Int) + (7 + (r.length : Int)) + ((fr (n + 1) rows).length : Int) + (p.length : Int) := by
      simp only [fr, List.length_append, frame_len]; omega
    rw [hlen]
    refine iteT (by omega) (iteT (by omega) (bindE (a := (((n : Int) % 256), r, 7 + (r.length : Int), 0)) ?_ (iteT (by trivial) (bindE rfl (iteT (by simp; omega) (iteT (by omega) ?_))))))
    · rw [show ((pre.length : Int)).toNat = pre.length by omega, List.drop_left' rfl]
      simp only [fr]
      rw [List.append_assoc]
      exact Open_frame _ r (fr (n + 1) rows ++ p) (by omega) (by omega) hr (by omega) (by rw [List.length_append]; omega) k (by omega)
    · have := ih (n + 1) (pre ++ frame ((n : Int) % 256) r) p (acc ++ [((n : Int) % 256) :: r]) k (fun x hx => hb x (List.mem_cons_of_mem _ hx)) (by rw [List.length_append, frame_len]; omega) (by simp; omega) (by omega) ho
      rw [List.append_assoc, List.length_append, frame_len] at this
      simp only []
      rw [wr _ (by omega) (by omega), show (pre.length : Int) + (7 + (r.length : Int)) = ((pre.length + (7 + r.length) : Nat) : Int) by omega]
      have e : [((n : Int) % 256)] ++ r = ((n : Int) % 256) :: r := rfl
      have e2 : fr n (r :: rows) ++ p = frame ((n : Int) % 256) r ++ (fr (n + 1) rows ++ p) := by simp only [fr, List.append_assoc]
      rw [e, e2, this]
      simp only [told, fr, List.append_assoc, List.singleton_append]
theorem and255 (x : Int) (h0 : 0 ≤ x) (h1 : x < 65536) : Go.bits .and .u16 x 255 = x % 256 := bits_mask .u16 16 (by decide) (fun n a b => by rw [IntKind.wrap_u16]; omega) 8 (by decide) x h0 (by simpa using h1)
theorem xor_ne (a b : Int) (h0 : 0 ≤ a) (h1 : a < 256) (h2 : 0 < b) (h3 : b < 256) : Go.bits .xor .u8 a b ≠ a ∧ 0 ≤ Go.bits .xor .u8 a b ∧ Go.bits .xor .u8 a b < 256 := by
  rw [u8_xor a b h0 h1 (by omega) h3]
  have hx : a.toNat ^^^ b.toNat < 2 ^ 8 := Nat.xor_lt_two_pow (by omega) (by omega)
  refine ⟨fun h => ?_, by omega, by omega⟩
  have e : a.toNat ^^^ b.toNat = a.toNat := by omega
  have : b.toNat = 0 := by
    have e2 : a.toNat ^^^ (a.toNat ^^^ b.toNat) = a.toNat ^^^ a.toNat := by rw [e]
    rw [← Nat.xor_assoc, Nat.xor_self, Nat.zero_xor] at e2
    exact e2
  omega
theorem sum_set (l : List Int) (j : Nat) (v : Int) (h : j < l.length) : (l.set j v).sum = l.sum - l[j] + v := by
  induction l generalizing j with
  | nil => simp at h
  | cons x l ih =>
    cases j with
    | zero => simp; omega
    | succ j =>
      simp only [List.set_cons_succ, List.sum_cons, List.getElem_cons_succ]
      rw [ih j (by simpa using h)]; omega
theorem turned (r rest : List Int) (hr : Bytes r) (hn : r.length ≤ 200) (hm : rest.length ≤ 140737488000000) (j : Nat) (hj : j < r.length) (y : Int) (hy0 : 0 < y) (hy1 : y < 256) (k : Nat) (hk : 210 < k) :
    seal_Open.f k ((frame 0 r ++ rest).set (7 + j) (Go.bits .xor .u8 r[j] y)) = some (0, [], 0, 6) := by
  have hb := hr r[j] (List.getElem_mem hj)
  obtain ⟨x1, x2, x3⟩ := xor_ne r[j] y hb.1 hb.2 hy0 hy1
  generalize hv : Go.bits .xor .u8 r[j] y = v at x1 x2 x3 ⊢
  have hS := S_bd (head3 0 r ++ r)
  have hs : Bytes (r.set j v) := by
    intro x hx
    rcases List.mem_or_eq_of_mem_set hx with h | h
    · exact hr x h
    · rw [h]; exact ⟨x2, x3⟩
  have hh : head3 0 (r.set j v) = head3 0 r := by unfold head3; rw [List.length_set]
  have e : (frame 0 r ++ rest).set (7 + j) v = head3 0 (r.set j v) ++ four (S (head3 0 r ++ r)) ++ r.set j v ++ rest := by
    rw [hh]
    have e7 : (head3 0 r ++ four (S (head3 0 r ++ r))).length = 7 := rfl
    unfold frame
    rw [List.append_assoc, List.set_append_right _ _ (by rw [e7]; omega), e7, show 7 + j - 7 = j by omega, List.set_append_left _ _ hj, ← List.append_assoc]
  rw [e, Open_any 0 _ (r.set j v) rest (by omega) (by omega) hS.1 hS.2 hs (by rw [List.length_set]; omega) hm k (by rw [List.length_set]; omega), if_neg]
  intro h
  have h1 := S_mod (head3 0 (r.set j v) ++ r.set j v)
  have h2 := S_mod (head3 0 r ++ r)
  rw [h, h2, hh] at h1
  rw [List.sum_append, List.sum_append, sum_set r j v hj] at h1
  omega
/-- How many bytes the first n frames have. -/
def bl (rows : List (List Int)) (n : Nat) : Nat := (fr 0 (rows.take n)).length
theorem bl_succ (rows : List (List Int)) (n : Nat) (h : n < rows.length) : bl rows (n + 1) = bl rows n + (7 + rows[n].length) := by
  unfold bl
  rw [List.take_succ_eq_append_getElem h, fr_snoc, List.length_append, frame_len]
theorem ends_at (rows : List (List Int)) (n m : Nat) (h : n < m) : rd ((List.range m).map fun i => ((bl rows (i + 1) : Nat) : Int)) (n : Int) = (bl rows (n + 1) : Nat) := by
  rw [rd_at _ n (by simpa using h)]
  simp
theorem j3_eq (rows : List (List Int)) (hb : ∀ r ∈ rows, Bytes r ∧ r.length ≤ 200) (hl : rows.length ≤ 20) (p q : Int) (hp : 0 ≤ p ∧ p ≤ 65535) (hq : 0 ≤ q ∧ q ≤ 65535) (k : Nat) (hk : 211 < k) :
    gazetteerlaw8_SealCuts.j3 k rows (fr 0 rows) false p q = some true := by
  obtain ⟨k, rfl⟩ : ∃ j, k = j + 1 := ⟨k - 1, by omega⟩
  simp only [gazetteerlaw8_SealCuts.j3]
  refine iteF (by simp) ?_
  cases rows with
  | nil => exact iteT (by simp) rfl
  | cons r rs =>
    obtain ⟨hr, hrl⟩ := hb r List.mem_cons_self
    have e0 : rd_L1 (r :: rs) 0 = r := rfl
    rw [e0]
    refine iteF (by simp; omega) (iteT (by simp) ?_)
    by_cases h0 : (r.length : Int) = 0
    · exact iteT h0 rfl
    refine iteF h0 ?_
    rw [and255 q (by omega) (by omega)]
    by_cases h1 : q % 256 = 0
    · exact iteT h1 rfl
    have hfl := fr_len rs (fun x hx => (hb x (List.mem_cons_of_mem _ hx)).2) 1
    simp only [List.length_cons] at hl
    have ef : fr 0 (r :: rs) = frame 0 r ++ fr 1 rs := rfl
    have hlen : ((fr 0 (r :: rs)).length : Int) = 7 + (r.length : Int) + ((fr 1 rs).length : Int) := by rw [ef, List.length_append, frame_len]; omega
    refine iteF h1 ?_
    rw [hlen, wr (7 + (r.length : Int)) (by omega) (by omega), wr p (by omega) (by omega)]
    have ht : Int.tmod p (r.length : Int) = p % (r.length : Int) := Int.tmod_eq_emod_of_nonneg hp.1
    rw [ht]
    have hm0 : 0 ≤ p % (r.length : Int) := Int.emod_nonneg _ (by omega)
    have hm1 : p % (r.length : Int) < (r.length : Int) := Int.emod_lt_of_pos _ (by omega)
    generalize p % (r.length : Int) = m at hm0 hm1 ⊢
    obtain ⟨j, rfl⟩ := Int.eq_ofNat_of_zero_le hm0
    rw [wr (7 + (j : Int)) (by omega) (by omega)]
    refine iteF (by omega) (iteT (by omega) (iteT (by omega) (bindE (a := (0, [], 0, 6)) ?_ rfl)))
    have hj : j < r.length := by omega
    have er : rd (fr 0 (r :: rs)) (7 + (j : Int)) = r[j] := by
      rw [show 7 + (j : Int) = ((7 + j : Nat) : Int) by omega, rd_at _ (7 + j) (by omega)]
      have e7 : (head3 0 r ++ four (S (head3 0 r ++ r))).length = 7 := rfl
      have e2 : fr 0 (r :: rs) = (head3 0 r ++ four (S (head3 0 r ++ r))) ++ (r ++ fr 1 rs) := by rw [ef]; unfold frame; rw [List.append_assoc]
      have : (fr 0 (r :: rs))[7 + j]? = some r[j] := by
        rw [e2, List.getElem?_append_right (by rw [e7]; omega), e7, show 7 + j - 7 = j by omega, List.getElem?_append_left hj, List.getElem?_eq_getElem hj]
      exact Option.some.inj ((List.getElem?_eq_getElem (by omega)).symm.trans this)
    rw [er, show (7 + (j : Int)).toNat = 7 + j by omega, ef]
    exact turned r (fr 1 rs) hr hrl (by omega) j hj (q % 256) (by omega) (by omega) k (by omega)
theorem l1_eq (rows : List (List Int)) (hb : ∀ r ∈ rows, Bytes r ∧ r.length ≤ 200) (hl : rows.length ≤ 20) (p q : Int) (hp : 0 ≤ p ∧ p ≤ 65535) (hq : 0 ≤ q ∧ q ≤ 65535) (c : Nat) (hc : c ≤ (fr 0 rows).length) (d : Nat) : ∀ (k w : Nat), w ≤ rows.length → rows.length - w = d → d + 300 < k → bl rows w ≤ c →
    gazetteerlaw8_SealCuts.l1 k rows (fr 0 rows) ((List.range rows.length).map fun i => ((bl rows (i + 1) : Nat) : Int)) (c : Int) (w : Int) ((bl rows w : Nat) : Int) p q = some true := by
  have hfl := fr_len rows (fun x hx => (hb x hx).2) 0
  have full : bl rows rows.length = (fr 0 rows).length := by unfold bl; rw [List.take_length]
  have stop : ∀ (k w : Nat), w ≤ rows.length → 290 < k → bl rows w ≤ c → (w < rows.length → c < bl rows (w + 1)) → gazetteerlaw8_SealCuts.j2 (k + 1) rows (fr 0 rows) (c : Int) (w : Int) ((bl rows w : Nat) : Int) p q = some true := by
    intro k w hw hk h1 h2
    simp only [gazetteerlaw8_SealCuts.j2]
    have hbt : ∀ r ∈ rows.take w, Bytes r ∧ r.length ≤ 200 := fun r hr => hb r (List.mem_of_mem_take hr)
    obtain ⟨tail, e, ho⟩ : ∃ tail : List Int, (fr 0 rows).take c = fr 0 (rows.take w) ++ tail ∧ (∀ j, seal_Open.f j tail = some (0, [], 0, 7)) ∧ tail.length ≤ 207 := by
      have es := fr_split rows w 0
      by_cases hlt : w < rows.length
      · have h3 := h2 hlt
        rw [bl_succ rows w hlt] at h3
        have hwl := (hb rows[w] (List.getElem_mem hlt)).2
        refine ⟨(frame (((0 + w : Nat) : Int) % 256) rows[w]).take (c - bl rows w), ?_, fun j => Open_short _ _ hwl _ (by omega) j, by rw [List.length_take]; omega⟩
        rw [es, List.drop_eq_getElem_cons hlt]
        simp only [fr]
        rw [List.take_append, List.take_of_length_le (by unfold bl at h1; exact h1), List.take_append_of_le_length (by rw [frame_len]; unfold bl at h3 h1; omega)]
        rfl
      · have hw2 : w = rows.length := by omega
        subst hw2
        refine ⟨[], ?_, fun j => Open_nil j, by simp⟩
        rw [List.take_length, List.append_nil, List.take_of_length_le (by omega)]
    obtain ⟨ho, htl⟩ := ho
    have hw20 : (rows.take w).length ≤ 20 := by rw [List.length_take]; omega
    have hall := All_cut (rows.take w) 0 [] tail [] k hbt (by simp only [List.length_nil]; omega) (by simp only [List.length_nil]; omega) (by omega) ho
    refine iteT (by omega) (iteT (by omega) (bindE (a := (told 0 (rows.take w), ((fr 0 (rows.take w)).length : Int))) ?_ (iteT ?_ ?_)))
    · unfold seal_All.f
      rw [show ((c : Int)).toNat = c by omega, e]
      simpa using hall
    · simp only [told_len, List.length_take]; omega
    · have e2 : (((fr 0 (rows.take w)).length : Int) != ((bl rows w : Nat) : Int)) = false := by unfold bl; simp
      simp only []
      rw [e2]
      exact j3_eq rows hb hl p q hp hq k (by omega)
  induction d with
  | zero =>
    intro k w hw hd hk h1
    obtain ⟨k, rfl⟩ : ∃ j, k = j + 2 := ⟨k - 2, by omega⟩
    simp only [gazetteerlaw8_SealCuts.l1]
    exact iteF (by simp; omega) (stop k w hw (by omega) h1 (fun h => by omega))
  | succ d ih =>
    intro k w hw hd hk h1
    obtain ⟨k, rfl⟩ : ∃ j, k = j + 2 := ⟨k - 2, by omega⟩
    rw [gazetteerlaw8_SealCuts.l1]
    rw [ends_at rows w rows.length (by omega)]
    refine iteT (by simp; omega) (iteT (by omega) ?_)
    by_cases h2 : bl rows (w + 1) ≤ c
    · have := ih (k + 1) (w + 1) (by omega) (by omega) (by omega) h2
      rw [wr _ (by omega) (by omega), show ((w : Int) + 1) = ((w + 1 : Nat) : Int) by omega]
      exact iteT (by omega) this
    · exact iteF (by omega) (stop k w hw (by omega) h1 (fun _ => by omega))
theorem l0_eq (rows : List (List Int)) (hby : ∀ r ∈ rows, Bytes r) (hl : rows.length ≤ 20) (cut p q : Int) (hcut : 0 ≤ cut ∧ cut ≤ 65535) (hp : 0 ≤ p ∧ p ≤ 65535) (hq : 0 ≤ q ∧ q ≤ 65535) (d : Nat) : ∀ (k i : Nat), i ≤ rows.length → rows.length - i = d → d + 400 < k → (∀ r ∈ rows.take i, r.length ≤ 200) →
    gazetteerlaw8_SealCuts.l0 k rows cut (fr 0 (rows.take i)) ((List.range i).map fun n => ((bl rows (n + 1) : Nat) : Int)) (i : Int) p q = some true := by
  induction d with
  | zero =>
    intro k i hi hd hk hs
    obtain ⟨k, rfl⟩ : ∃ j, k = j + 1 := ⟨k - 1, by omega⟩
    have hi2 : i = rows.length := by omega
    subst hi2
    rw [List.take_length] at hs ⊢
    have hb : ∀ r ∈ rows, Bytes r ∧ r.length ≤ 200 := fun r hr => ⟨hby r hr, hs r hr⟩
    have hfl := fr_len rows hs 0
    simp only [gazetteerlaw8_SealCuts.l0]
    rw [wr (((fr 0 rows).length : Int) + 1) (by omega) (by omega), wr cut (by omega) (by omega)]
    have ht : Int.tmod cut (((fr 0 rows).length : Int) + 1) = cut % (((fr 0 rows).length : Int) + 1) := Int.tmod_eq_emod_of_nonneg hcut.1
    rw [ht]
    have hm0 : 0 ≤ cut % (((fr 0 rows).length : Int) + 1) := Int.emod_nonneg _ (by omega)
    have hm1 : cut % (((fr 0 rows).length : Int) + 1) < ((fr 0 rows).length : Int) + 1 := Int.emod_lt_of_pos _ (by omega)
    generalize cut % (((fr 0 rows).length : Int) + 1) = m at hm0 hm1 ⊢
    obtain ⟨c, rfl⟩ := Int.eq_ofNat_of_zero_le hm0
    refine iteF (by omega) (iteF (by omega) ?_)
    have := l1_eq rows hb hl p q hp hq c (by omega) rows.length k 0 (by omega) (by omega) (by omega) (by simp [bl, fr])
    simpa [bl, fr] using this
  | succ d ih =>
    intro k i hi hd hk hs
    obtain ⟨k, rfl⟩ : ∃ j, k = j + 1 := ⟨k - 1, by omega⟩
    have hlt : i < rows.length := by omega
    have er : rd_L1 rows (i : Int) = rows[i] := by unfold rd_L1; simp [List.getD, hlt]
    simp only [gazetteerlaw8_SealCuts.l0]
    rw [er]
    refine iteT (by omega) (iteT (by omega) ?_)
    by_cases hg : (rows[i].length : Int) > 200
    · exact iteT hg rfl
    refine iteF hg (bindE (Frame_ok ((i : Int) % 256) rows[i] (by omega) (by omega) (hby _ (List.getElem_mem hlt)) (by omega) k (by omega)) (iteT (by trivial) (iteT ?_ (bindE rfl (iteT (by simp; omega) ?_)))))
    · have := fr_len (rows.take i) hs 0
      have h20 : (rows.take i).length ≤ 20 := by rw [List.length_take]; omega
      simp only [frame_len]; omega
    · have hs2 : ∀ r ∈ rows.take (i + 1), r.length ≤ 200 := by
        intro r hr
        rw [List.take_succ_eq_append_getElem hlt] at hr
        rcases List.mem_append.1 hr with h | h
        · exact hs r h
        · simp at h; subst h; omega
      have := ih k (i + 1) (by omega) (by omega) (by omega) hs2
      have e1 : fr 0 (rows.take (i + 1)) = fr 0 (rows.take i) ++ frame ((i : Int) % 256) rows[i] := by
        rw [List.take_succ_eq_append_getElem hlt, fr_snoc, List.length_take, Nat.min_eq_left (by omega), Nat.zero_add]
      have e2 : (List.range (i + 1)).map (fun n => ((bl rows (n + 1) : Nat) : Int)) = (List.range i).map (fun n => ((bl rows (n + 1) : Nat) : Int)) ++ [((fr 0 (rows.take i) ++ frame ((i : Int) % 256) rows[i]).length : Int)] := by
        rw [List.range_succ, List.map_append, List.map_singleton, ← e1]; rfl
      rw [e1, e2, show ((i + 1 : Nat) : Int) = (i : Int) + 1 by omega] at this
      rw [wr _ (by omega) (by omega)]
      exact this
theorem SealCuts : gazetteerlaw8_SealCuts.Pure := by
  intro rows cut p q w0 w1 w2 w3
  have u16 : ∀ x : Int, (Lit.int .u16 x).wf = true → 0 ≤ x ∧ x ≤ 65535 := fun x h => by simpa [Lit.wf, IntKind.min, IntKind.max, IntKind.signed, IntKind.bits] using h
  have hby : ∀ r ∈ rows, Bytes r := fun r hr x hx => by
    have := (w0.2.2 r hr).2.2 x hx
    have : 0 ≤ x ∧ x ≤ 255 := by simpa [Lit.wf, IntKind.min, IntKind.max, IntKind.signed, IntKind.bits] using this
    omega
  refine ⟨1000, ?_⟩
  unfold gazetteerlaw8_SealCuts.f
  refine bindE (awake_eq _ (by omega)) (iteT (by trivial) ?_)
  by_cases c1 : (rows.length : Int) > 20
  · exact iteT c1 rfl
  refine iteF c1 ?_
  have := l0_eq rows hby (by omega) cut p q (u16 _ w1) (u16 _ w2) (u16 _ w3) rows.length 1000 0 (by omega) (by omega) (by omega) (by simp)
  simpa [fr] using this
end Go.Proofs.Ytkolcgofhjbebaa.Pure

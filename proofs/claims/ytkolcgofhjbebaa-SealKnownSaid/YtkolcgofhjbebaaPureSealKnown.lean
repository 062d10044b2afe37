/- SealKnown, the plain law over the printed functions: sums and frames by hand; the longest, and a byte more. No condition. -/
import Derived.Test.YtkolcgofhjbebaaPSealKnowny
import Derived.Test.YtkolcgofhjbebaaWBits
namespace Go.Proofs.Ytkolcgofhjbebaa.Pure
set_option linter.unusedVariables false
set_option linter.unusedSimpArgs false
open Go.RowKit Go.Proofs.Ytkolcgofhjbebaa.PSealKnown Go.Proofs.YtkolcgofhjbebaaW.PrintWords Go.Proofs.YtkolcgofhjbebaaW.PrintLast Go.Proofs.YtkolcgofhjbebaaW.PrintMore Go.Proofs.YtkolcgofhjbebaaW.PrintBits

theorem wr (x : Int) (h0 : -9223372036854775808 ≤ x) (h1 : x ≤ 9223372036854775807) : wrap64 x = x := by
  unfold wrap64; omega
/-- One byte more in a sum's two halves. -/
def upd (p : Int × Int) (x : Int) : Int × Int := ((p.1 + x) % 65521, (p.2 + (p.1 + x) % 65521) % 65521)
def ck (p : Int × Int) (l : List Int) : Int × Int := l.foldl upd p
def Half (p : Int × Int) : Prop := 0 ≤ p.1 ∧ p.1 < 65521 ∧ 0 ≤ p.2 ∧ p.2 < 65521
def Bytes (l : List Int) : Prop := ∀ x ∈ l, 0 ≤ x ∧ x < 256
theorem upd_half (p : Int × Int) (x : Int) : Half (upd p x) := by
  unfold Half upd; simp only; omega
theorem ck_half (l : List Int) : ∀ p, Half p → Half (ck p l) := by
  induction l with
  | nil => intro p h; exact h
  | cons x l ih => intro p _; exact ih _ (upd_half p x)
theorem half10 : Half (1, 0) := by unfold Half; simp
theorem ck_append (p : Int × Int) (l m : List Int) : ck p (l ++ m) = ck (ck p l) m := by unfold ck; rw [List.foldl_append]
/-- The sum of bytes. -/
def S (l : List Int) : Int := (ck (1, 0) l).2 * 65536 + (ck (1, 0) l).1
theorem S_bd (l : List Int) : 0 ≤ S l ∧ S l < 4294967296 := by
  have h := ck_half l (1, 0) half10
  unfold Half at h; unfold S; omega
theorem or16 (p : Int × Int) (h : Half p) : Go.bits .or .u32 ((p.2 * 65536) % 4294967296) p.1 = p.2 * 65536 + p.1 := by
  unfold Half at h
  have e : (p.2 * 65536) % 4294967296 = p.2 * 2 ^ 16 := by
    rw [show ((2 : Int) ^ 16) = 65536 by decide]; omega
  rw [e, u32_or_add p.2 p.1 16 (by omega) (by omega) (by rw [show ((2 : Int) ^ 16) = 65536 by decide]; omega) (by rw [show ((2 : Int) ^ 16) = 65536 by decide]; omega)]
  rw [show ((2 : Int) ^ 16) = 65536 by decide]
theorem rd_at (l : List Int) (i : Nat) (h : i < l.length) : rd l (i : Int) = l[i] := by
  unfold rd; simp [List.getD, h]
theorem drop_at (l : List Int) (i : Nat) (h : i < l.length) : l.drop i = l[i] :: l.drop (i + 1) := (List.drop_eq_getElem_cons h)

theorem more_eq (l : List Int) (hl : Bytes l) (hn : l.length ≤ 140737488351232) (d : Nat) : ∀ (k i : Nat) (p : Int × Int), i ≤ l.length → l.length - i = d → d < k → Half p →
    seal_more.l0 k p.1 p.2 l (l.length : Int) (i : Int) = some ((ck p (l.drop i)).1, (ck p (l.drop i)).2) := by
  induction d with
  | zero =>
    intro k i p hi hd hk hp
    obtain ⟨k, rfl⟩ : ∃ j, k = j + 1 := ⟨k - 1, by omega⟩
    simp only [seal_more.l0]
    rw [if_neg (by omega), List.drop_eq_nil_of_le (by omega)]
    rfl
  | succ d ih =>
    intro k i p hi hd hk hp
    obtain ⟨k, rfl⟩ : ∃ j, k = j + 1 := ⟨k - 1, by omega⟩
    have hlt : i < l.length := by omega
    simp only [seal_more.l0]
    rw [if_pos (by omega), if_pos (by omega), if_pos (by omega), rd_at l i hlt, drop_at l i hlt]
    have hb := hl l[i] (List.getElem_mem hlt)
    unfold Half at hp
    have e1 : ((p.1 + (l[i] % 4294967296)) % 4294967296) % 65521 = (upd p l[i]).1 := by unfold upd; simp only; omega
    have e2 : ((p.2 + (((p.1 + (l[i] % 4294967296)) % 4294967296) % 65521)) % 4294967296) % 65521 = (upd p l[i]).2 := by rw [e1]; unfold upd; simp only; omega
    rw [e2, e1, wr _ (by omega) (by omega)]
    have := ih k (i + 1) (upd p l[i]) (by omega) (by omega) (by omega) (upd_half _ _)
    rw [show ((i + 1 : Nat) : Int) = (i : Int) + 1 by omega] at this
    rw [this]
    rfl
theorem more_f (l : List Int) (hl : Bytes l) (hn : l.length ≤ 140737488351232) (k : Nat) (p : Int × Int) (hk : l.length < k) (hp : Half p) : seal_more.f k p.1 p.2 l = some ((ck p l).1, (ck p l).2) := by
  unfold seal_more.f
  have := more_eq l hl hn l.length k 0 p (by omega) (by omega) (by omega) hp
  simpa using this
theorem sum_f (h l : List Int) (hh : Bytes h) (hl : Bytes l) (hhn : h.length ≤ 140737488351232) (hn : l.length ≤ 140737488351232) (k : Nat) (hk : h.length < k) (hk' : l.length < k) : seal_sum.f k h l = some (S (h ++ l)) := by
  unfold seal_sum.f
  refine bindE (more_f h hh hhn k (1, 0) hk half10) (bindE (more_f l hl hn k (ck (1, 0) h) hk' (ck_half h _ half10)) ?_)
  show some (Go.bits .or .u32 (((ck (ck (1, 0) h) l).2 * 65536) % 4294967296) (ck (ck (1, 0) h) l).1) = _
  rw [or16 _ (ck_half l _ (ck_half h _ half10))]
  unfold S
  rw [ck_append]
/-- A frame's head, its sum's bytes, a frame. -/
def head3 (kind : Int) (l : List Int) : List Int := [(l.length : Int) / 256 % 256, (l.length : Int) % 256, kind]
def four (s : Int) : List Int := [s / 16777216 % 256, s / 65536 % 256, s / 256 % 256, s % 256]
def frame (kind : Int) (l : List Int) : List Int := head3 kind l ++ four (S (head3 kind l ++ l)) ++ l
theorem head3_bytes (kind : Int) (l : List Int) (h0 : 0 ≤ kind) (h1 : kind < 256) : Bytes (head3 kind l) := by
  intro x hx
  simp only [head3, List.mem_cons, List.not_mem_nil, or_false] at hx
  rcases hx with rfl | rfl | rfl <;> omega
theorem four_bytes (s : Int) : Bytes (four s) := by
  intro x hx
  simp only [four, List.mem_cons, List.not_mem_nil, or_false] at hx
  rcases hx with rfl | rfl | rfl | rfl <;> omega
theorem frame_len (kind : Int) (l : List Int) : (frame kind l).length = 7 + l.length := by simp [frame, head3, four]; omega
theorem Frame_ok (kind : Int) (l : List Int) (h0 : 0 ≤ kind) (h1 : kind < 256) (hl : Bytes l) (hn : l.length ≤ 32768) (k : Nat) (hk : l.length + 3 < k) : seal_Frame.f k kind l = some (frame kind l, 0) := by
  unfold seal_Frame.f
  refine iteF (by omega) (bindE rfl (bindE (sum_f (head3 kind l) l (head3_bytes kind l h0 h1) hl (by simp [head3]) (by omega) k (by simp [head3]; omega) (by omega)) (bindE rfl (iteT (by simp) (bindE rfl (iteT (by simp; omega) ?_))))))
  rfl
theorem Frame_long (kind : Int) (l : List Int) (hn : ¬ l.length ≤ 32768) (k : Nat) : seal_Frame.f k kind l = some ([], 3) := by
  unfold seal_Frame.f
  exact iteT (by omega) rfl
theorem rd_nat (l : List Int) (i : Nat) (h : i < l.length) : rd l i = l[i] := rd_at l i h

theorem four_or (s : Int) (h0 : 0 ≤ s) (h1 : s < 4294967296) :
    Go.bits .or .u32 (Go.bits .or .u32 (Go.bits .or .u32 (((s / 16777216 % 256 % 4294967296) * 16777216) % 4294967296) (((s / 65536 % 256 % 4294967296) * 65536) % 4294967296)) (((s / 256 % 256 % 4294967296) * 256) % 4294967296)) (s % 256 % 4294967296) = s := by
  have p24 : ((2 : Int) ^ 24) = 16777216 := by decide
  have p16 : ((2 : Int) ^ 16) = 65536 := by decide
  have p8 : ((2 : Int) ^ 8) = 256 := by decide
  have e1 : ((s / 16777216 % 256 % 4294967296) * 16777216) % 4294967296 = (s / 16777216) * 2 ^ 24 := by rw [p24]; omega
  have e2 : ((s / 65536 % 256 % 4294967296) * 65536) % 4294967296 = (s / 65536 % 256) * 65536 := by omega
  have e3 : ((s / 256 % 256 % 4294967296) * 256) % 4294967296 = (s / 256 % 256) * 256 := by omega
  have e4 : s % 256 % 4294967296 = s % 256 := by omega
  rw [e1, e2, e3, e4, u32_or_add _ _ 24 (by omega) (by omega) (by rw [p24]; omega) (by rw [p24]; omega), p24,
    show s / 16777216 * 16777216 + s / 65536 % 256 * 65536 = (s / 65536) * 2 ^ 16 by rw [p16]; omega,
    u32_or_add _ _ 16 (by omega) (by omega) (by rw [p16]; omega) (by rw [p16]; omega), p16,
    show s / 65536 * 65536 + s / 256 % 256 * 256 = (s / 256) * 2 ^ 8 by rw [p8]; omega,
    u32_or_add _ _ 8 (by omega) (by omega) (by rw [p8]; omega) (by rw [p8]; omega), p8]
  omega
theorem len_or (n : Int) (h0 : 0 ≤ n) (h1 : n ≤ 32768) : Go.bits .or .i64 (wrap64 ((wrap64 (n / 256 % 256)) * 256)) (wrap64 (n % 256)) = n := by
  have p8 : ((2 : Int) ^ 8) = 256 := by decide
  rw [wr (n / 256 % 256) (by omega) (by omega), wr (n % 256) (by omega) (by omega), wr _ (by omega) (by omega), show n / 256 % 256 * 256 = (n / 256) * 2 ^ 8 by rw [p8]; omega,
    i64_or_add _ _ 8 (by omega) (by omega) (by rw [p8]; omega) (by rw [p8]; omega), p8]
  omega

/-- What a frame's bytes, with whatever sum, open to, whatever stands behind them. -/
theorem Open_any (kind : Int) (s : Int) (l m : List Int) (h0 : 0 ≤ kind) (h1 : kind < 256) (hs0 : 0 ≤ s) (hs1 : s < 4294967296) (hl : Bytes l) (hn : l.length ≤ 32768) (hm : m.length ≤ 140737488000000) (k : Nat) (hk : l.length + 3 < k) :
    seal_Open.f k (head3 kind l ++ four s ++ l ++ m) = if S (head3 kind l ++ l) = s then some (kind, l, 7 + (l.length : Int), 0) else some (0, [], 0, 6) := by
  have hlen : (head3 kind l ++ four s ++ l ++ m).length = 7 + l.length + m.length := by simp [head3, four]; omega
  have r0 : rd (head3 kind l ++ four s ++ l ++ m) 0 = (l.length : Int) / 256 % 256 := rfl
  have r1 : rd (head3 kind l ++ four s ++ l ++ m) 1 = (l.length : Int) % 256 := rfl
  have r2 : rd (head3 kind l ++ four s ++ l ++ m) 2 = kind := rfl
  have r3 : rd (head3 kind l ++ four s ++ l ++ m) 3 = s / 16777216 % 256 := rfl
  have r4 : rd (head3 kind l ++ four s ++ l ++ m) 4 = s / 65536 % 256 := rfl
  have r5 : rd (head3 kind l ++ four s ++ l ++ m) 5 = s / 256 % 256 := rfl
  have r6 : rd (head3 kind l ++ four s ++ l ++ m) 6 = s % 256 := rfl
  have t3 : (head3 kind l ++ four s ++ l ++ m).take 3 = head3 kind l := rfl
  have tl : ((head3 kind l ++ four s ++ l ++ m).take (7 + l.length)).drop 7 = l := by
    have e : head3 kind l ++ four s ++ l ++ m = (head3 kind l ++ four s) ++ (l ++ m) := by simp
    have e7 : (head3 kind l ++ four s).length = 7 := rfl
    rw [e, List.take_append, e7, List.take_of_length_le (by rw [e7]; omega), show 7 + l.length - 7 = l.length by omega, List.take_left' rfl, List.drop_append, e7]
    simp
    exact Nat.le_refl 7
  unfold seal_Open.f
  rw [hlen, r0, r1, r2, r3, r4, r5, r6, len_or _ (by omega) (by omega), wr (7 + (l.length : Int)) (by omega) (by omega), show (7 + (l.length : Int)).toNat = 7 + l.length by omega, tl, four_or _ hs0 hs1]
  have t3' : List.take (3 : Int).toNat (head3 kind l ++ four s ++ l ++ m) = head3 kind l := t3
  refine iteF (by omega) (iteT (by omega) (iteT (by omega) (iteF (by omega) (iteF (by omega) (iteT (by omega) (iteT (by omega) (iteT ?_ (bindE rfl (iteT (by omega) (bindE (a := S (head3 kind l ++ l)) ?_ (iteT (by omega) (iteT (by omega) (iteT (by omega) (iteT (by omega) ?_))))))))))))))
  · simp; omega
  · first | rw [t3] | rw [t3'] | skip
    exact sum_f (head3 kind l) l (head3_bytes kind l h0 h1) hl (by simp [head3]) (by omega) k (by simp [head3]; omega) (by omega)
  · by_cases c : S (head3 kind l ++ l) = s
    · rw [if_pos c, if_pos c]
      exact iteT (by omega) (by simp)
    · rw [if_neg c, if_neg c]
theorem Open_frame (kind : Int) (l m : List Int) (h0 : 0 ≤ kind) (h1 : kind < 256) (hl : Bytes l) (hn : l.length ≤ 32768) (hm : m.length ≤ 140737488000000) (k : Nat) (hk : l.length + 3 < k) :
    seal_Open.f k (frame kind l ++ m) = some (kind, l, 7 + (l.length : Int), 0) := by
  have hS := S_bd (head3 kind l ++ l)
  have := Open_any kind (S (head3 kind l ++ l)) l m h0 h1 hS.1 hS.2 hl hn hm k hk
  rw [if_pos rfl] at this
  exact this
theorem Open_nil (k : Nat) : seal_Open.f k [] = some (0, [], 0, 7) := by
  unfold seal_Open.f
  exact iteT (by simp) rfl
theorem awake_eq (k : Nat) (hk : 3 < k) : gazetteerlaw8_awake.f k = some true := by
  unfold gazetteerlaw8_awake.f
  have nb : Bytes [] := fun x hx => by cases hx
  refine bindE (Frame_ok 1 [] (by omega) (by omega) nb (by simp) k (by simpa using hk)) (bindE (a := (1, [], 7, 0)) ?_ ?_)
  · have := Open_frame 1 [] [] (by omega) (by omega) nb (by simp) (by simp) k (by simpa using hk)
    simpa using this
  · refine iteT rfl (iteT rfl (iteT (by simp [frame_len]) (iteT rfl (iteT rfl (iteT rfl (iteT (by simp [frame_len]) ?_))))))
    rfl
/-- The lower half of a sum. -/
theorem ck_one (l : List Int) : ∀ p : Int × Int, 0 ≤ p.1 → p.1 < 65521 → (ck p l).1 = (p.1 + l.sum) % 65521 := by
  induction l with
  | nil => intro p h0 h1; simp only [List.sum_nil]; unfold ck; simp only [List.foldl_nil]; omega
  | cons x l ih =>
    intro p h0 h1
    have := ih (upd p x) (by unfold upd; simp only; omega) (by unfold upd; simp only; omega)
    have e : ck p (x :: l) = ck (upd p x) l := rfl
    rw [e, this, List.sum_cons]
    unfold upd
    simp only
    omega
theorem S_mod (l : List Int) : S l % 65536 = (1 + l.sum) % 65521 := by
  have h := ck_half l (1, 0) half10
  have e := ck_one l (1, 0) (by simp) (by simp)
  unfold Half at h
  unfold S
  simp only at e
  omega
/-- The word. -/
def wiki : List Int := [87, 105, 107, 105, 112, 101, 100, 105, 97]
def wf : List Int := frame 9 wiki
theorem wiki_bytes : Bytes wiki := by
  intro x hx
  simp only [wiki, List.mem_cons, List.not_mem_nil, or_false] at hx
  rcases hx with rfl | rfl | rfl | rfl | rfl | rfl | rfl | rfl | rfl <;> omega
theorem zeros_bytes (n : Nat) : Bytes (List.replicate n 0) := by
  intro x hx
  have := List.eq_of_mem_replicate hx
  omega
theorem wf_eq : wf = [0, 9, 9, 18, 166, 3, 170, 87, 105, 107, 105, 112, 101, 100, 105, 97] := by kernel_rfl
theorem all_eq : seal_All.f 33000 (([] ++ wf) ++ wf.take 9) = some ([9 :: wiki], 16) := by rw [wf_eq]; kernel_rfl
theorem open_big : seal_Open.f 33001 [255, 255, 1, 0, 0, 0, 0] = some (0, [], 0, 3) := by kernel_rfl
theorem open_six : seal_Open.f 33000 (wf.take 6) = some (0, [], 0, 7) := by rw [wf_eq]; kernel_rfl
theorem SealKnown : gazetteerlaw8_SealKnown.Pure := by
  refine ⟨33001, ?_⟩
  unfold gazetteerlaw8_SealKnown.f
  have len8 : (List.replicate 32768 (0 : Int)).length = 32768 := List.length_replicate
  have len9 : (List.replicate 32769 (0 : Int)).length = 32769 := List.length_replicate
  have hz := Open_frame 1 (List.replicate 32768 0) [] (by omega) (by omega) (zeros_bytes _) (by rw [len8]; omega) (by decide) 33001 (by rw [len8]; omega)
  rw [List.append_nil] at hz
  refine bindE (awake_eq _ (by omega)) (iteT rfl (bindE (Frame_ok 9 wiki (by omega) (by omega) wiki_bytes (by decide) _ (by decide)) (iteT (by decide) (bindE (Frame_ok 1 (List.replicate 32768 0) (by omega) (by omega) (zeros_bytes _) (by rw [len8]; omega) _ (by rw [len8]; omega)) (iteT (by decide) (bindE (Frame_long 1 _ (by rw [len9]; omega) _) (bindE hz (bindE open_big (iteT rfl ?_)))))))))
  have el : ((frame 9 wiki).length : Int) = 16 := by rw [frame_len]; rfl
  have efl : (frame 1 (List.replicate 32768 0)).length = 32775 := by rw [frame_len, len8]
  simp only []
  rw [el]
  rw [gazetteerlaw8_SealKnown.j0]
  rw [el]
  refine iteF (by decide) (iteT (by decide) (bindE open_six (bindE rfl (iteT (by rw [frame_len]; decide) (bindE rfl (iteT (by decide) (bindE rfl (iteT ?_ (bindE all_eq (bindE (a := 300286872) (by kernel_rfl) (iteT rfl (bindE (a := 1) (by kernel_rfl) (iteT rfl ?_)))))))))))))
  · show ([] ++ wf).length + (wf.take 9).length < _
    rw [wf_eq]; decide
  refine iteT (by decide) (iteT (by show rd wf 0 = 0; rw [wf_eq]; rfl) (iteT (by decide) (iteT (by show rd wf 1 = 9; rw [wf_eq]; rfl) (iteT (by decide) (iteT (by show rd wf 2 = 9; rw [wf_eq]; rfl) ?_)))))
  refine iteT rfl (iteT rfl (iteT rfl (iteT rfl (iteT (by rw [len8]; rfl) (iteT (by rw [efl, len8]; rfl) (iteT rfl (iteT rfl (iteT rfl (iteT rfl (iteT (by decide) ?_))))))))))
  kernel_rfl
end Go.Proofs.Ytkolcgofhjbebaa.Pure

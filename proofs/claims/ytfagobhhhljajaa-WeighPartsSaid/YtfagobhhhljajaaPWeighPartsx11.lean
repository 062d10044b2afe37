-- printed by a program of this session (wip/tools), a turned form of the kit's print
import Derived.Test.YtfagobhhhljajaaPWeighPartsx0
import Derived.Test.YtfagobhhhljajaaPWeighPartsx2
import Derived.Test.YtfagobhhhljajaaPWeighPartsx8
import Derived.Test.YtfagobhhhljajaaPWeighPartsx9
import Derived.Test.YtfagobhhhljajaaPWeighPartsx10
namespace Go.Proofs.Ytfagobhhhljajaa.PWeighParts
open Go.RowKit Go.Proofs.YtfagobhhhljajaaW.PrintWords Go.Proofs.YtfagobhhhljajaaW.PrintLast Go.Proofs.YtfagobhhhljajaaW.PrintMore
attribute [local go_sem] max2_int min2_int max_two min_two max_three min_three max_four min_four max2_str min2_str str_geq str_leq str_gtr   -- for this text's walks alone
set_option linter.unusedVariables false
set_option linter.unusedSimpArgs false

/-! ### gazetteerref1_TableMay: function 15 -/
/-- Two rows of runes, compared: below nought, nought, above. -/
def cmpV : List Int → List Int → Int
 | [], t => -(t.length : Int)
 | a :: s, [] => (((a :: s).length : Nat) : Int)
 | a :: s, b :: t => if a = b then cmpV s t else if a < b then -1 else 1
/-- What is wrong with an element. -/
def elBad (e : S39) : Bool := (((((((decide (e.f0 < 0) || decide (60000 < e.f0)) || decide (e.f1 < 0)) || decide (200 < e.f1)) || decide (e.f2 < 0)) || decide (200 < e.f2)) || (decide (0 < e.f0) && decide (e.f1 = 0))) || (decide (0 < e.f1) && decide (e.f2 = 0)))
/-- What is wrong with a row, but for its runes and elements. -/
def trowBad (rows : List S44) (i : Nat) : Bool := (((decide ((rows.getD i z44).f0.length < 1) || decide (3 < (rows.getD i z44).f0.length)) || decide (4 < (rows.getD i z44).f1.length)) || (decide (0 < i) && decide (0 ≤ cmpV (rows.getD (i - 1) z44).f0 (rows.getD i z44).f0)))
def refTRow (l : List S42) (rows : List S44) (i : Nat) : Bool := !trowBad rows i && ((rows.getD i z44).f0.all (refTo l) && ((rows.getD i z44).f1.all (fun e => !elBad e) && !(decide (1 < (rows.getD i z44).f0.length) && decide (firstAt (fun x : S44 => x.f0 == (rows.getD i z44).f0.take 1) rows < 0))))
def loreV (l : List S42) : Bool := decide (l.length ≤ 64) && (List.range l.length).all (refRow l)
def gazetteerref1_TableMay.f (l0_0 : List S42) (l0_1 : List S44) (a0_2 : Int) (_ : Bool) : Option Bool := some (loreV l0_0 && (decide (l0_1.length ≤ 64) && ((decide (0 ≤ a0_2) && decide (a0_2 ≤ 60000)) && (List.range l0_1.length).all (refTRow l0_0 l0_1))))
open Go.Proofs.YtfagobhhhljajaaW.PrintReg
theorem rcmp_l (a b : List Int) (ha : a.length ≤ 9223372036854775807) (hb : b.length ≤ 9223372036854775807) (d : Nat) : ∀ (k i : Nat), i ≤ a.length → i ≤ b.length → a.length - i = d → 2 * d + 2 ≤ k → gazetteerref1_compare.l0 k a b (i : Int) = some (cmpV (a.drop i) (b.drop i)) := by
 induction d with
 | zero =>
  intro k i hi hj hd hk
  obtain ⟨k, rfl⟩ : ∃ j, k = j + 2 := ⟨k - 2, by omega⟩
  simp only [gazetteerref1_compare.l0]
  rw [if_neg (by omega), List.drop_eq_nil_of_le (by omega : a.length ≤ i)]
  simp only [gazetteerref1_compare.j1, cmpV, List.length_drop]
  rw [if_neg (by simp)]
  congr 1
  unfold wrap64; omega
 | succ d ih =>
  intro k i hi hj hd hk
  obtain ⟨k, rfl⟩ : ∃ j, k = j + 2 := ⟨k - 2, by omega⟩
  have hlt : i < a.length := by omega
  simp only [gazetteerref1_compare.l0]
  rw [if_pos (by omega), List.drop_eq_getElem_cons hlt]
  by_cases hb2 : i < b.length
  ·
   rw [decide_eq_true (by omega : (i : Int) < (b.length : Int)), List.drop_eq_getElem_cons hb2]
   simp only [gazetteerref1_compare.j1, cmpV]
   have e1 : rd a (i : Int) = a[i] := by unfold rd; simp [List.getD, hlt]
   have e2 : rd b (i : Int) = b[i] := by unfold rd; simp [List.getD, hb2]
   rw [if_pos (by first | rfl | trivial), if_pos (by omega), if_pos (by omega), if_pos (by omega), e1, e2, show wrap64 ((i : Int) + 1) = ((i + 1 : Nat) : Int) by unfold wrap64; omega, ih k (i + 1) (by omega) (by omega) (by omega) (by omega)]
   split
   ·
    rfl
   ·
    split <;> rfl
  ·
   rw [decide_eq_false (by omega : ¬ (i : Int) < (b.length : Int)), List.drop_eq_nil_of_le (by omega : b.length ≤ i)]
   simp only [gazetteerref1_compare.j1, cmpV]
   rw [if_neg (by simp)]
   congr 1
   rw [List.length_cons, List.length_drop]
   unfold wrap64; omega
theorem rcmp_ok (a b : List Int) (ha : a.length ≤ 9223372036854775807) (hb : b.length ≤ 9223372036854775807) (k : Nat) (hk : 2 * a.length + 2 ≤ k) : gazetteerref1_compare.f k a b = some (cmpV a b) :=
 rcmp_l a b ha hb a.length k 0 (by omega) (by omega) (by omega) hk
theorem cmpV_zero : ∀ {a b : List Int}, cmpV a b = 0 ↔ a = b
 | [], b => by
  unfold cmpV
  constructor
  ·
   intro h; exact (List.eq_nil_of_length_eq_zero (by omega)).symm
  ·
   rintro rfl; simp
 | a :: s, [] => by
  unfold cmpV
  constructor
  ·
   intro h; rw [List.length_cons] at h; omega
  ·
   intro h; cases h
 | a :: s, b :: t => by
  unfold cmpV
  by_cases h : a = b
  ·
   rw [if_pos h, cmpV_zero, h]; simp
  ·
   rw [if_neg h]
   constructor
   ·
    split <;> (intro h2; cases h2)
   ·
    intro h2; exact absurd (List.cons.inj h2).1 h
theorem rrow_l (l : List S42) (rows : List S44) (top : Int) (sh : Bool) (s : List Int) (hs : s.length ≤ 9223372036854775807) (hr : rows.length ≤ 1000000) (hf : ∀ j < rows.length, (rows.getD j z44).f0.length ≤ 9223372036854775807) (B : Nat) (hB : ∀ j < rows.length, 2 * (rows.getD j z44).f0.length + 2 ≤ B) (d : Nat) : ∀ (k i : Nat), i ≤ rows.length → rows.length - i = d → B + d < k → (∀ j < i, (rows.getD j z44).f0 ≠ s) →
  gazetteerref1_row.l0 k s (i : Int) l rows top sh = some (firstAt (fun x : S44 => x.f0 == s) rows) := by
 induction d with
 | zero =>
  intro k i hi hd hk hj
  obtain ⟨k, rfl⟩ : ∃ j, k = j + 1 := ⟨k - 1, by omega⟩
  simp only [gazetteerref1_row.l0]
  rw [if_neg (by omega), firstAt_none (d := z44) (fun j h => by simpa using hj j (by omega))]
 | succ d ih =>
  intro k i hi hd hk hj
  obtain ⟨k, rfl⟩ : ∃ j, k = j + 1 := ⟨k - 1, by omega⟩
  simp only [gazetteerref1_row.l0]
  rw [if_pos (by omega), if_pos (by omega)]
  have e : rd_T44 rows (i : Int) = rows.getD i z44 := by unfold rd_T44; rw [Int.toNat_natCast]
  rw [e, rcmp_ok _ _ (hf i (by omega)) hs k (by have := hB i (by omega); omega), Option.bind_some]
  by_cases h : (rows.getD i z44).f0 = s
  ·
   rw [if_pos (cmpV_zero.2 h), firstAt_at (d := z44) (k := i) (by omega) (by simpa using h) (fun j h2 => by simpa using hj j h2)]
  ·
   rw [if_neg (fun h2 => h (cmpV_zero.1 h2)), show wrap64 ((i : Int) + 1) = ((i + 1 : Nat) : Int) by unfold wrap64; omega]
   exact ih k (i + 1) (by omega) (by omega) (by omega) (fun j h2 => by rcases Nat.lt_succ_iff_lt_or_eq.1 h2 with h3 | rfl; exact hj j h3; exact h)
theorem rrow_ok (l : List S42) (rows : List S44) (top : Int) (sh : Bool) (s : List Int) (hs : s.length ≤ 9223372036854775807) (hr : rows.length ≤ 1000000) (hf : ∀ j < rows.length, (rows.getD j z44).f0.length ≤ 9223372036854775807) : gazetteerref1_row.f (18446744073709551618 + rows.length) l rows top sh s = some (firstAt (fun x : S44 => x.f0 == s) rows) :=
 rrow_l l rows top sh s hs hr hf 18446744073709551617 (fun j h => by have := hf j h; omega) rows.length _ 0 (by omega) (by omega) (by omega) (fun j h => absurd h (by omega))
set_option maxHeartbeats 8000000 in
set_option maxRecDepth 100000 in
theorem gazetteerref1_TableMay.calls (A0_0 : Option Addr) (c0_0 : Nat) (l0_0 : List (S42)) (A0_1 : Option Addr) (c0_1 : Nat) (l0_1 : List (S44)) (a0_2 : Int) (a0_3 : Bool) (r : Bool) (w : World) (hr0_0 : Kd.C k42 w A0_0 l0_0.length l0_0) (hc0_0 : l0_0.length ≤ c0_0) (hr0_1 : Kd.C k44 w A0_1 l0_1.length l0_1) (hc0_1 : l0_1.length ≤ c0_1) (h : gazetteerref1_TableMay.f l0_0 l0_1 a0_2 a0_3 = some r) :
  Calls Try.prog 15 #[.agg #[.slice A0_0 l0_0.length c0_0, .slice A0_1 l0_1.length c0_1, .int .i64 a0_2, .bool a0_3]] w fun e w' => e = .returned (.bool r) ∧ Below w.heap.size w w' := by
 obtain rfl := Option.some.inj h
 obtain ⟨W, hW⟩ : ∃ W, W = w.alloc (.cells #[.slice A0_0 l0_0.length c0_0, .slice A0_1 l0_1.length c0_1, .int .i64 a0_2, .bool a0_3] 25) := ⟨_, rfl⟩
 have hB : Below w.heap.size w W := by subst hW; exact below_alloc (Below.refl _ _) _
 have t0 : W.heap[w.heap.size]? = some (.cells #[.slice A0_0 l0_0.length c0_0, .slice A0_1 l0_1.length c0_1, .int .i64 a0_2, .bool a0_3] 25 (0, 0)) := by subst hW; exact blk_new w _
 have q0 : W.cell? ⟨w.heap.size, 0, none⟩ = some (.slice A0_0 l0_0.length c0_0) := (blk_cell t0 0).trans rfl
 have HR := Aside0.mk (And.intro hr0_0 (And.intro hc0_0 (And.intro hr0_1 hc0_1)))
 have FM := Aside0.mk (gazetteerref1_LoreMay.calls A0_0 c0_0 l0_0 (loreV l0_0) W (Kd.C_below hr0_0 hB) hc0_0 rfl)
 have HB := Aside0.mk hB
 have T0 := Aside0.mk t0
 clear hr0_0 hc0_0 hr0_1 hc0_1 h hB t0
 go_enter Try.func15, Try.ntmps15
 rw [hW] at q0
 go_wp2_with fail
 rw [← hW]
 refine FM.out.mono ?_
 rintro e w1 ⟨rfl, hb⟩
 have HB1 := Aside0.mk (below_step HB.out hb)
 have T1 := Aside0.mk (blk_below T0.out hb)
 have q1 : w1.cell? ⟨w.heap.size, 1, none⟩ = some (.slice A0_1 l0_1.length c0_1) := (blk_cell T1.out 1).trans rfl
 have q2 : w1.cell? ⟨w.heap.size, 2, none⟩ = some (.int .i64 a0_2) := (blk_cell T1.out 2).trans rfl
 clear hb q0 hW FM T0 HB
 cases hlv : loreV l0_0 with
 | false =>
  have HLV := Aside0.mk hlv
  clear hlv
  go_wp2_with fail
  go_ret
  exact ⟨by rw [HLV.out]; rfl, HB1.out⟩
 | true =>
 have HLV := Aside0.mk hlv
 have HL : Aside0 (l0_0.length ≤ 64) := ⟨by
  unfold loreV at hlv
  rw [Bool.and_eq_true] at hlv
  exact of_decide_eq_true hlv.1⟩
 clear hlv
 by_cases h64 : 64 < l0_1.length
 ·
  have r1 : ((64 : Int) < (l0_1.length : Int)) = True := eq_true (by omega)
  have r2 : (64 < l0_1.length) = True := eq_true h64
  have HD := Aside0.mk (decide_eq_false (show ¬ l0_1.length ≤ 64 by omega))
  clear h64
  go_wp2_with fail
  go_ret
  exact ⟨by rw [HLV.out, HD.out]; rfl, HB1.out⟩
 have r1 : ((64 : Int) < (l0_1.length : Int)) = False := eq_false (by omega)
 have r2 : (64 < l0_1.length) = False := eq_false h64
 have HD := Aside0.mk (decide_eq_true (show l0_1.length ≤ 64 by omega))
 have HN0 : Aside0 (l0_1.length ≤ 64) := ⟨by omega⟩
 clear h64
 by_cases htp : a0_2 < 0
 ·
  have t1 := eq_true htp
  have HTP := Aside0.mk (decide_eq_false (show ¬ 0 ≤ a0_2 by omega))
  clear htp
  go_wp2_with fail
  go_ret
  exact ⟨by rw [HLV.out, HD.out, HTP.out]; rfl, HB1.out⟩
 have t1 := eq_false htp
 have HTP := Aside0.mk (decide_eq_true (show 0 ≤ a0_2 by omega))
 clear htp
 by_cases htq : 60000 < a0_2
 ·
  have t2 := eq_true htq
  have HTQ := Aside0.mk (decide_eq_false (show ¬ a0_2 ≤ 60000 by omega))
  clear htq
  go_wp2_with fail
  go_ret
  exact ⟨by rw [HLV.out, HD.out, HTP.out, HTQ.out]; rfl, HB1.out⟩
 have t2 := eq_false htq
 have HTQ := Aside0.mk (decide_eq_true (show a0_2 ≤ 60000 by omega))
 clear htq
 obtain ⟨n, hn⟩ : ∃ n, n = l0_1.length := ⟨_, rfl⟩
 have FD := Aside0.mk (fun (r : Int) (W' : World) (hb : Below w.heap.size w W') => gazetteerref1_find.calls (l0_0.length + 1) A0_0 c0_0 l0_0 r _ W' (Kd.C_below HR.out.1 hb) HR.out.2.1 (rfind_ok l0_0 (by have := HL.out; omega) r))
 have HF : Aside0 (∀ j < l0_1.length, (l0_1.getD j z44).f0.length ≤ 9223372036854775807) := ⟨fun j hj => by
  obtain ⟨_, _, _, _, _, _, _, _, _, g, _⟩ := at_T44 HR.out.2.2.1 (j : Int) (by omega) (by omega)
  have := Kd.C_max g
  unfold rd_T44 at this
  rwa [Int.toNat_natCast] at this⟩
 have FROW := Aside0.mk (fun (s : List Int) (A : Option Addr) (c : Nat) (W' : World) (hb : Below w.heap.size w W') (hC : Kd.C (Kd.int .i32) W' A s.length s) (hc : s.length ≤ c) => gazetteerref1_row.calls (18446744073709551618 + l0_1.length) A0_0 c0_0 l0_0 A0_1 c0_1 l0_1 a0_2 a0_3 A c s _ W' (Kd.C_below HR.out.1 hb) HR.out.2.1 (Kd.C_below HR.out.2.2.1 hb) HR.out.2.2.2 hC hc (rrow_ok l0_0 l0_1 a0_2 a0_3 s hC.2.1 (by have := HN0.out; omega) HF.out))
 rw [← hn] at FROW
 rw [← hn] at q1 HN0 HD HF r1 r2
 rw [← hn] at T1
 rw [← hn]
 have HNE := Aside0.mk (And.intro hn trivial)
 clear hn
 go_wp2_with fail
 go_loopw [3] (fun v wr => ∃ i : Nat, v = .int .i64 (i : Int) ∧ Aside0 (i ≤ n ∧ ∀ j < i, refTRow l0_0 l0_1 j = true) ∧ Aside0 (Below w1.heap.size w1 wr)) (fun v _ => n - (intOf v).toNat)
 case atStart => exact ⟨0, rfl, ⟨Nat.zero_le _, by omega⟩, ⟨Below.refl _ _⟩⟩
 case round =>
  obtain ⟨i, rfl, HA, HBR⟩ := hrel
  have q3 : wr.cell? ⟨w.heap.size, 1, none⟩ = some (.slice A0_1 n c0_1) := (blk_cell (blk_below T1.out HBR.out) 1).trans rfl
  have HBW := Aside0.mk (below_step HB1.out HBR.out)
  by_cases hlt : (i : Int) < (n : Int)
  ·
   have r3 := eq_true hlt
   have r4 : (i < n) = True := eq_true (by omega)
   have r0 : ((0 : Int) ≤ (i : Int)) = True := eq_true (by omega)
   have HI : Aside0 (i < n) := ⟨by omega⟩
   obtain ⟨ad, A3, c3, A4, c4, e, hx0, hx1, k3, g3, k4, g4⟩ := at_T44 HR.out.2.2.1 (i : Int) (by omega) (by rw [← HNE.out.1]; exact hlt)
   cases e
   simp only [Int.toNat_natCast] at hx0 hx1
   replace hx0 := cell_keep HBW.out hx0
   replace hx1 := cell_keep HBW.out hx1
   obtain ⟨X, hX⟩ : ∃ X, X = rd_T44 l0_1 (i : Int) := ⟨_, rfl⟩
   rw [← hX] at hx0 hx1 k3 g3 k4 g4
   have HXD : Aside0 (l0_1.getD i z44 = X) := ⟨by rw [hX]; unfold rd_T44; rw [Int.toNat_natCast]⟩
   have HG := Aside0.mk (And.intro k3 (And.intro g3 (And.intro k4 g4)))
   clear hX hlt k3 g3 k4 g4
   go_wp2_with fail
   obtain ⟨w7, hw7⟩ : ∃ w7, w7 = wr.alloc (.cells #[.slice A3 X.f0.length c3, .slice A4 X.f1.length c4] 44) := ⟨_, rfl⟩
   obtain ⟨gx, hgx⟩ : ∃ gx, gx = wr.heap.size := ⟨_, rfl⟩
   rw [← hw7, ← hgx]
   have HX : Aside0 (w7.heap[gx]? = some (.cells #[.slice A3 X.f0.length c3, .slice A4 X.f1.length c4] 44 (0, 0))) := ⟨by rw [hw7, hgx]; exact blk_new wr _⟩
   have HBR0 : Aside0 (Below w1.heap.size w1 w7) := ⟨by rw [hw7]; exact below_alloc HBR.out _⟩
   have HBR1 := Aside0.mk (below_step HB1.out HBR0.out)
   have TT1 := Aside0.mk (blk_below T1.out HBR0.out)
   obtain ⟨pi, hpi⟩ : ∃ pi, pi = i - 1 := ⟨_, rfl⟩
   obtain ⟨PV, hpv⟩ : ∃ PV, PV = l0_1.getD (i - 1) z44 := ⟨_, rfl⟩
   obtain ⟨p, hp⟩ : ∃ p, p = decide (0 < i) := ⟨_, rfl⟩
   have HP : Aside0 (((0 : Int) < (i : Int)) = True ∧ (0 < i) = True ∧ p = true ∨ ((0 : Int) < (i : Int)) = False ∧ (0 < i) = False ∧ p = false) := ⟨by by_cases h : 0 < i; exact .inl ⟨eq_true (by omega), eq_true h, hp.trans (decide_eq_true h)⟩; exact .inr ⟨eq_false (by omega), eq_false h, hp.trans (decide_eq_false h)⟩⟩
   obtain ⟨A5, c5, hpi5⟩ : ∃ (A5 : Option Addr) (c5 : Nat), p = true → wrap64 ((i : Int) - 1) = (pi : Int) ∧ ((0 : Int) ≤ (pi : Int)) = True ∧ ((pi : Int) < (n : Int)) = True ∧ (pi < n) = True ∧ w.cell? (ad.add (pi * 2)) = some (.slice A5 PV.f0.length c5) ∧ PV.f0.length ≤ c5 ∧ Kd.C (Kd.int .i32) w A5 PV.f0.length PV.f0 := by
    by_cases h : 0 < i
    ·
     have hh := HI.out
     have hn := HN0.out
     obtain ⟨ad2, A5, c5, A6, c6, e, h0, _, h1, h2, _⟩ := at_T44 HR.out.2.2.1 (pi : Int) (by omega) (by rw [← HNE.out.1]; omega)
     cases e
     rw [Int.toNat_natCast] at h0
     have e : rd_T44 l0_1 (pi : Int) = PV := by rw [hpv, hpi]; unfold rd_T44; rw [Int.toNat_natCast]
     rw [e] at h0 h1 h2
     exact ⟨A5, c5, fun _ => ⟨by unfold wrap64; omega, eq_true (by omega), eq_true (by omega), eq_true (by omega), h0, h1, h2⟩⟩
    ·
     exact ⟨none, 0, fun h2 => by rw [hp, decide_eq_false h] at h2; cases h2⟩
   have HPI := Aside0.mk hpi5
   obtain ⟨cv, hcv⟩ : ∃ cv, cv = cmpV PV.f0 X.f0 := ⟨_, rfl⟩
   have FCM := Aside0.mk (fun (h : p = true) (W' : World) (hb : Below w.heap.size w W') => gazetteerref1_compare.calls (2 * PV.f0.length + 2) A5 c5 PV.f0 A3 c3 X.f0 _ W' (Kd.C_below (hpi5 h).2.2.2.2.2.2 hb) (hpi5 h).2.2.2.2.2.1 (Kd.C_below HG.out.2.1 hb) HG.out.1 (rcmp_ok PV.f0 X.f0 (Kd.C_max (hpi5 h).2.2.2.2.2.2) (Kd.C_max HG.out.2.1) _ (Nat.le_refl _)))
   rw [← hcv] at FCM
   have bools : ∀ (a b : Nat), ((a : Int) < (b : Int)) = True ∧ (a < b) = True ∧ decide (a < b) = true ∨ ((a : Int) < (b : Int)) = False ∧ (a < b) = False ∧ decide (a < b) = false := fun a b => by by_cases h : a < b; exact .inl ⟨eq_true (by omega), eq_true h, decide_eq_true h⟩; exact .inr ⟨eq_false (by omega), eq_false h, decide_eq_false h⟩
   obtain ⟨c1, hc1⟩ : ∃ b, b = decide (X.f0.length < 1) := ⟨_, rfl⟩
   obtain ⟨c2, hc2⟩ : ∃ b, b = decide (3 < X.f0.length) := ⟨_, rfl⟩
   obtain ⟨c5_, hc3⟩ : ∃ b, b = decide (4 < X.f1.length) := ⟨_, rfl⟩
   obtain ⟨q, hq⟩ : ∃ b, b = decide (0 ≤ cv) := ⟨_, rfl⟩
   have HC1 := Aside0.mk (show ((X.f0.length : Int) < (1 : Int)) = True ∧ (X.f0.length < 1) = True ∧ decide (X.f0.length < 1) = true ∨ ((X.f0.length : Int) < (1 : Int)) = False ∧ (X.f0.length < 1) = False ∧ decide (X.f0.length < 1) = false from bools X.f0.length 1)
   have HC2 := Aside0.mk (show ((3 : Int) < (X.f0.length : Int)) = True ∧ (3 < X.f0.length) = True ∧ decide (3 < X.f0.length) = true ∨ ((3 : Int) < (X.f0.length : Int)) = False ∧ (3 < X.f0.length) = False ∧ decide (3 < X.f0.length) = false from bools 3 X.f0.length)
   have HC3 := Aside0.mk (show ((4 : Int) < (X.f1.length : Int)) = True ∧ (4 < X.f1.length) = True ∧ decide (4 < X.f1.length) = true ∨ ((4 : Int) < (X.f1.length : Int)) = False ∧ (4 < X.f1.length) = False ∧ decide (4 < X.f1.length) = false from bools 4 X.f1.length)
   have HQ : Aside0 ((0 ≤ cv) = True ∧ True ∧ q = true ∨ (0 ≤ cv) = False ∧ True ∧ q = false) := ⟨by by_cases h : 0 ≤ cv; exact .inl ⟨eq_true h, trivial, hq.trans (decide_eq_true h)⟩; exact .inr ⟨eq_false h, trivial, hq.trans (decide_eq_false h)⟩⟩
   rw [← hc1] at HC1
   rw [← hc2] at HC2
   rw [← hc3] at HC3
   obtain ⟨d2, hd2⟩ : ∃ b, b = (c1 || c2) := ⟨_, rfl⟩
   obtain ⟨d3, hd3⟩ : ∃ b, b = (d2 || c5_) := ⟨_, rfl⟩
   obtain ⟨d4, hd4⟩ : ∃ b, b = (d3 || (p && q)) := ⟨_, rfl⟩
   have HBAD : Aside0 (trowBad l0_1 i = d4) := ⟨by
    rw [hd4, hd3, hd2, hc1, hc2, hc3, hp, hq, hcv, hpv]
    unfold trowBad
    rw [HXD.out]⟩
   have HD2 := Aside0.mk hd2
   have HD3 := Aside0.mk hd3
   have HD4 := Aside0.mk hd4
   clear hw7 hgx hpi hpv hp hpi5 hcv bools hc1 hc2 hc3 hq hd2 hd3 hd4 hx0 hx1 q3 r0 r3 r4
   refine wp_reg 33 rfl rfl (by kernel_rfl) (fun z => .agg #[.slice A0_0 l0_0.length c0_0, .slice (some ad) n c0_1, .int .i64 a0_2, .bool a0_3] :: .pointer (some ⟨w.heap.size, 0, none⟩) :: u2 :: .int .i64 (i : Int) :: .pointer (some ⟨gx, 0, none⟩) :: u5 :: u6 :: u7 :: u8 :: .pointer (some ⟨w.heap.size, 0, none⟩) :: .slice A0_0 l0_0.length c0_0 :: .bool true :: .bool false :: .bool false :: .pointer (some ⟨w.heap.size, 1, none⟩) :: .slice (some ad) n c0_1 :: .int .i64 (n : Int) :: .bool false :: .bool false :: .bool false :: .pointer (some ⟨w.heap.size, 2, none⟩) :: .int .i64 a0_2 :: .bool false :: .bool false :: .bool false :: .pointer (some ⟨w.heap.size, 2, none⟩) :: .int .i64 a0_2 :: .bool false :: .bool false :: .int .i64 (i : Int) :: .pointer (some ⟨w.heap.size, 1, none⟩) :: .slice (some ad) n c0_1 :: .int .i64 (n : Int) :: .bool true :: u34 :: u35 :: .pointer (some ⟨w.heap.size, 1, none⟩) :: .slice (some ad) n c0_1 :: .int .i64 (i : Int) :: .pointer (some (ad.add (i * 2))) :: .agg #[.slice A3 X.f0.length c3, .slice A4 X.f1.length c4] :: z 41 :: z 42 :: z 43 :: z 44 :: z 45 :: z 46 :: z 47 :: z 48 :: z 49 :: z 50 :: z 51 :: z 52 :: z 53 :: z 54 :: z 55 :: z 56 :: z 57 :: z 58 :: z 59 :: z 60 :: z 61 :: z 62 :: z 63 :: z 64 :: z 65 :: z 66 :: z 67 :: z 68 :: z 69 :: z 70 :: z 71 :: z 72 :: z 73 :: u74 :: u75 :: u76 :: u77 :: u78 :: u79 :: u80 :: u81 :: u82 :: u83 :: u84 :: u85 :: u86 :: u87 :: u88 :: u89 :: u90 :: u91 :: u92 :: u93 :: u94 :: u95 :: u96 :: u97 :: u98 :: u99 :: u100 :: u101 :: u102 :: u103 :: u104 :: u105 :: u106 :: u107 :: u108 :: u109 :: u110 :: u111 :: u112 :: u113 :: u114 :: u115 :: u116 :: u117 :: u118 :: u119 :: u120 :: u121 :: u122 :: u123 :: u124 :: u125 :: u126 :: u127 :: u128 :: u129 :: u130 :: u131 :: u132 :: u133 :: u134 :: u135 :: u136 :: u137 :: u138 :: u139 :: u140 :: u141 :: u142 :: u143 :: u144 :: u145 :: u146 :: u147 :: u148 :: u149 :: u150 :: u151 :: u152 :: u153 :: u154 :: u155 :: u156 :: u157 :: u158 :: u159 :: u160 :: u161 :: u162 :: u163 :: u164 :: u165 :: u166 :: u167 :: u168 :: u169 :: u170 :: u171 :: u172 :: u173 :: u174 :: u175 :: u176 :: u177 :: u178 :: u179 :: u180 :: u181 :: []) (fun (gg : Unit) => [(0, 41, .pointer (some ⟨gx, 0, none⟩)), (1, 42, .slice A3 X.f0.length c3), (2, 43, .int .i64 (X.f0.length : Int)), (3, 44, .bool c1), (4, 45, .bool c1), (5, 46, bif c1 then undef else .pointer (some ⟨gx, 0, none⟩)), (6, 47, bif c1 then undef else .slice A3 X.f0.length c3), (7, 48, bif c1 then undef else .int .i64 (X.f0.length : Int)), (8, 49, bif c1 then undef else .bool c2), (9, 50, .bool d2), (10, 51, .bool d2), (11, 52, bif d2 then undef else .pointer (some ⟨gx, 1, none⟩)), (12, 53, bif d2 then undef else .slice A4 X.f1.length c4), (13, 54, bif d2 then undef else .int .i64 (X.f1.length : Int)), (14, 55, bif d2 then undef else .bool c5_), (15, 56, .bool d3), (16, 57, .bool d3), (17, 58, bif d3 then undef else .int .i64 (i : Int)), (18, 59, bif d3 then undef else .bool p), (19, 60, bif d3 then undef else .bool p), (20, 61, bif d3 then undef else bif p then .pointer (some ⟨w.heap.size, 1, none⟩) else undef), (21, 62, bif d3 then undef else bif p then .slice (some ad) n c0_1 else undef), (22, 63, bif d3 then undef else bif p then .int .i64 (i : Int) else undef), (23, 64, bif d3 then undef else bif p then .int .i64 (pi : Int) else undef), (24, 65, bif d3 then undef else bif p then .pointer (some (ad.add (pi * 2))) else undef), (25, 66, bif d3 then undef else bif p then .pointer (some (ad.add (pi * 2))) else undef), (26, 67, bif d3 then undef else bif p then .slice A5 PV.f0.length c5 else undef), (27, 68, bif d3 then undef else bif p then .pointer (some ⟨gx, 0, none⟩) else undef), (28, 69, bif d3 then undef else bif p then .slice A3 X.f0.length c3 else undef), (29, 70, bif d3 then undef else bif p then .int .i64 cv else undef), (30, 71, bif d3 then undef else bif p then .bool q else undef), (31, 72, bif d3 then undef else .bool (p && q)), (32, 73, .bool d4)]) (fun LL gg z wx => Aside0 (Below w7.heap.size w7 wx)) () (zz [(41, u41), (42, u42), (43, u43), (44, u44), (45, u45), (46, u46), (47, u47), (48, u48), (49, u49), (50, u50), (51, u51), (52, u52), (53, u53), (54, u54), (55, u55), (56, u56), (57, u57), (58, u58), (59, u59), (60, u60), (61, u61), (62, u62), (63, u63), (64, u64), (65, u65), (66, u66), (67, u67), (68, u68), (69, u69), (70, u70), (71, u71), (72, u72), (73, u73)]) rfl rfl ⟨below_drew (Below.refl _ _)⟩ ?_ ?_
   ·
    refine Steps.cons ?_ (Steps.cons ?_ (Steps.cons ?_ (Steps.cons ?_ (Steps.cons ?_ (Steps.cons ?_ (Steps.cons ?_ (Steps.cons ?_ (Steps.cons ?_ (Steps.cons ?_ (Steps.cons ?_ (Steps.cons ?_ (Steps.cons ?_ (Steps.cons ?_ (Steps.cons ?_ (Steps.cons ?_ (Steps.cons ?_ (Steps.cons ?_ (Steps.cons ?_ (Steps.cons ?_ (Steps.cons ?_ (Steps.cons ?_ (Steps.cons ?_ (Steps.cons ?_ (Steps.cons ?_ (Steps.cons ?_ (Steps.cons ?_ (Steps.cons ?_ (Steps.cons ?_ (Steps.cons ?_ (Steps.cons ?_ (Steps.cons ?_ (Steps.cons ?_ (Steps.nil)))))))))))))))))))))))))))))))))
    ·
     exact V0 0
    ·
     refine V1 1 0 (h := fun LL gg z wx hl hLk e0 K hK => ?_)
     obtain ⟨hb⟩ := hl
     have p0_ : wx.cell? ⟨gx, 0, none⟩ = some (.slice A3 X.f0.length c3) := (blk_cell (blk_below HX.out hb.out) 0).trans rfl
     dsimp only [FA]
     refine wantd (by rfl) ?_
     go_simp
     exact hK.out
    ·
     exact V1 2 1
    ·
     refine V1 3 2 (h := fun LL gg z wx hl hLk e2 K hK => ?_)
     rcases HC1.out with ⟨t1, t2, rfl⟩ | ⟨t1, t2, rfl⟩ <;> (dsimp only [FA]; refine wantd (by rfl) ?_; go_simp; exact hK.out)
    ·
     exact V1 4 3
    ·
     refine G1 5 4 (h := fun LL gg z wx hl hLk eg K hK => ?_)
     cases c1 <;> first | exact unwanted (by dsimp only [FA]; rw [eg]; rfl) (hK z rfl).out | (dsimp only [FA]; refine wantd (by rw [eg]; rfl) ?_; go_simp; exact (hK _ (sm1 eg)).out)
    ·
     refine G2 6 4 5 (h := fun LL gg z wx hl hLk eg e5 K hK => ?_)
     obtain ⟨hb⟩ := hl
     cases c1 <;> first | exact unwanted (by dsimp only [FA]; rw [eg]; rfl) (hK z rfl).out | (have p0_ : wx.cell? ⟨gx, 0, none⟩ = some (.slice A3 X.f0.length c3) := (blk_cell (blk_below HX.out hb.out) 0).trans rfl; dsimp only [FA]; refine wantd (by rw [eg]; rfl) ?_; go_simp; exact (hK _ (sm2 eg e5)).out)
    ·
     refine G2 7 4 6 (h := fun LL gg z wx hl hLk eg e6 K hK => ?_)
     cases c1 <;> first | exact unwanted (by dsimp only [FA]; rw [eg]; rfl) (hK z rfl).out | (dsimp only [FA]; refine wantd (by rw [eg]; rfl) ?_; go_simp; exact (hK _ (sm2 eg e6)).out)
    ·
     refine G2 8 4 7 (h := fun LL gg z wx hl hLk eg e7 K hK => ?_)
     cases c1 <;> rcases HC2.out with ⟨t1, t2, rfl⟩ | ⟨t1, t2, rfl⟩ <;> first | exact unwanted (by dsimp only [FA]; rw [eg]; rfl) (hK z rfl).out | (dsimp only [FA]; refine wantd (by rw [eg]; rfl) ?_; go_simp; exact (hK _ (sm2 eg e7)).out)
    ·
     refine V2 9 4 8 (h := fun LL gg z wx hl hLk e4 e8 K hK => ?_)
     obtain ⟨hb⟩ := hl
     cases c1 <;> (obtain rfl := HD2.out; dsimp only [FA]; refine wantd (by rfl) ?_; go_simp; exact hK.out)
    ·
     exact V1 10 9
    ·
     refine G1 11 10 (h := fun LL gg z wx hl hLk eg K hK => ?_)
     cases d2 <;> first | exact unwanted (by dsimp only [FA]; rw [eg]; rfl) (hK z rfl).out | (dsimp only [FA]; refine wantd (by rw [eg]; rfl) ?_; go_simp; exact (hK _ (sm1 eg)).out)
    ·
     refine G2 12 10 11 (h := fun LL gg z wx hl hLk eg e11 K hK => ?_)
     obtain ⟨hb⟩ := hl
     cases d2 <;> first | exact unwanted (by dsimp only [FA]; rw [eg]; rfl) (hK z rfl).out | (have p1_ : wx.cell? ⟨gx, 1, none⟩ = some (.slice A4 X.f1.length c4) := (blk_cell (blk_below HX.out hb.out) 1).trans rfl; dsimp only [FA]; refine wantd (by rw [eg]; rfl) ?_; go_simp; exact (hK _ (sm2 eg e11)).out)
    ·
     refine G2 13 10 12 (h := fun LL gg z wx hl hLk eg e12 K hK => ?_)
     cases d2 <;> first | exact unwanted (by dsimp only [FA]; rw [eg]; rfl) (hK z rfl).out | (dsimp only [FA]; refine wantd (by rw [eg]; rfl) ?_; go_simp; exact (hK _ (sm2 eg e12)).out)
    ·
     refine G2 14 10 13 (h := fun LL gg z wx hl hLk eg e13 K hK => ?_)
     cases d2 <;> rcases HC3.out with ⟨t1, t2, rfl⟩ | ⟨t1, t2, rfl⟩ <;> first | exact unwanted (by dsimp only [FA]; rw [eg]; rfl) (hK z rfl).out | (dsimp only [FA]; refine wantd (by rw [eg]; rfl) ?_; go_simp; exact (hK _ (sm2 eg e13)).out)
    ·
     refine V2 15 10 14 (h := fun LL gg z wx hl hLk e10 e14 K hK => ?_)
     obtain ⟨hb⟩ := hl
     cases d2 <;> (obtain rfl := HD3.out; dsimp only [FA]; refine wantd (by rfl) ?_; go_simp; exact hK.out)
    ·
     exact V1 16 15
    ·
     refine G1 17 16 (h := fun LL gg z wx hl hLk eg K hK => ?_)
     cases d3 <;> first | exact unwanted (by dsimp only [FA]; rw [eg]; rfl) (hK z rfl).out | (dsimp only [FA]; refine wantd (by rw [eg]; rfl) ?_; go_simp; exact (hK _ (sm1 eg)).out)
    ·
     refine G2 18 16 17 (h := fun LL gg z wx hl hLk eg e17 K hK => ?_)
     cases d3 <;> rcases HP.out with ⟨t1, t2, rfl⟩ | ⟨t1, t2, rfl⟩ <;> first | exact unwanted (by dsimp only [FA]; rw [eg]; rfl) (hK z rfl).out | (dsimp only [FA]; refine wantd (by rw [eg]; rfl) ?_; go_simp; exact (hK _ (sm2 eg e17)).out)
    ·
     refine G2 19 16 18 (h := fun LL gg z wx hl hLk eg e18 K hK => ?_)
     cases d3 <;> first | exact unwanted (by dsimp only [FA]; rw [eg]; rfl) (hK z rfl).out | (dsimp only [FA]; refine wantd (by rw [eg]; rfl) ?_; go_simp; exact (hK _ (sm2 eg e18)).out)
    ·
     refine G1 20 19 (h := fun LL gg z wx hl hLk eg K hK => ?_)
     cases d3 <;> cases p <;> first | exact unwanted (by dsimp only [FA]; rw [eg]; rfl) (hK z rfl).out | (dsimp only [FA]; refine wantd (by rw [eg]; rfl) ?_; go_simp; exact (hK _ (sm1 eg)).out)
    ·
     refine G2 21 19 20 (h := fun LL gg z wx hl hLk eg e20 K hK => ?_)
     obtain ⟨hb⟩ := hl
     cases d3 <;> cases p <;> first | exact unwanted (by dsimp only [FA]; rw [eg]; rfl) (hK z rfl).out | (have q1_ : wx.cell? ⟨w.heap.size, 1, none⟩ = some (.slice (some ad) n c0_1) := (blk_cell (blk_below TT1.out hb.out) 1).trans rfl; dsimp only [FA]; refine wantd (by rw [eg]; rfl) ?_; go_simp; exact (hK _ (sm2 eg e20)).out)
    ·
     refine G1 22 19 (h := fun LL gg z wx hl hLk eg K hK => ?_)
     cases d3 <;> cases p <;> first | exact unwanted (by dsimp only [FA]; rw [eg]; rfl) (hK z rfl).out | (dsimp only [FA]; refine wantd (by rw [eg]; rfl) ?_; go_simp; exact (hK _ (sm1 eg)).out)
    ·
     refine G2 23 19 22 (h := fun LL gg z wx hl hLk eg e22 K hK => ?_)
     obtain ⟨hb⟩ := hl
     cases d3 <;> cases p <;> first | exact unwanted (by dsimp only [FA]; rw [eg]; rfl) (hK z rfl).out | (have t1 : IntKind.wrap .i64 ((i : Int) - 1) = (pi : Int) := (i64_w _).trans (HPI.out rfl).1; dsimp only [FA]; refine wantd (by rw [eg]; rfl) ?_; go_simp; exact (hK _ (sm2 eg e22)).out)
    ·
     refine G3 24 19 21 23 (h := fun LL gg z wx hl hLk eg e21 e23 K hK => ?_)
     obtain ⟨hb⟩ := hl
     cases d3 <;> cases p <;> first | exact unwanted (by dsimp only [FA]; rw [eg]; rfl) (hK z rfl).out | (have t1 := (HPI.out rfl).2.1; have t2 := (HPI.out rfl).2.2.1; have t3 := (HPI.out rfl).2.2.2.1; dsimp only [FA]; refine wantd (by rw [eg]; rfl) ?_; go_simp; exact (hK _ (sm3 eg e21 e23)).out)
    ·
     refine G2 25 19 24 (h := fun LL gg z wx hl hLk eg e24 K hK => ?_)
     cases d3 <;> cases p <;> first | exact unwanted (by dsimp only [FA]; rw [eg]; rfl) (hK z rfl).out | (dsimp only [FA]; refine wantd (by rw [eg]; rfl) ?_; go_simp; exact (hK _ (sm2 eg e24)).out)
    ·
     refine G2 26 19 25 (h := fun LL gg z wx hl hLk eg e25 K hK => ?_)
     obtain ⟨hb⟩ := hl
     cases d3 <;> cases p <;> first | exact unwanted (by dsimp only [FA]; rw [eg]; rfl) (hK z rfl).out | (have t1 := cell_keep (below_step HBR1.out hb.out) (HPI.out rfl).2.2.2.2.1; dsimp only [FA]; refine wantd (by rw [eg]; rfl) ?_; go_simp; exact (hK _ (sm2 eg e25)).out)
    ·
     refine G1 27 19 (h := fun LL gg z wx hl hLk eg K hK => ?_)
     cases d3 <;> cases p <;> first | exact unwanted (by dsimp only [FA]; rw [eg]; rfl) (hK z rfl).out | (dsimp only [FA]; refine wantd (by rw [eg]; rfl) ?_; go_simp; exact (hK _ (sm1 eg)).out)
    ·
     refine G2 28 19 27 (h := fun LL gg z wx hl hLk eg e27 K hK => ?_)
     obtain ⟨hb⟩ := hl
     cases d3 <;> cases p <;> first | exact unwanted (by dsimp only [FA]; rw [eg]; rfl) (hK z rfl).out | (have p0_ : wx.cell? ⟨gx, 0, none⟩ = some (.slice A3 X.f0.length c3) := (blk_cell (blk_below HX.out hb.out) 0).trans rfl; dsimp only [FA]; refine wantd (by rw [eg]; rfl) ?_; go_simp; exact (hK _ (sm2 eg e27)).out)
    ·
     refine CD 29 (fun _ => rfl) (fun _ => rfl) fun LL gg z wx hl hLk hd hI K hK => ?_
     obtain ⟨hb⟩ := hl
     have eg := hI.at 19 rfl (hd 19 rfl)
     have e26 := hI.at 26 rfl (hd 26 rfl)
     have e28 := hI.at 28 rfl (hd 28 rfl)
     cases d3 <;> cases p <;> first | exact unwanted (by dsimp only [FA]; rw [eg]; rfl) (hK gg z wx rfl rfl rfl hb) | (dsimp only [FA]; refine wantd (by rw [eg]; rfl) ?_; go_simp; refine (FCM.out rfl wx (below_step HBR1.out hb.out)).mono ?_; rintro e w' ⟨rfl, hb0⟩; have hb1 := hb0.below; exact hK gg _ _ (sm3 eg e26 e28) rfl rfl ⟨below_step hb.out hb1⟩)
    ·
     refine G2 30 19 29 (h := fun LL gg z wx hl hLk eg e29 K hK => ?_)
     cases d3 <;> cases p <;> rcases HQ.out with ⟨t1, t2, rfl⟩ | ⟨t1, t2, rfl⟩ <;> first | exact unwanted (by dsimp only [FA]; rw [eg]; rfl) (hK z rfl).out | (dsimp only [FA]; refine wantd (by rw [eg]; rfl) ?_; go_simp; exact (hK _ (sm2 eg e29)).out)
    ·
     refine G3 31 16 19 30 (h := fun LL gg z wx hl hLk eg e19 e30 K hK => ?_)
     cases d3 <;> cases p <;> first | exact unwanted (by dsimp only [FA]; rw [eg]; rfl) (hK z rfl).out | (dsimp only [FA]; refine wantd (by rw [eg]; rfl) ?_; go_simp; exact (hK _ (sm3 eg e19 e30)).out)
    ·
     refine V2 32 16 31 (h := fun LL gg z wx hl hLk e16 e31 K hK => ?_)
     obtain ⟨hb⟩ := hl
     cases d3 <;> (obtain rfl := HD4.out; dsimp only [FA]; refine wantd (by rfl) ?_; go_simp; exact hK.out)
   ·
    intro LL gg z wc hall hI hl
    obtain ⟨hb⟩ := hl
    have e32 := hI.at 32 rfl (hall 32 (by decide))
    dsimp only [FA] at ⊢
    rw [e32]
    have HBC := hb
    clear hI hb e32 hall
    have HBW := Aside0.mk (below_step HBR1.out HBC.out)
    have HXC := Aside0.mk (blk_below HX.out HBC.out)
    have TC := Aside0.mk (blk_below TT1.out HBC.out)
    have HWC := Aside0.mk (below_step HBR0.out HBC.out)
    clear HX HBC HD2 HD3 HD4 HC1 HC2 HC3 HQ HP HPI FCM HBR1 HBR0 TT1 HBR
    have HIW := Aside0.mk (show wrap64 ((i : Int) + 1) = ((i + 1 : Nat) : Int) by have := HN0.out; have := HI.out; unfold wrap64; omega)
    have HNO : Aside0 (refTRow l0_0 l0_1 i = false → (List.range n).all (refTRow l0_0 l0_1) = false) := ⟨fun h => List.all_eq_false.2 ⟨i, List.mem_range.2 HI.out, by rw [h]; simp⟩⟩
    cases d4 with
    | true =>
     have HRES := Aside0.mk (HNO.out (by unfold refTRow; rw [HBAD.out]; rfl))
     go_wp2_with fail
     go_ret
     exact ⟨by rw [← HNE.out.1, HLV.out, HD.out, HTP.out, HTQ.out, HRES.out]; rfl, HBW.out⟩
    | false =>
     go_wp2_with fail
     go_loopw [5] (fun v wr => ∃ k : Nat, v = .int .i64 (k : Int) ∧ Aside0 (k ≤ X.f0.length ∧ ∀ j < k, refTo l0_0 (X.f0.getD j 0) = true) ∧ Aside0 (Below wc.heap.size wc wr)) (fun v _ => X.f0.length - (intOf v).toNat)
     case atStart => exact ⟨0, rfl, ⟨Nat.zero_le _, by omega⟩, ⟨Below.refl _ _⟩⟩
     case round =>
      obtain ⟨k, rfl, HK, HBK⟩ := hrel
      have q2 : wr.cell? ⟨gx, 0, none⟩ = some (.slice A3 X.f0.length c3) := (blk_cell (blk_below HXC.out HBK.out) 0).trans rfl
      have HBE := Aside0.mk (below_step HBW.out HBK.out)
      by_cases hk : (k : Int) < (X.f0.length : Int)
      ·
       have r1 := eq_true hk
       have r2 : (k < X.f0.length) = True := eq_true (by omega)
       have r0 : ((0 : Int) ≤ (k : Int)) = True := eq_true (by omega)
       have HKL : Aside0 (k < X.f0.length) := ⟨by omega⟩
       obtain ⟨a3, e, hx⟩ := Kd.at_int (i := (k : Int)) HG.out.2.1 (by omega) hk
       cases e
       simp only [Int.toNat_natCast] at hx
       obtain ⟨r, hr⟩ : ∃ r, r = rd X.f0 (k : Int) := ⟨_, rfl⟩
       rw [← hr] at hx
       have HRD : Aside0 (X.f0.getD k 0 = r) := ⟨by rw [hr]; unfold rd; rw [Int.toNat_natCast]⟩
       have HX2 := Aside0.mk (cell_keep HBE.out hx)
       have HKW := Aside0.mk (show wrap64 ((k : Int) + 1) = ((k + 1 : Nat) : Int) by have := HKL.out; have := HG.out.2.1.2.1; unfold wrap64; omega)
       have HLT := Aside0.mk (And.intro r0 (And.intro r1 r2))
       clear hr hk hx
       obtain ⟨a, ha⟩ : ∃ a, a = firstAt (fun s : S42 => s.f0 == r) l0_0 := ⟨_, rfl⟩
       have FDR := Aside0.mk (FD.out r)
       rw [← ha] at FDR
       have HA2 := Aside0.mk ha
       have TCR := Aside0.mk (blk_below TC.out HBK.out)
       have HXR := Aside0.mk (blk_below HXC.out HBK.out)
       clear ha
       go_wp2_with fail
       refine wp_reg 9 rfl rfl (by kernel_rfl) (fun y => .agg #[.slice A0_0 l0_0.length c0_0, .slice (some ad) n c0_1, .int .i64 a0_2, .bool a0_3] :: .pointer (some ⟨w.heap.size, 0, none⟩) :: u2 :: .int .i64 (i : Int) :: .pointer (some ⟨gx, 0, none⟩) :: .int .i64 (k : Int) :: y 6 :: u7 :: u8 :: .pointer (some ⟨w.heap.size, 0, none⟩) :: .slice A0_0 l0_0.length c0_0 :: .bool true :: .bool false :: .bool false :: .pointer (some ⟨w.heap.size, 1, none⟩) :: .slice (some ad) n c0_1 :: .int .i64 (n : Int) :: .bool false :: .bool false :: .bool false :: .pointer (some ⟨w.heap.size, 2, none⟩) :: .int .i64 a0_2 :: .bool false :: .bool false :: .bool false :: .pointer (some ⟨w.heap.size, 2, none⟩) :: .int .i64 a0_2 :: .bool false :: .bool false :: .int .i64 (i : Int) :: .pointer (some ⟨w.heap.size, 1, none⟩) :: .slice (some ad) n c0_1 :: .int .i64 (n : Int) :: .bool true :: u34 :: u35 :: .pointer (some ⟨w.heap.size, 1, none⟩) :: .slice (some ad) n c0_1 :: .int .i64 (i : Int) :: .pointer (some (ad.add (i * 2))) :: .agg #[.slice (some a3) X.f0.length c3, .slice A4 X.f1.length c4] :: z 41 :: z 42 :: z 43 :: z 44 :: z 45 :: z 46 :: z 47 :: z 48 :: z 49 :: z 50 :: z 51 :: z 52 :: z 53 :: z 54 :: z 55 :: z 56 :: z 57 :: z 58 :: z 59 :: z 60 :: z 61 :: z 62 :: z 63 :: z 64 :: z 65 :: z 66 :: z 67 :: z 68 :: z 69 :: z 70 :: z 71 :: z 72 :: .bool false :: .int .i64 (k : Int) :: .pointer (some ⟨gx, 0, none⟩) :: .slice (some a3) X.f0.length c3 :: .int .i64 (X.f0.length : Int) :: .bool true :: u79 :: u80 :: y 81 :: y 82 :: y 83 :: y 84 :: y 85 :: y 86 :: y 87 :: y 88 :: u89 :: u90 :: u91 :: u92 :: u93 :: u94 :: u95 :: u96 :: u97 :: u98 :: u99 :: u100 :: u101 :: u102 :: u103 :: u104 :: u105 :: u106 :: u107 :: u108 :: u109 :: u110 :: u111 :: u112 :: u113 :: u114 :: u115 :: u116 :: u117 :: u118 :: u119 :: u120 :: u121 :: u122 :: u123 :: u124 :: u125 :: u126 :: u127 :: u128 :: u129 :: u130 :: u131 :: u132 :: u133 :: u134 :: u135 :: u136 :: u137 :: u138 :: u139 :: u140 :: u141 :: u142 :: u143 :: u144 :: u145 :: u146 :: u147 :: u148 :: u149 :: u150 :: u151 :: u152 :: u153 :: u154 :: u155 :: u156 :: u157 :: u158 :: u159 :: u160 :: u161 :: u162 :: u163 :: u164 :: u165 :: u166 :: u167 :: u168 :: u169 :: u170 :: u171 :: u172 :: u173 :: u174 :: u175 :: u176 :: u177 :: u178 :: u179 :: u180 :: u181 :: []) (fun (gg : Unit) => [(0, 81, .pointer (some ⟨w.heap.size, 0, none⟩)), (1, 82, .slice A0_0 l0_0.length c0_0), (2, 83, .pointer (some ⟨gx, 0, none⟩)), (3, 84, .slice (some a3) X.f0.length c3), (4, 85, .int .i64 (k : Int)), (5, 86, .pointer (some (a3.add k))), (6, 87, .int .i32 r), (7, 88, .int .i64 a), (8, 6, .int .i64 a)]) (fun LL gg y wx => Aside0 (Below wr.heap.size wr wx)) () (zz [(6, u6), (81, u81), (82, u82), (83, u83), (84, u84), (85, u85), (86, u86), (87, u87), (88, u88)]) rfl rfl ⟨below_drew (Below.refl _ _)⟩ ?_ ?_
       ·
        refine Steps.cons ?_ (Steps.cons ?_ (Steps.cons ?_ (Steps.cons ?_ (Steps.cons ?_ (Steps.cons ?_ (Steps.cons ?_ (Steps.cons ?_ (Steps.cons ?_ (Steps.nil)))))))))
        ·
         exact V0 0
        ·
         refine V1 1 0 (h := fun LL gg y wx hl hLk e0 K hK => ?_)
         obtain ⟨hb⟩ := hl
         have q0_ : wx.cell? ⟨w.heap.size, 0, none⟩ = some (.slice A0_0 l0_0.length c0_0) := (blk_cell (blk_below TCR.out hb.out) 0).trans rfl
         dsimp only [FA]
         refine wantd (by rfl) ?_
         go_simp
         exact hK.out
        ·
         exact V0 2
        ·
         refine V1 3 2 (h := fun LL gg y wx hl hLk e2 K hK => ?_)
         obtain ⟨hb⟩ := hl
         have p0_ : wx.cell? ⟨gx, 0, none⟩ = some (.slice (some a3) X.f0.length c3) := (blk_cell (blk_below HXR.out hb.out) 0).trans rfl
         dsimp only [FA]
         refine wantd (by rfl) ?_
         go_simp
         exact hK.out
        ·
         exact V0 4
        ·
         refine V2 5 3 4 (h := fun LL gg y wx hl hLk e3 e4 K hK => ?_)
         obtain ⟨hb⟩ := hl
         have t1 := HLT.out.1
         have t2 := HLT.out.2.1
         have t3 := HLT.out.2.2
         dsimp only [FA]
         refine wantd (by rfl) ?_
         go_simp
         exact hK.out
        ·
         refine V1 6 5 (h := fun LL gg y wx hl hLk e5 K hK => ?_)
         obtain ⟨hb⟩ := hl
         have t1 := cell_keep hb.out HX2.out
         dsimp only [FA]
         refine wantd (by rfl) ?_
         go_simp
         exact hK.out
        ·
         refine CD 7 (fun _ => rfl) (fun _ => rfl) fun LL gg y wx hl hLk hd hI K hK => ?_
         obtain ⟨hb⟩ := hl
         have e1 := hI.at 1 rfl (hd 1 rfl)
         have e6 := hI.at 6 rfl (hd 6 rfl)
         dsimp only [FA]
         refine wantd (by rfl) ?_
         go_simp
         refine (FDR.out wx (below_step HBE.out hb.out)).mono ?_
         rintro e w' ⟨rfl, hb0⟩
         have hb1 := hb0.below
         exact hK gg _ _ (sm2 e1 e6) rfl rfl ⟨below_step hb.out hb1⟩
        ·
         exact V1 8 7
       ·
        intro LL gg y wq hall hI hl
        obtain ⟨hb⟩ := hl
        have e8 := hI.at 8 rfl (hall 8 (by decide))
        dsimp only [FA] at ⊢
        rw [e8]
        have HBC := hb
        clear hI hb e8 hall
        have HB9 := Aside0.mk (below_step HBE.out HBC.out)
        have q3 : wq.cell? ⟨gx, 0, none⟩ = some (.slice (some a3) X.f0.length c3) := (blk_cell (blk_below HXR.out HBC.out) 0).trans rfl
        have hx3 := cell_keep HBC.out HX2.out
        have t1 := HLT.out.1
        have t2 := HLT.out.2.1
        have t3 := HLT.out.2.2
        go_wp2_with fail
        refine (gazetteerref1_May.calls r (mayB r) _ (rmay_ok r)).mono ?_
        rintro e w10 ⟨rfl, hb0⟩
        have HB10 := Aside0.mk (below_step HB9.out hb0.below)
        have HW10 : Aside0 (Below wc.heap.size wc w10) := ⟨below_step (below_step HBK.out HBC.out) hb0.below⟩
        have q5 : w10.cell? ⟨w.heap.size, 0, none⟩ = some (.slice A0_0 l0_0.length c0_0) := (blk_cell (blk_below (blk_below TCR.out HBC.out) hb0.below) 0).trans rfl
        clear hb0 q3 hx3 HX2
        have HNO2 : Aside0 (refTo l0_0 r = false → (List.range n).all (refTRow l0_0 l0_1) = false) := ⟨fun h => HNO.out (by
         unfold refTRow
         rw [HXD.out, List.all_eq_false.2 ⟨X.f0.getD k 0, by rw [List.getD_eq_getElem?_getD, List.getElem?_eq_getElem HKL.out]; exact List.getElem_mem _, by rw [HRD.out, h]; simp⟩]; simp)⟩
        cases hm : mayB r with
        | false =>
         have HRES := Aside0.mk (HNO2.out (by unfold refTo; rw [hm]; rfl))
         clear hm
         go_wp2_with fail
         go_ret
         exact ⟨by rw [← HNE.out.1, HLV.out, HD.out, HTP.out, HTQ.out, HRES.out]; rfl, HB10.out⟩
        | true =>
         have HMM := Aside0.mk hm
         clear hm
         have hlt := firstAt_lt (fun s : S42 => s.f0 == r) l0_0
         rw [← HA2.out] at hlt
         by_cases h0 : 0 ≤ a
         ·
          obtain ⟨an, rfl⟩ : ∃ an : Nat, a = (an : Int) := ⟨a.toNat, by omega⟩
          obtain ⟨ad4, A6, c6, e, y0, y1, y2, k6, g6⟩ := at_T42 HR.out.1 (an : Int) (by omega) hlt.1
          cases e
          simp only [Int.toNat_natCast] at y2
          have y3 := cell_keep HB10.out y2
          have t1 := eq_true h0
          have t2 := eq_true hlt.1
          have t3 : (an < l0_0.length) = True := eq_true (by omega)
          have HRO : Aside0 (rowOf l0_0 r = rd_T42 l0_0 (an : Int)) := ⟨by unfold rowOf; rw [← HA2.out, if_neg (by omega)]⟩
          obtain ⟨ln, hln⟩ : ∃ ln, ln = (rd_T42 l0_0 (an : Int)).f2.length := ⟨_, rfl⟩
          rw [← hln] at y3
          have HLN := Aside0.mk hln
          clear y0 y1 y2 k6 g6 h0 hlt hln
          by_cases h1 : 0 < ln
          ·
           have t4 : ((0 : Int) < (ln : Int)) = True := eq_true (by omega)
           have t5 := eq_true h1
           have HRES := Aside0.mk (HNO2.out (by unfold refTo; rw [HMM.out, HRO.out, ← HLN.out, decide_eq_false (by omega)]; rfl))
           clear h1
           go_wp2_with fail
           go_ret
           exact ⟨by rw [← HNE.out.1, HLV.out, HD.out, HTP.out, HTQ.out, HRES.out]; rfl, HB10.out⟩
          ·
           have t4 : ((0 : Int) < (ln : Int)) = False := eq_false (by omega)
           have t5 := eq_false h1
           have HYES : Aside0 (refTo l0_0 r = true) := ⟨by unfold refTo; rw [HMM.out, HRO.out, ← HLN.out, decide_eq_true (by omega)]; rfl⟩
           clear h1
           go_wp2_with fail
           go_roundw
           case rel =>
            refine ⟨k + 1, by rw [HKW.out], ⟨HKL.out, fun j hj => ?_⟩, HW10⟩
            rcases Nat.lt_succ_iff_lt_or_eq.1 hj with h | rfl
            ·
             exact HK.out.2 j h
            ·
             rw [HRD.out]; exact HYES.out
           case measure => rw [HKW.out]; simp only [intOf]; have := HKL.out; omega
         ·
          have t1 := eq_false h0
          have HYES : Aside0 (refTo l0_0 r = true) := ⟨by unfold refTo rowOf; rw [HMM.out, ← HA2.out, if_pos (by omega)]; rfl⟩
          clear h0 hlt
          go_wp2_with fail
          go_roundw
          case rel =>
           refine ⟨k + 1, by rw [HKW.out], ⟨HKL.out, fun j hj => ?_⟩, HW10⟩
           rcases Nat.lt_succ_iff_lt_or_eq.1 hj with h | rfl
           ·
            exact HK.out.2 j h
           ·
            rw [HRD.out]; exact HYES.out
          case measure => rw [HKW.out]; simp only [intOf]; have := HKL.out; omega
      ·
       have r1 := eq_false hk
       have r2 : (k < X.f0.length) = False := eq_false (by omega)
       have HALL : Aside0 (X.f0.all (refTo l0_0) = true) := ⟨by
        rw [List.all_eq_true]
        intro y hy
        obtain ⟨j, hj, rfl⟩ := List.getElem_of_mem hy
        have h := HK.out.2 j (by omega)
        rwa [List.getD_eq_getElem?_getD, List.getElem?_eq_getElem hj] at h⟩
       obtain ⟨w8, hw8⟩ : ∃ w8, w8 = wr := ⟨_, rfl⟩
       rw [← hw8] at HBE HBK q2 ⊢
       have HX8 := Aside0.mk (blk_below HXC.out HBK.out)
       have T8 := Aside0.mk (blk_below TC.out HBK.out)
       have HW8 := Aside0.mk (below_step HWC.out HBK.out)
       clear hk hw8 HBK
       go_wp2_with fail
       go_loopw [7] (fun v wr => ∃ k2 : Nat, v = .int .i64 (k2 : Int) ∧ Aside0 (k2 ≤ X.f1.length ∧ ∀ j < k2, elBad (X.f1.getD j z39) = false) ∧ Aside0 (Below w8.heap.size w8 wr)) (fun v _ => X.f1.length - (intOf v).toNat)
       case atStart => exact ⟨0, rfl, ⟨Nat.zero_le _, by omega⟩, ⟨Below.refl _ _⟩⟩
       case round =>
        obtain ⟨k2, rfl, HK2, HBK⟩ := hrel
        have q2 : wr.cell? ⟨gx, 1, none⟩ = some (.slice A4 X.f1.length c4) := (blk_cell (blk_below HX8.out HBK.out) 1).trans rfl
        have HBF := Aside0.mk (below_step HBE.out HBK.out)
        by_cases hk : (k2 : Int) < (X.f1.length : Int)
        ·
         have r1 := eq_true hk
         have r2 : (k2 < X.f1.length) = True := eq_true (by omega)
         have r0 : ((0 : Int) ≤ (k2 : Int)) = True := eq_true (by omega)
         have HKL : Aside0 (k2 < X.f1.length) := ⟨by omega⟩
         obtain ⟨a4, e, y0, y1, y2⟩ := at_T39 HG.out.2.2.2 (k2 : Int) (by omega) hk
         cases e
         simp only [Int.toNat_natCast] at y0 y1 y2
         obtain ⟨E, hE⟩ : ∃ E, E = rd_T39 X.f1 (k2 : Int) := ⟨_, rfl⟩
         rw [← hE] at y0 y1 y2
         have HED : Aside0 (X.f1.getD k2 z39 = E) := ⟨by rw [hE]; unfold rd_T39; rw [Int.toNat_natCast]⟩
         replace y0 := cell_keep HBF.out y0
         replace y1 := cell_keep HBF.out y1
         replace y2 := cell_keep HBF.out y2
         have HKW := Aside0.mk (show wrap64 ((k2 : Int) + 1) = ((k2 + 1 : Nat) : Int) by have := HKL.out; have := HG.out.2.2.2.2.1; unfold wrap64; omega)
         have hE0 := blk_new wr (.cells #[.int .i64 E.f0, .int .i64 E.f1, .int .i64 E.f2] 39)
         have k0_ : (wr.alloc (.cells #[.int .i64 E.f0, .int .i64 E.f1, .int .i64 E.f2] 39)).cell? ⟨wr.heap.size, 0, none⟩ = some (.int .i64 E.f0) := (blk_cell hE0 0).trans rfl
         have k1_ : (wr.alloc (.cells #[.int .i64 E.f0, .int .i64 E.f1, .int .i64 E.f2] 39)).cell? ⟨wr.heap.size, 1, none⟩ = some (.int .i64 E.f1) := (blk_cell hE0 1).trans rfl
         have k2_ : (wr.alloc (.cells #[.int .i64 E.f0, .int .i64 E.f1, .int .i64 E.f2] 39)).cell? ⟨wr.heap.size, 2, none⟩ = some (.int .i64 E.f2) := (blk_cell hE0 2).trans rfl
         have HB10 := Aside0.mk (below_alloc HBF.out (.cells #[.int .i64 E.f0, .int .i64 E.f1, .int .i64 E.f2] 39))
         have HW10 := Aside0.mk (below_alloc HBK.out (.cells #[.int .i64 E.f0, .int .i64 E.f1, .int .i64 E.f2] 39))
         have HNB : Aside0 (elBad E = true → (List.range n).all (refTRow l0_0 l0_1) = false) := ⟨fun h => HNO.out (by
          unfold refTRow
          rw [HXD.out, List.all_eq_false.2 ⟨X.f1.getD k2 z39, by rw [List.getD_eq_getElem?_getD, List.getElem?_eq_getElem HKL.out]; exact List.getElem_mem _, by rw [HED.out, h]; simp⟩]; simp)⟩
         clear hE hE0 hk
         by_cases v0 : E.f0 < 0
         ·
          have s0 := eq_true v0
          have HRES := Aside0.mk (HNB.out (by unfold elBad; rw [decide_eq_true v0]; simp))
          clear v0
          go_wp2_with fail
          go_ret
          exact ⟨by rw [← HNE.out.1, HLV.out, HD.out, HTP.out, HTQ.out, HRES.out]; rfl, HB10.out⟩
         have s0 := eq_false v0
         by_cases v1 : 60000 < E.f0
         ·
          have s1 := eq_true v1
          have HRES := Aside0.mk (HNB.out (by unfold elBad; rw [decide_eq_false v0, decide_eq_true v1]; simp))
          clear v0 v1
          go_wp2_with fail
          go_ret
          exact ⟨by rw [← HNE.out.1, HLV.out, HD.out, HTP.out, HTQ.out, HRES.out]; rfl, HB10.out⟩
         have s1 := eq_false v1
         by_cases v2 : E.f1 < 0
         ·
          have s2 := eq_true v2
          have HRES := Aside0.mk (HNB.out (by unfold elBad; rw [decide_eq_false v0, decide_eq_false v1, decide_eq_true v2]; simp))
          clear v0 v1 v2
          go_wp2_with fail
          go_ret
          exact ⟨by rw [← HNE.out.1, HLV.out, HD.out, HTP.out, HTQ.out, HRES.out]; rfl, HB10.out⟩
         have s2 := eq_false v2
         by_cases v3 : 200 < E.f1
         ·
          have s3 := eq_true v3
          have HRES := Aside0.mk (HNB.out (by unfold elBad; rw [decide_eq_false v0, decide_eq_false v1, decide_eq_false v2, decide_eq_true v3]; simp))
          clear v0 v1 v2 v3
          go_wp2_with fail
          go_ret
          exact ⟨by rw [← HNE.out.1, HLV.out, HD.out, HTP.out, HTQ.out, HRES.out]; rfl, HB10.out⟩
         have s3 := eq_false v3
         by_cases v4 : E.f2 < 0
         ·
          have s4 := eq_true v4
          have HRES := Aside0.mk (HNB.out (by unfold elBad; rw [decide_eq_false v0, decide_eq_false v1, decide_eq_false v2, decide_eq_false v3, decide_eq_true v4]; simp))
          clear v0 v1 v2 v3 v4
          go_wp2_with fail
          go_ret
          exact ⟨by rw [← HNE.out.1, HLV.out, HD.out, HTP.out, HTQ.out, HRES.out]; rfl, HB10.out⟩
         have s4 := eq_false v4
         by_cases v5 : 200 < E.f2
         ·
          have s5 := eq_true v5
          have HRES := Aside0.mk (HNB.out (by unfold elBad; rw [decide_eq_false v0, decide_eq_false v1, decide_eq_false v2, decide_eq_false v3, decide_eq_false v4, decide_eq_true v5]; simp))
          clear v0 v1 v2 v3 v4 v5
          go_wp2_with fail
          go_ret
          exact ⟨by rw [← HNE.out.1, HLV.out, HD.out, HTP.out, HTQ.out, HRES.out]; rfl, HB10.out⟩
         have s5 := eq_false v5
         by_cases u6 : 0 < E.f0
         ·
          have s6 := eq_true u6
          by_cases e6 : E.f1 = 0
          ·
           have b5 : (E.f1 == 0) = true := by simpa using e6
           have b6 := eq_true e6
           have HRES := Aside0.mk (HNB.out (by unfold elBad; rw [decide_eq_false v0, decide_eq_false v1, decide_eq_false v2, decide_eq_false v3, decide_eq_false v4, decide_eq_false v5, decide_eq_true u6, decide_eq_true e6]; simp))
           clear v0 v1 v2 v3 v4 v5 u6 e6
           go_wp2_with fail
           go_ret
           exact ⟨by rw [← HNE.out.1, HLV.out, HD.out, HTP.out, HTQ.out, HRES.out]; rfl, HB10.out⟩
          ·
           have b5 : (E.f1 == 0) = false := by simpa using e6
           have b6 := eq_false e6
           have u7 : 0 < E.f1 := by omega
           have s7 := eq_true u7
           by_cases e7 : E.f2 = 0
           ·
            have b7 : (E.f2 == 0) = true := by simpa using e7
            have b8 := eq_true e7
            have HRES := Aside0.mk (HNB.out (by unfold elBad; rw [decide_eq_false v0, decide_eq_false v1, decide_eq_false v2, decide_eq_false v3, decide_eq_false v4, decide_eq_false v5, decide_eq_true u6, decide_eq_false e6, decide_eq_true u7, decide_eq_true e7]; simp))
            clear v0 v1 v2 v3 v4 v5 u6 e6 u7 e7
            go_wp2_with fail
            go_ret
            exact ⟨by rw [← HNE.out.1, HLV.out, HD.out, HTP.out, HTQ.out, HRES.out]; rfl, HB10.out⟩
           ·
            have b7 : (E.f2 == 0) = false := by simpa using e7
            have b8 := eq_false e7
            have HGD : Aside0 (elBad E = false) := ⟨by unfold elBad; rw [decide_eq_false v0, decide_eq_false v1, decide_eq_false v2, decide_eq_false v3, decide_eq_false v4, decide_eq_false v5, decide_eq_true u6, decide_eq_false e6, decide_eq_true u7, decide_eq_false e7]; simp⟩
            clear v0 v1 v2 v3 v4 v5 u6 e6 u7 e7
            go_wp2_with fail
            go_roundw
            case rel =>
             refine ⟨k2 + 1, by rw [HKW.out], ⟨HKL.out, fun j hj => ?_⟩, HW10⟩
             rcases Nat.lt_succ_iff_lt_or_eq.1 hj with h | rfl
             ·
              exact HK2.out.2 j h
             ·
              rw [HED.out]; exact HGD.out
            case measure => rw [HKW.out]; simp only [intOf]; have := HKL.out; omega
         ·
          have s6 := eq_false u6
          by_cases u7 : 0 < E.f1
          ·
           have s7 := eq_true u7
           by_cases e7 : E.f2 = 0
           ·
            have b7 : (E.f2 == 0) = true := by simpa using e7
            have b8 := eq_true e7
            have HRES := Aside0.mk (HNB.out (by unfold elBad; rw [decide_eq_false v0, decide_eq_false v1, decide_eq_false v2, decide_eq_false v3, decide_eq_false v4, decide_eq_false v5, decide_eq_false u6, decide_eq_true u7, decide_eq_true e7]; simp))
            clear v0 v1 v2 v3 v4 v5 u6 u7 e7
            go_wp2_with fail
            go_ret
            exact ⟨by rw [← HNE.out.1, HLV.out, HD.out, HTP.out, HTQ.out, HRES.out]; rfl, HB10.out⟩
           ·
            have b7 : (E.f2 == 0) = false := by simpa using e7
            have b8 := eq_false e7
            have HGD : Aside0 (elBad E = false) := ⟨by unfold elBad; rw [decide_eq_false v0, decide_eq_false v1, decide_eq_false v2, decide_eq_false v3, decide_eq_false v4, decide_eq_false v5, decide_eq_false u6, decide_eq_true u7, decide_eq_false e7]; simp⟩
            clear v0 v1 v2 v3 v4 v5 u6 u7 e7
            go_wp2_with fail
            go_roundw
            case rel =>
             refine ⟨k2 + 1, by rw [HKW.out], ⟨HKL.out, fun j hj => ?_⟩, HW10⟩
             rcases Nat.lt_succ_iff_lt_or_eq.1 hj with h | rfl
             ·
              exact HK2.out.2 j h
             ·
              rw [HED.out]; exact HGD.out
            case measure => rw [HKW.out]; simp only [intOf]; have := HKL.out; omega
          ·
           have s7 := eq_false u7
           have HGD : Aside0 (elBad E = false) := ⟨by unfold elBad; rw [decide_eq_false v0, decide_eq_false v1, decide_eq_false v2, decide_eq_false v3, decide_eq_false v4, decide_eq_false v5, decide_eq_false u6, decide_eq_false u7]; simp⟩
           clear v0 v1 v2 v3 v4 v5 u6 u7
           go_wp2_with fail
           go_roundw
           case rel =>
            refine ⟨k2 + 1, by rw [HKW.out], ⟨HKL.out, fun j hj => ?_⟩, HW10⟩
            rcases Nat.lt_succ_iff_lt_or_eq.1 hj with h | rfl
            ·
             exact HK2.out.2 j h
            ·
             rw [HED.out]; exact HGD.out
           case measure => rw [HKW.out]; simp only [intOf]; have := HKL.out; omega
        ·
         have r1 := eq_false hk
         have r2 : (k2 < X.f1.length) = False := eq_false (by omega)
         have HALLE : Aside0 (X.f1.all (fun e => !elBad e) = true) := ⟨by
          rw [List.all_eq_true]
          intro y hy
          obtain ⟨j, hj, rfl⟩ := List.getElem_of_mem hy
          have h := HK2.out.2 j (by omega)
          rw [List.getD_eq_getElem?_getD, List.getElem?_eq_getElem hj] at h
          simpa using h⟩
         obtain ⟨w9, hw9⟩ : ∃ w9, w9 = wr := ⟨_, rfl⟩
         rw [← hw9] at HBF HBK q2 ⊢
         have HX9 := Aside0.mk (blk_below HX8.out HBK.out)
         have T9 := Aside0.mk (blk_below T8.out HBK.out)
         have HW9 := Aside0.mk (below_step HW8.out HBK.out)
         have HB9 := Aside0.mk HBF.out
         obtain ⟨g1, hg1⟩ : ∃ b, b = decide (1 < X.f0.length) := ⟨_, rfl⟩
         obtain ⟨rv, hrv⟩ : ∃ a, a = firstAt (fun x : S44 => x.f0 == X.f0.take 1) l0_1 := ⟨_, rfl⟩
         obtain ⟨g2, hg2⟩ : ∃ b, b = decide (rv < 0) := ⟨_, rfl⟩
         obtain ⟨g3, hg3⟩ : ∃ b, b = (g1 && g2) := ⟨_, rfl⟩
         have HG1 : Aside0 (((1 : Int) < (X.f0.length : Int)) = True ∧ (1 < X.f0.length) = True ∧ g1 = true ∨ ((1 : Int) < (X.f0.length : Int)) = False ∧ (1 < X.f0.length) = False ∧ g1 = false) := ⟨by by_cases h : 1 < X.f0.length; exact .inl ⟨eq_true (by omega), eq_true h, hg1.trans (decide_eq_true h)⟩; exact .inr ⟨eq_false (by omega), eq_false h, hg1.trans (decide_eq_false h)⟩⟩
         have HG2 : Aside0 ((rv < 0) = True ∧ True ∧ g2 = true ∨ (rv < 0) = False ∧ True ∧ g2 = false) := ⟨by by_cases h : rv < 0; exact .inl ⟨eq_true h, trivial, hg2.trans (decide_eq_true h)⟩; exact .inr ⟨eq_false h, trivial, hg2.trans (decide_eq_false h)⟩⟩
         have HSL : Aside0 (g1 = true → ((1 : Int) ≤ (X.f0.length : Int)) = True ∧ (1 ≤ X.f0.length) = True ∧ ((1 : Int) ≤ (c3 : Int)) = True ∧ (1 ≤ c3) = True) := ⟨fun h => by
          rw [hg1] at h
          have h := of_decide_eq_true h
          have := HG.out.1
          exact ⟨eq_true (by omega), eq_true (by omega), eq_true (by omega), eq_true (by omega)⟩⟩
         have hl1 : g1 = true → (X.f0.take 1).length = 1 := fun h => by
          rw [hg1] at h
          have h := of_decide_eq_true h
          rw [List.length_take]; omega
         have FRW : Aside0 (∀ (_ : g1 = true) (W' : World), Below w.heap.size w W' → Calls Try.prog 25 #[.agg #[.slice A0_0 l0_0.length c0_0, .slice (some ad) n c0_1, .int .i64 a0_2, .bool a0_3], .slice A3 1 c3] W' fun e w' => e = .returned (.int .i64 rv) ∧ Below W'.heap.size W' w') := ⟨fun h W' hb => by
          have h2 := FROW.out (X.f0.take 1) A3 c3 W' hb (Kd.C_take (Kd.C_below HG.out.2.1 hb) (by have := hl1 h; rw [List.length_take] at this; omega)) (by have := HG.out.1; rw [List.length_take]; omega)
          rw [hl1 h, ← hrv] at h2
          exact h2⟩
         have HROW : Aside0 (refTRow l0_0 l0_1 i = !g3) := ⟨by
          unfold refTRow
          rw [HBAD.out, HXD.out, HALL.out, HALLE.out, ← hg1, ← hrv, ← hg2, hg3]; rfl⟩
         have HG3 := Aside0.mk hg3
         clear hk hw9 HBK hg1 hg2 hg3 hl1 hrv
         go_wp2_with fail
         refine wp_reg 12 rfl rfl (by kernel_rfl) (fun y => .agg #[.slice A0_0 l0_0.length c0_0, .slice (some ad) n c0_1, .int .i64 a0_2, .bool a0_3] :: .pointer (some ⟨w.heap.size, 0, none⟩) :: u2 :: .int .i64 (i : Int) :: .pointer (some ⟨gx, 0, none⟩) :: .int .i64 (k : Int) :: u6 :: .int .i64 (k2 : Int) :: u8 :: .pointer (some ⟨w.heap.size, 0, none⟩) :: .slice A0_0 l0_0.length c0_0 :: .bool true :: .bool false :: .bool false :: .pointer (some ⟨w.heap.size, 1, none⟩) :: .slice (some ad) n c0_1 :: .int .i64 (n : Int) :: .bool false :: .bool false :: .bool false :: .pointer (some ⟨w.heap.size, 2, none⟩) :: .int .i64 a0_2 :: .bool false :: .bool false :: .bool false :: .pointer (some ⟨w.heap.size, 2, none⟩) :: .int .i64 a0_2 :: .bool false :: .bool false :: .int .i64 (i : Int) :: .pointer (some ⟨w.heap.size, 1, none⟩) :: .slice (some ad) n c0_1 :: .int .i64 (n : Int) :: .bool true :: u34 :: u35 :: .pointer (some ⟨w.heap.size, 1, none⟩) :: .slice (some ad) n c0_1 :: .int .i64 (i : Int) :: .pointer (some (ad.add (i * 2))) :: .agg #[.slice A3 X.f0.length c3, .slice A4 X.f1.length c4] :: z 41 :: z 42 :: z 43 :: z 44 :: z 45 :: z 46 :: z 47 :: z 48 :: z 49 :: z 50 :: z 51 :: z 52 :: z 53 :: z 54 :: z 55 :: z 56 :: z 57 :: z 58 :: z 59 :: z 60 :: z 61 :: z 62 :: z 63 :: z 64 :: z 65 :: z 66 :: z 67 :: z 68 :: z 69 :: z 70 :: z 71 :: z 72 :: .bool false :: .int .i64 (k : Int) :: .pointer (some ⟨gx, 0, none⟩) :: .slice A3 X.f0.length c3 :: .int .i64 (X.f0.length : Int) :: .bool false :: u79 :: u80 :: u81 :: u82 :: u83 :: u84 :: u85 :: u86 :: u87 :: u88 :: u89 :: u90 :: u91 :: u92 :: u93 :: u94 :: u95 :: u96 :: u97 :: u98 :: u99 :: u100 :: u101 :: u102 :: u103 :: u104 :: u105 :: u106 :: u107 :: u108 :: u109 :: .int .i64 (k2 : Int) :: .pointer (some ⟨gx, 1, none⟩) :: .slice A4 X.f1.length c4 :: .int .i64 (X.f1.length : Int) :: .bool false :: u115 :: u116 :: u117 :: u118 :: u119 :: u120 :: u121 :: u122 :: u123 :: u124 :: u125 :: u126 :: u127 :: u128 :: u129 :: u130 :: u131 :: u132 :: u133 :: u134 :: u135 :: u136 :: u137 :: u138 :: u139 :: u140 :: u141 :: u142 :: u143 :: u144 :: u145 :: u146 :: u147 :: u148 :: u149 :: u150 :: u151 :: u152 :: u153 :: u154 :: u155 :: u156 :: u157 :: u158 :: u159 :: u160 :: u161 :: u162 :: u163 :: u164 :: u165 :: u166 :: u167 :: u168 :: u169 :: y 170 :: y 171 :: y 172 :: y 173 :: y 174 :: y 175 :: y 176 :: y 177 :: y 178 :: y 179 :: y 180 :: y 181 :: []) (fun (gg : Unit) => [(0, 170, .pointer (some ⟨gx, 0, none⟩)), (1, 171, .slice A3 X.f0.length c3), (2, 172, .int .i64 (X.f0.length : Int)), (3, 173, .bool g1), (4, 174, .bool g1), (5, 175, bif g1 then .agg #[.slice A0_0 l0_0.length c0_0, .slice (some ad) n c0_1, .int .i64 a0_2, .bool a0_3] else undef), (6, 176, bif g1 then .pointer (some ⟨gx, 0, none⟩) else undef), (7, 177, bif g1 then .slice A3 X.f0.length c3 else undef), (8, 178, bif g1 then .slice A3 1 c3 else undef), (9, 179, bif g1 then .int .i64 rv else undef), (10, 180, bif g1 then .bool g2 else undef), (11, 181, .bool g3)]) (fun LL gg y wx => Aside0 (Below w9.heap.size w9 wx)) () (zz [(170, u170), (171, u171), (172, u172), (173, u173), (174, u174), (175, u175), (176, u176), (177, u177), (178, u178), (179, u179), (180, u180), (181, u181)]) rfl rfl ⟨below_drew (Below.refl _ _)⟩ ?_ ?_
         ·
          refine Steps.cons ?_ (Steps.cons ?_ (Steps.cons ?_ (Steps.cons ?_ (Steps.cons ?_ (Steps.cons ?_ (Steps.cons ?_ (Steps.cons ?_ (Steps.cons ?_ (Steps.cons ?_ (Steps.cons ?_ (Steps.cons ?_ (Steps.nil))))))))))))
          ·
           exact V0 0
          ·
           refine V1 1 0 (h := fun LL gg y wx hl hLk e0 K hK => ?_)
           obtain ⟨hb⟩ := hl
           have p0_ : wx.cell? ⟨gx, 0, none⟩ = some (.slice A3 X.f0.length c3) := (blk_cell (blk_below HX9.out hb.out) 0).trans rfl
           dsimp only [FA]
           refine wantd (by rfl) ?_
           go_simp
           exact hK.out
          ·
           exact V1 2 1
          ·
           refine V1 3 2 (h := fun LL gg y wx hl hLk e2 K hK => ?_)
           rcases HG1.out with ⟨t1, t2, rfl⟩ | ⟨t1, t2, rfl⟩ <;> (dsimp only [FA]; refine wantd (by rfl) ?_; go_simp; exact hK.out)
          ·
           exact V1 4 3
          ·
           refine G1 5 4 (h := fun LL gg y wx hl hLk eg K hK => ?_)
           obtain ⟨hb⟩ := hl
           cases g1 <;> first | exact unwanted (by dsimp only [FA]; rw [eg]; rfl) (hK y rfl).out | (have q0_ : wx.cell? ⟨w.heap.size, 0, none⟩ = some (.slice A0_0 l0_0.length c0_0) := (blk_cell (blk_below T9.out hb.out) 0).trans rfl; have q1_ : wx.cell? ⟨w.heap.size, 1, none⟩ = some (.slice (some ad) n c0_1) := (blk_cell (blk_below T9.out hb.out) 1).trans rfl; have q2_ : wx.cell? ⟨w.heap.size, 2, none⟩ = some (.int .i64 a0_2) := (blk_cell (blk_below T9.out hb.out) 2).trans rfl; have q3_ : wx.cell? ⟨w.heap.size, 3, none⟩ = some (.bool a0_3) := (blk_cell (blk_below T9.out hb.out) 3).trans rfl; dsimp only [FA]; refine wantd (by rw [eg]; rfl) ?_; go_simp; exact (hK _ (sm1 eg)).out)
          ·
           refine G1 6 4 (h := fun LL gg y wx hl hLk eg K hK => ?_)
           cases g1 <;> first | exact unwanted (by dsimp only [FA]; rw [eg]; rfl) (hK y rfl).out | (dsimp only [FA]; refine wantd (by rw [eg]; rfl) ?_; go_simp; exact (hK _ (sm1 eg)).out)
          ·
           refine G2 7 4 6 (h := fun LL gg y wx hl hLk eg e6 K hK => ?_)
           obtain ⟨hb⟩ := hl
           cases g1 <;> first | exact unwanted (by dsimp only [FA]; rw [eg]; rfl) (hK y rfl).out | (have p0_ : wx.cell? ⟨gx, 0, none⟩ = some (.slice A3 X.f0.length c3) := (blk_cell (blk_below HX9.out hb.out) 0).trans rfl; dsimp only [FA]; refine wantd (by rw [eg]; rfl) ?_; go_simp; exact (hK _ (sm2 eg e6)).out)
          ·
           refine G2 8 4 7 (h := fun LL gg y wx hl hLk eg e7 K hK => ?_)
           obtain ⟨hb⟩ := hl
           cases g1 <;> first | exact unwanted (by dsimp only [FA]; rw [eg]; rfl) (hK y rfl).out | (have t1 := (HSL.out rfl).1; have t2 := (HSL.out rfl).2.1; have t3 := (HSL.out rfl).2.2.1; have t4 := (HSL.out rfl).2.2.2; dsimp only [FA]; refine wantd (by rw [eg]; rfl) ?_; go_simp; exact (hK _ (sm2 eg e7)).out)
          ·
           refine CD 9 (fun _ => rfl) (fun _ => rfl) fun LL gg y wx hl hLk hd hI K hK => ?_
           obtain ⟨hb⟩ := hl
           have eg := hI.at 4 rfl (hd 4 rfl)
           have e5 := hI.at 5 rfl (hd 5 rfl)
           have e8 := hI.at 8 rfl (hd 8 rfl)
           cases g1 <;> first | exact unwanted (by dsimp only [FA]; rw [eg]; rfl) (hK gg y wx rfl rfl rfl hb) | (dsimp only [FA]; refine wantd (by rw [eg]; rfl) ?_; go_simp; refine (FRW.out rfl wx (below_step HB9.out hb.out)).mono ?_; rintro e w' ⟨rfl, hb1⟩; exact hK gg _ _ (sm3 eg e5 e8) rfl rfl ⟨below_step hb.out hb1⟩)
          ·
           refine G2 10 4 9 (h := fun LL gg y wx hl hLk eg e9 K hK => ?_)
           cases g1 <;> rcases HG2.out with ⟨t1, t2, rfl⟩ | ⟨t1, t2, rfl⟩ <;> first | exact unwanted (by dsimp only [FA]; rw [eg]; rfl) (hK y rfl).out | (dsimp only [FA]; refine wantd (by rw [eg]; rfl) ?_; go_simp; exact (hK _ (sm2 eg e9)).out)
          ·
           refine V2 11 4 10 (h := fun LL gg y wx hl hLk e4 e10 K hK => ?_)
           obtain ⟨hb⟩ := hl
           cases g1 <;> (obtain rfl := HG3.out; dsimp only [FA]; refine wantd (by rfl) ?_; go_simp; exact hK.out)
         ·
          intro LL gg y wq hall hI hl
          obtain ⟨hb⟩ := hl
          have e11 := hI.at 11 rfl (hall 11 (by decide))
          dsimp only [FA] at ⊢
          rw [e11]
          have HBC := hb
          clear hI hb e11 hall
          have HBX := Aside0.mk (below_step HB9.out HBC.out)
          have HWX := Aside0.mk (below_step HW9.out HBC.out)
          cases g3 with
          | true =>
           have HRES := Aside0.mk (HNO.out HROW.out)
           go_wp2_with fail
           go_ret
           exact ⟨by rw [← HNE.out.1, HLV.out, HD.out, HTP.out, HTQ.out, HRES.out]; rfl, HBX.out⟩
          | false =>
           go_wp2_with fail
           go_roundw
           case rel =>
            refine ⟨i + 1, by rw [HIW.out], ⟨HI.out, fun j hj => ?_⟩, HWX⟩
            rcases Nat.lt_succ_iff_lt_or_eq.1 hj with h | rfl
            ·
             exact HA.out.2 j h
            ·
             exact HROW.out
           case measure => rw [HIW.out]; simp only [intOf]; have := HI.out; omega
  ·
   have r3 := eq_false hlt
   have r4 : (i < n) = False := eq_false (by omega)
   have HRES : Aside0 ((List.range n).all (refTRow l0_0 l0_1) = true) := ⟨List.all_eq_true.2 (fun j hj => HA.out.2 j (by have := List.mem_range.1 hj; omega))⟩
   clear hlt
   go_wp2_with fail
   go_ret
   exact ⟨by rw [← HNE.out.1, HLV.out, HD.out, HTP.out, HTQ.out, HRES.out]; rfl, HBW.out⟩

end Go.Proofs.Ytfagobhhhljajaa.PWeighParts

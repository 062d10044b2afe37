-- printed by a program of this session (wip/tools), a turned form of the kit's print
import Derived.Test.YtfagobhhhljajaaPWeighPartsx0
import Derived.Test.YtfagobhhhljajaaPWeighPartsx2
import Derived.Test.YtfagobhhhljajaaPWeighPartsx8
import Derived.Test.YtfagobhhhljajaaPWeighPartsx9
namespace Go.Proofs.Ytfagobhhhljajaa.PWeighParts
open Go.RowKit Go.Proofs.YtfagobhhhljajaaW.PrintWords Go.Proofs.YtfagobhhhljajaaW.PrintLast Go.Proofs.YtfagobhhhljajaaW.PrintMore
attribute [local go_sem] max2_int min2_int max_two min_two max_three min_three max_four min_four max2_str min2_str str_geq str_leq str_gtr   -- for this text's walks alone
set_option linter.unusedVariables false
set_option linter.unusedSimpArgs false

/-! ### gazetteerref1_LoreMay: function 33 -/
/-- May a rune stand in a row's To, or in a row of a table? -/
def refTo (l : List S42) (r : Int) : Bool := mayB r && decide ((rowOf l r).f2.length = 0)
/-- What is wrong with a row, but for its To. -/
def rowBad (l : List S42) (i : Nat) : Bool := ((((!mayB (l.getD i z42).f0 || (decide (0 < i) && decide ((l.getD i z42).f0 ≤ (l.getD (i - 1) z42).f0))) || decide ((l.getD i z42).f1 < 0)) || decide (254 < (l.getD i z42).f1)) || decide (3 < (l.getD i z42).f2.length)) || (decide ((l.getD i z42).f2.length = 0) && decide ((l.getD i z42).f1 = 0))
def refRow (l : List S42) (i : Nat) : Bool := !rowBad l i && (l.getD i z42).f2.all (refTo l)
def gazetteerref1_LoreMay.f (l0 : List S42) : Option Bool := some (decide (l0.length ≤ 64) && (List.range l0.length).all (refRow l0))
open Go.Proofs.YtfagobhhhljajaaW.PrintReg
theorem rmay_ok (a : Int) : gazetteerref1_May.f a = some (mayB a) := by
 unfold gazetteerref1_May.f mayB
 by_cases h0 : 0 ≤ a
 ·
  by_cases h1 : a ≤ 1114111
  ·
   by_cases h2 : a < 55296 <;> simp [h0, h1, h2]
  ·
   have h2 : ¬ a < 55296 := by omega
   simp [h0, h1, h2]
 ·
  simp [h0]
theorem rfind_l (l : List S42) (hl : l.length ≤ 1000000) (r : Int) (d : Nat) : ∀ (k i : Nat), i ≤ l.length → l.length - i = d → d < k → (∀ j < i, (l.getD j z42).f0 ≠ r) →
  gazetteerref1_find.l0 k l r (i : Int) = some (firstAt (fun s : S42 => s.f0 == r) l) := by
 induction d with
 | zero =>
  intro k i hi hd hk hj
  obtain ⟨k, rfl⟩ : ∃ j, k = j + 1 := ⟨k - 1, by omega⟩
  simp only [gazetteerref1_find.l0]
  rw [if_neg (by omega), firstAt_none (d := z42) (fun j h => by simpa using hj j (by omega))]
 | succ d ih =>
  intro k i hi hd hk hj
  obtain ⟨k, rfl⟩ : ∃ j, k = j + 1 := ⟨k - 1, by omega⟩
  simp only [gazetteerref1_find.l0]
  rw [if_pos (by omega), if_pos (by omega)]
  have e : rd_T42 l (i : Int) = l.getD i z42 := by unfold rd_T42; rw [Int.toNat_natCast]
  rw [e]
  by_cases h : (l.getD i z42).f0 = r
  ·
   rw [if_pos h, firstAt_at (d := z42) (k := i) (by omega) (by simpa using h) (fun j h2 => by simpa using hj j h2)]
  ·
   rw [if_neg h, show wrap64 ((i : Int) + 1) = ((i + 1 : Nat) : Int) by unfold wrap64; omega]
   exact ih k (i + 1) (by omega) (by omega) (by omega) (fun j h2 => by rcases Nat.lt_succ_iff_lt_or_eq.1 h2 with h3 | rfl; exact hj j h3; exact h)
theorem rfind_ok (l : List S42) (hl : l.length ≤ 1000000) (r : Int) : gazetteerref1_find.f (l.length + 1) l r = some (firstAt (fun s : S42 => s.f0 == r) l) :=
 rfind_l l hl r l.length _ 0 (by omega) (by omega) (by omega) (fun j h => absurd h (by omega))
set_option maxHeartbeats 8000000 in
set_option maxRecDepth 100000 in
theorem gazetteerref1_LoreMay.calls (A0 : Option Addr) (c0 : Nat) (l0 : List (S42)) (r : Bool) (w : World) (hr0 : Kd.C k42 w A0 l0.length l0) (hc0 : l0.length ≤ c0) (h : gazetteerref1_LoreMay.f l0 = some r) :
  Calls Try.prog 33 #[.slice A0 l0.length c0] w fun e w' => e = .returned (.bool r) ∧ Below w.heap.size w w' := by
 obtain rfl := Option.some.inj h
 have HR := Aside0.mk (And.intro hr0 hc0)
 clear hr0 hc0 h
 obtain ⟨n, hn⟩ : ∃ n, n = l0.length := ⟨_, rfl⟩
 rw [← hn]
 have HNE := Aside0.mk hn
 clear hn
 go_enter Try.func33, Try.ntmps33
 by_cases h64 : 64 < n
 ·
  have r1 : ((64 : Int) < (n : Int)) = True := eq_true (by omega)
  have r2 : (64 < n) = True := eq_true h64
  have HD := Aside0.mk (decide_eq_false (show ¬ n ≤ 64 by omega))
  clear h64
  go_wp2_with fail
  go_ret
  exact ⟨by rw [HD.out]; rfl, Below.refl _ _⟩
 ·
  have r1 : ((64 : Int) < (n : Int)) = False := eq_false (by omega)
  have r2 : (64 < n) = False := eq_false h64
  have HD := Aside0.mk (decide_eq_true (show n ≤ 64 by omega))
  have HN : Aside0 (n ≤ 64) := ⟨by omega⟩
  have FD := Aside0.mk (fun (r : Int) (W' : World) (hb : Below w.heap.size w W') => gazetteerref1_find.calls (l0.length + 1) A0 c0 l0 r _ W' (Kd.C_below HR.out.1 hb) HR.out.2 (rfind_ok l0 (by have := HNE.out; omega) r))
  rw [← HNE.out] at FD
  clear h64
  go_wp2_with fail
  go_loopw [3] (fun v wr => ∃ i : Nat, v = .int .i64 (i : Int) ∧ Aside0 (i ≤ n ∧ ∀ j < i, refRow l0 j = true) ∧ Aside0 (Below w.heap.size w wr)) (fun v _ => n - (intOf v).toNat)
  case atStart => exact ⟨0, rfl, ⟨Nat.zero_le _, by omega⟩, ⟨Below.refl _ _⟩⟩
  case round =>
   obtain ⟨i, rfl, HA, HBR⟩ := hrel
   by_cases hlt : (i : Int) < (n : Int)
   ·
    have r1 := eq_true hlt
    have r2 : (i < n) = True := eq_true (by omega)
    have r0 : ((0 : Int) ≤ (i : Int)) = True := eq_true (by omega)
    have HI : Aside0 (i < n) := ⟨by omega⟩
    obtain ⟨ad, A3, c3, e, hx0, hx1, hx2, k3, g3⟩ := at_T42 HR.out.1 (i : Int) (by omega) (by rw [← HNE.out]; exact hlt)
    cases e
    simp only [Int.toNat_natCast] at hx0 hx1 hx2
    replace hx0 := cell_keep HBR.out hx0
    replace hx1 := cell_keep HBR.out hx1
    replace hx2 := cell_keep HBR.out hx2
    obtain ⟨X, hX⟩ : ∃ X, X = rd_T42 l0 (i : Int) := ⟨_, rfl⟩
    rw [← hX] at hx0 hx1 hx2 k3 g3
    have HXD : Aside0 (l0.getD i z42 = X) := ⟨by rw [hX]; unfold rd_T42; rw [Int.toNat_natCast]⟩
    have HG3 := Aside0.mk g3
    clear hX hlt
    go_wp2_with fail
    obtain ⟨w7, hw7⟩ : ∃ w7, w7 = wr.alloc (.cells #[.int .i32 X.f0, .int .i64 X.f1, .slice A3 X.f2.length c3] 42) := ⟨_, rfl⟩
    rw [← hw7]
    have HX : Aside0 (w7.heap[wr.heap.size]? = some (.cells #[.int .i32 X.f0, .int .i64 X.f1, .slice A3 X.f2.length c3] 42 (0, 0))) := ⟨by rw [hw7]; exact blk_new wr _⟩
    have HBR1 : Aside0 (Below w.heap.size w w7) := ⟨by rw [hw7]; exact below_alloc HBR.out _⟩
    have FMAY := Aside0.mk (fun W' => gazetteerref1_May.calls X.f0 (mayB X.f0) W' (rmay_ok X.f0))
    obtain ⟨pi, hpi⟩ : ∃ pi, pi = i - 1 := ⟨_, rfl⟩
    obtain ⟨pv, hpv⟩ : ∃ pv, pv = (l0.getD (i - 1) z42).f0 := ⟨_, rfl⟩
    have HP : Aside0 (((0 : Int) < (i : Int)) = True ∧ (0 < i) = True ∧ decide (0 < i) = true ∨ ((0 : Int) < (i : Int)) = False ∧ (0 < i) = False ∧ decide (0 < i) = false) := ⟨by by_cases h : 0 < i; exact .inl ⟨eq_true (by omega), eq_true h, decide_eq_true h⟩; exact .inr ⟨eq_false (by omega), eq_false h, decide_eq_false h⟩⟩
    have HPI : Aside0 (decide (0 < i) = true → wrap64 ((i : Int) - 1) = (pi : Int) ∧ ((0 : Int) ≤ (pi : Int)) = True ∧ ((pi : Int) < (n : Int)) = True ∧ (pi < n) = True ∧ w.cell? (ad.add (pi * 3)) = some (.int .i32 pv)) := ⟨fun h => by
     have h := of_decide_eq_true h
     have hh := HI.out
     have hn := HN.out
     obtain ⟨ad2, A5, c5, e, h0, _⟩ := at_T42 HR.out.1 (pi : Int) (by omega) (by rw [← HNE.out]; omega)
     cases e
     rw [Int.toNat_natCast] at h0
     refine ⟨by unfold wrap64; omega, eq_true (by omega), eq_true (by omega), eq_true (by omega), ?_⟩
     rw [h0, hpv, hpi]; unfold rd_T42; rw [Int.toNat_natCast]⟩
    obtain ⟨m, hm⟩ : ∃ m, m = mayB X.f0 := ⟨_, rfl⟩
    obtain ⟨p, hp⟩ : ∃ p, p = decide (0 < i) := ⟨_, rfl⟩
    obtain ⟨b0, hb0⟩ : ∃ b, b = decide (X.f2.length = 0) := ⟨_, rfl⟩
    obtain ⟨b8, hb8⟩ : ∃ b, b = decide (3 < X.f2.length) := ⟨_, rfl⟩
    obtain ⟨b1, hb1⟩ : ∃ b, b = (!m || (p && decide (X.f0 ≤ pv))) := ⟨_, rfl⟩
    obtain ⟨b2, hb2⟩ : ∃ b, b = (b1 || decide (X.f1 < 0)) := ⟨_, rfl⟩
    obtain ⟨b3, hb3⟩ : ∃ b, b = (b2 || decide (254 < X.f1)) := ⟨_, rfl⟩
    obtain ⟨b4, hb4⟩ : ∃ b, b = (b3 || b8) := ⟨_, rfl⟩
    obtain ⟨b5, hb5⟩ : ∃ b, b = (b4 || (b0 && X.f1 == 0)) := ⟨_, rfl⟩
    have HB0 : Aside0 (((X.f2.length : Int) == 0) = true ∧ ((X.f2.length : Int) = 0) = True ∧ (X.f2.length = 0) = True ∧ b0 = true ∨ ((X.f2.length : Int) == 0) = false ∧ ((X.f2.length : Int) = 0) = False ∧ (X.f2.length = 0) = False ∧ b0 = false) := ⟨by by_cases h : X.f2.length = 0; exact .inl ⟨by simpa using h, eq_true (by omega), eq_true h, hb0.trans (decide_eq_true h)⟩; exact .inr ⟨by simpa using h, eq_false (by omega), eq_false h, hb0.trans (decide_eq_false h)⟩⟩
    have HBAD : Aside0 (rowBad l0 i = b5) := ⟨by
     rw [hb5, hb4, hb3, hb2, hb1, hm, hp, hpv, hb0, hb8]
     unfold rowBad
     rw [HXD.out]
     rfl⟩
    have HB8 : Aside0 (((3 : Int) < (X.f2.length : Int)) = True ∧ (3 < X.f2.length) = True ∧ b8 = true ∨ ((3 : Int) < (X.f2.length : Int)) = False ∧ (3 < X.f2.length) = False ∧ b8 = false) := ⟨by by_cases h : 3 < X.f2.length; exact .inl ⟨eq_true (by omega), eq_true h, hb8.trans (decide_eq_true h)⟩; exact .inr ⟨eq_false (by omega), eq_false h, hb8.trans (decide_eq_false h)⟩⟩
    rw [← hm] at FMAY
    rw [← hp] at HP HPI
    have HB1 := Aside0.mk hb1
    have HB2 := Aside0.mk hb2
    have HB3 := Aside0.mk hb3
    have HB4 := Aside0.mk hb4
    have HB5 := Aside0.mk hb5
    clear hw7 hm hp hpi hpv hb0 hb8 hb1 hb2 hb3 hb4 hb5 hx0 hx1 hx2 r0 r1 r2
    refine wp_reg 46 rfl rfl (by kernel_rfl) (fun z => .slice (some ad) n c0 :: undef :: u2 :: .int .i64 (i : Int) :: .pointer (some ⟨wr.heap.size, 0, none⟩) :: u5 :: u6 :: .slice (some ad) n c0 :: .int .i64 (n : Int) :: .bool false :: .int .i64 (i : Int) :: .slice (some ad) n c0 :: .int .i64 (n : Int) :: .bool true :: u14 :: u15 :: .slice (some ad) n c0 :: .int .i64 (i : Int) :: .pointer (some (ad.add (i * 3))) :: .agg #[.int .i32 X.f0, .int .i64 X.f1, .slice A3 X.f2.length c3] :: z 20 :: z 21 :: z 22 :: z 23 :: z 24 :: z 25 :: z 26 :: z 27 :: z 28 :: z 29 :: z 30 :: z 31 :: z 32 :: z 33 :: z 34 :: z 35 :: z 36 :: z 37 :: z 38 :: z 39 :: z 40 :: z 41 :: z 42 :: z 43 :: z 44 :: z 45 :: z 46 :: z 47 :: z 48 :: z 49 :: z 50 :: z 51 :: z 52 :: z 53 :: z 54 :: z 55 :: z 56 :: z 57 :: z 58 :: z 59 :: z 60 :: z 61 :: z 62 :: z 63 :: z 64 :: z 65 :: u66 :: u67 :: u68 :: u69 :: u70 :: u71 :: u72 :: u73 :: u74 :: u75 :: u76 :: u77 :: u78 :: u79 :: u80 :: u81 :: u82 :: u83 :: u84 :: u85 :: u86 :: u87 :: u88 :: u89 :: u90 :: u91 :: u92 :: u93 :: u94 :: u95 :: u96 :: u97 :: u98 :: u99 :: []) (fun (gg : Unit) => [(0, 20, .pointer (some ⟨wr.heap.size, 0, none⟩)), (1, 21, .int .i32 X.f0), (2, 22, .bool m), (3, 23, .bool (!m)), (4, 24, .bool (!m)), (5, 25, bif m then .int .i64 (i : Int) else undef), (6, 26, bif m then .bool p else undef), (7, 27, bif m then .bool p else undef), (8, 28, bif m && p then .slice (some ad) n c0 else undef), (9, 29, bif m && p then .int .i64 (i : Int) else undef), (10, 30, bif m && p then .int .i64 (pi : Int) else undef), (11, 31, bif m && p then .pointer (some (ad.add (pi * 3))) else undef), (12, 32, bif m && p then .pointer (some (ad.add (pi * 3))) else undef), (13, 33, bif m && p then .int .i32 pv else undef), (14, 34, bif m && p then .pointer (some ⟨wr.heap.size, 0, none⟩) else undef), (15, 35, bif m && p then .int .i32 X.f0 else undef), (16, 36, bif m && p then .bool (decide (X.f0 ≤ pv)) else undef), (17, 37, bif m then .bool (p && decide (X.f0 ≤ pv)) else undef), (18, 38, .bool b1), (19, 39, .bool b1), (20, 40, bif b1 then undef else .pointer (some ⟨wr.heap.size, 1, none⟩)), (21, 41, bif b1 then undef else .int .i64 X.f1), (22, 42, bif b1 then undef else .bool (decide (X.f1 < 0))), (23, 43, .bool b2), (24, 44, .bool b2), (25, 45, bif b2 then undef else .pointer (some ⟨wr.heap.size, 1, none⟩)), (26, 46, bif b2 then undef else .int .i64 X.f1), (27, 47, bif b2 then undef else .bool (decide (254 < X.f1))), (28, 48, .bool b3), (29, 49, .bool b3), (30, 50, bif b3 then undef else .pointer (some ⟨wr.heap.size, 2, none⟩)), (31, 51, bif b3 then undef else .slice A3 X.f2.length c3), (32, 52, bif b3 then undef else .int .i64 (X.f2.length : Int)), (33, 53, bif b3 then undef else .bool b8), (34, 54, .bool b4), (35, 55, .bool b4), (36, 56, bif b4 then undef else .pointer (some ⟨wr.heap.size, 2, none⟩)), (37, 57, bif b4 then undef else .slice A3 X.f2.length c3), (38, 58, bif b4 then undef else .int .i64 (X.f2.length : Int)), (39, 59, bif b4 then undef else .bool b0), (40, 60, bif b4 then undef else .bool b0), (41, 61, bif b4 then undef else bif b0 then .pointer (some ⟨wr.heap.size, 1, none⟩) else undef), (42, 62, bif b4 then undef else bif b0 then .int .i64 X.f1 else undef), (43, 63, bif b4 then undef else bif b0 then .bool (X.f1 == 0) else undef), (44, 64, bif b4 then undef else .bool (b0 && X.f1 == 0)), (45, 65, .bool b5)]) (fun LL gg z wx => Aside0 (Below w7.heap.size w7 wx)) () (zz [(20, u20), (21, u21), (22, u22), (23, u23), (24, u24), (25, u25), (26, u26), (27, u27), (28, u28), (29, u29), (30, u30), (31, u31), (32, u32), (33, u33), (34, u34), (35, u35), (36, u36), (37, u37), (38, u38), (39, u39), (40, u40), (41, u41), (42, u42), (43, u43), (44, u44), (45, u45), (46, u46), (47, u47), (48, u48), (49, u49), (50, u50), (51, u51), (52, u52), (53, u53), (54, u54), (55, u55), (56, u56), (57, u57), (58, u58), (59, u59), (60, u60), (61, u61), (62, u62), (63, u63), (64, u64), (65, u65)]) rfl rfl ⟨below_drew (Below.refl _ _)⟩ ?_ ?_
    ·
     refine Steps.cons ?_ (Steps.cons ?_ (Steps.cons ?_ (Steps.cons ?_ (Steps.cons ?_ (Steps.cons ?_ (Steps.cons ?_ (Steps.cons ?_ (Steps.cons ?_ (Steps.cons ?_ (Steps.cons ?_ (Steps.cons ?_ (Steps.cons ?_ (Steps.cons ?_ (Steps.cons ?_ (Steps.cons ?_ (Steps.cons ?_ (Steps.cons ?_ (Steps.cons ?_ (Steps.cons ?_ (Steps.cons ?_ (Steps.cons ?_ (Steps.cons ?_ (Steps.cons ?_ (Steps.cons ?_ (Steps.cons ?_ (Steps.cons ?_ (Steps.cons ?_ (Steps.cons ?_ (Steps.cons ?_ (Steps.cons ?_ (Steps.cons ?_ (Steps.cons ?_ (Steps.cons ?_ (Steps.cons ?_ (Steps.cons ?_ (Steps.cons ?_ (Steps.cons ?_ (Steps.cons ?_ (Steps.cons ?_ (Steps.cons ?_ (Steps.cons ?_ (Steps.cons ?_ (Steps.cons ?_ (Steps.cons ?_ (Steps.cons ?_ (Steps.nil))))))))))))))))))))))))))))))))))))))))))))))
     ·
      exact V0 0
     ·
      refine V1 1 0 (h := fun LL gg z wx hl hLk e0 K hK => ?_)
      obtain ⟨hb⟩ := hl
      have q0 : wx.cell? ⟨wr.heap.size, 0, none⟩ = some (.int .i32 X.f0) := (blk_cell (blk_below HX.out hb.out) 0).trans rfl
      dsimp only [FA]
      refine wantd (by rfl) ?_
      go_simp
      exact hK.out
     ·
      refine CD 2 (fun _ => rfl) (fun _ => rfl) fun LL gg z wx hl hLk hd hI K hK => ?_
      obtain ⟨hb⟩ := hl
      have e1 := hI.at 1 rfl (hd 1 rfl)
      dsimp only [FA]
      refine wantd (by rfl) ?_
      go_simp
      refine (FMAY.out wx).mono ?_
      rintro e w' ⟨rfl, hb0⟩
      have hb1 := hb0.below
      exact hK gg _ _ (sm1 e1) rfl rfl ⟨below_step hb.out hb1⟩
     ·
      exact V1 3 2
     ·
      exact V1 4 3
     ·
      refine G1 5 4 (h := fun LL gg z wx hl hLk eg K hK => ?_)
      cases m <;> first | exact unwanted (by dsimp only [FA]; rw [eg]; rfl) (hK z rfl).out | (dsimp only [FA]; refine wantd (by rw [eg]; rfl) ?_; go_simp; exact (hK _ (sm1 eg)).out)
     ·
      refine G2 6 4 5 (h := fun LL gg z wx hl hLk eg e5 K hK => ?_)
      cases m <;> rcases HP.out with ⟨t1, t2, rfl⟩ | ⟨t1, t2, rfl⟩ <;> first | exact unwanted (by dsimp only [FA]; rw [eg]; rfl) (hK z rfl).out | (dsimp only [FA]; refine wantd (by rw [eg]; rfl) ?_; go_simp; exact (hK _ (sm2 eg e5)).out)
     ·
      refine G2 7 4 6 (h := fun LL gg z wx hl hLk eg e6 K hK => ?_)
      cases m <;> first | exact unwanted (by dsimp only [FA]; rw [eg]; rfl) (hK z rfl).out | (dsimp only [FA]; refine wantd (by rw [eg]; rfl) ?_; go_simp; exact (hK _ (sm2 eg e6)).out)
     ·
      refine G1 8 7 (h := fun LL gg z wx hl hLk eg K hK => ?_)
      cases m <;> cases p <;> first | exact unwanted (by dsimp only [FA]; rw [eg]; rfl) (hK z rfl).out | (dsimp only [FA]; refine wantd (by rw [eg]; rfl) ?_; go_simp; exact (hK _ (sm1 eg)).out)
     ·
      refine G1 9 7 (h := fun LL gg z wx hl hLk eg K hK => ?_)
      cases m <;> cases p <;> first | exact unwanted (by dsimp only [FA]; rw [eg]; rfl) (hK z rfl).out | (dsimp only [FA]; refine wantd (by rw [eg]; rfl) ?_; go_simp; exact (hK _ (sm1 eg)).out)
     ·
      refine G2 10 7 9 (h := fun LL gg z wx hl hLk eg e9 K hK => ?_)
      obtain ⟨hb⟩ := hl
      cases m <;> cases p <;> first | exact unwanted (by dsimp only [FA]; rw [eg]; rfl) (hK z rfl).out | (have t1 : IntKind.wrap .i64 ((i : Int) - 1) = (pi : Int) := (i64_w _).trans (HPI.out rfl).1; dsimp only [FA]; refine wantd (by rw [eg]; rfl) ?_; go_simp; exact (hK _ (sm2 eg e9)).out)
     ·
      refine G3 11 7 8 10 (h := fun LL gg z wx hl hLk eg e8 e10 K hK => ?_)
      obtain ⟨hb⟩ := hl
      cases m <;> cases p <;> first | exact unwanted (by dsimp only [FA]; rw [eg]; rfl) (hK z rfl).out | (have t1 := (HPI.out rfl).2.1; have t2 := (HPI.out rfl).2.2.1; have t3 := (HPI.out rfl).2.2.2.1; dsimp only [FA]; refine wantd (by rw [eg]; rfl) ?_; go_simp; exact (hK _ (sm3 eg e8 e10)).out)
     ·
      refine G2 12 7 11 (h := fun LL gg z wx hl hLk eg e11 K hK => ?_)
      cases m <;> cases p <;> first | exact unwanted (by dsimp only [FA]; rw [eg]; rfl) (hK z rfl).out | (dsimp only [FA]; refine wantd (by rw [eg]; rfl) ?_; go_simp; exact (hK _ (sm2 eg e11)).out)
     ·
      refine G2 13 7 12 (h := fun LL gg z wx hl hLk eg e12 K hK => ?_)
      obtain ⟨hb⟩ := hl
      cases m <;> cases p <;> first | exact unwanted (by dsimp only [FA]; rw [eg]; rfl) (hK z rfl).out | (have t1 := cell_keep (below_step HBR1.out hb.out) (HPI.out rfl).2.2.2.2; dsimp only [FA]; refine wantd (by rw [eg]; rfl) ?_; go_simp; exact (hK _ (sm2 eg e12)).out)
     ·
      refine G1 14 7 (h := fun LL gg z wx hl hLk eg K hK => ?_)
      cases m <;> cases p <;> first | exact unwanted (by dsimp only [FA]; rw [eg]; rfl) (hK z rfl).out | (dsimp only [FA]; refine wantd (by rw [eg]; rfl) ?_; go_simp; exact (hK _ (sm1 eg)).out)
     ·
      refine G2 15 7 14 (h := fun LL gg z wx hl hLk eg e14 K hK => ?_)
      obtain ⟨hb⟩ := hl
      cases m <;> cases p <;> first | exact unwanted (by dsimp only [FA]; rw [eg]; rfl) (hK z rfl).out | (have q0 : wx.cell? ⟨wr.heap.size, 0, none⟩ = some (.int .i32 X.f0) := (blk_cell (blk_below HX.out hb.out) 0).trans rfl; dsimp only [FA]; refine wantd (by rw [eg]; rfl) ?_; go_simp; exact (hK _ (sm2 eg e14)).out)
     ·
      refine G3 16 7 13 15 (h := fun LL gg z wx hl hLk eg e13 e15 K hK => ?_)
      cases m <;> cases p <;> first | exact unwanted (by dsimp only [FA]; rw [eg]; rfl) (hK z rfl).out | (dsimp only [FA]; refine wantd (by rw [eg]; rfl) ?_; go_simp; exact (hK _ (sm3 eg e13 e15)).out)
     ·
      refine G3 17 4 7 16 (h := fun LL gg z wx hl hLk eg e7 e16 K hK => ?_)
      cases m <;> cases p <;> first | exact unwanted (by dsimp only [FA]; rw [eg]; rfl) (hK z rfl).out | (dsimp only [FA]; refine wantd (by rw [eg]; rfl) ?_; go_simp; exact (hK _ (sm3 eg e7 e16)).out)
     ·
      refine V2 18 4 17 (h := fun LL gg z wx hl hLk e4 e17 K hK => ?_)
      obtain ⟨hb⟩ := hl
      cases m <;> cases p <;> (obtain rfl := HB1.out; dsimp only [FA]; refine wantd (by rfl) ?_; go_simp; exact hK.out)
     ·
      exact V1 19 18
     ·
      refine G1 20 19 (h := fun LL gg z wx hl hLk eg K hK => ?_)
      cases b1 <;> first | exact unwanted (by dsimp only [FA]; rw [eg]; rfl) (hK z rfl).out | (dsimp only [FA]; refine wantd (by rw [eg]; rfl) ?_; go_simp; exact (hK _ (sm1 eg)).out)
     ·
      refine G2 21 19 20 (h := fun LL gg z wx hl hLk eg e20 K hK => ?_)
      obtain ⟨hb⟩ := hl
      cases b1 <;> first | exact unwanted (by dsimp only [FA]; rw [eg]; rfl) (hK z rfl).out | (have q1 : wx.cell? ⟨wr.heap.size, 1, none⟩ = some (.int .i64 X.f1) := (blk_cell (blk_below HX.out hb.out) 1).trans rfl; dsimp only [FA]; refine wantd (by rw [eg]; rfl) ?_; go_simp; exact (hK _ (sm2 eg e20)).out)
     ·
      refine G2 22 19 21 (h := fun LL gg z wx hl hLk eg e21 K hK => ?_)
      cases b1 <;> first | exact unwanted (by dsimp only [FA]; rw [eg]; rfl) (hK z rfl).out | (dsimp only [FA]; refine wantd (by rw [eg]; rfl) ?_; go_simp; exact (hK _ (sm2 eg e21)).out)
     ·
      refine V2 23 19 22 (h := fun LL gg z wx hl hLk e19 e22 K hK => ?_)
      obtain ⟨hb⟩ := hl
      cases b1 <;> (obtain rfl := HB2.out; dsimp only [FA]; refine wantd (by rfl) ?_; go_simp; exact hK.out)
     ·
      exact V1 24 23
     ·
      refine G1 25 24 (h := fun LL gg z wx hl hLk eg K hK => ?_)
      cases b2 <;> first | exact unwanted (by dsimp only [FA]; rw [eg]; rfl) (hK z rfl).out | (dsimp only [FA]; refine wantd (by rw [eg]; rfl) ?_; go_simp; exact (hK _ (sm1 eg)).out)
     ·
      refine G2 26 24 25 (h := fun LL gg z wx hl hLk eg e25 K hK => ?_)
      obtain ⟨hb⟩ := hl
      cases b2 <;> first | exact unwanted (by dsimp only [FA]; rw [eg]; rfl) (hK z rfl).out | (have q1 : wx.cell? ⟨wr.heap.size, 1, none⟩ = some (.int .i64 X.f1) := (blk_cell (blk_below HX.out hb.out) 1).trans rfl; dsimp only [FA]; refine wantd (by rw [eg]; rfl) ?_; go_simp; exact (hK _ (sm2 eg e25)).out)
     ·
      refine G2 27 24 26 (h := fun LL gg z wx hl hLk eg e26 K hK => ?_)
      cases b2 <;> first | exact unwanted (by dsimp only [FA]; rw [eg]; rfl) (hK z rfl).out | (dsimp only [FA]; refine wantd (by rw [eg]; rfl) ?_; go_simp; exact (hK _ (sm2 eg e26)).out)
     ·
      refine V2 28 24 27 (h := fun LL gg z wx hl hLk e24 e27 K hK => ?_)
      obtain ⟨hb⟩ := hl
      cases b2 <;> (obtain rfl := HB3.out; dsimp only [FA]; refine wantd (by rfl) ?_; go_simp; exact hK.out)
     ·
      exact V1 29 28
     ·
      refine G1 30 29 (h := fun LL gg z wx hl hLk eg K hK => ?_)
      cases b3 <;> first | exact unwanted (by dsimp only [FA]; rw [eg]; rfl) (hK z rfl).out | (dsimp only [FA]; refine wantd (by rw [eg]; rfl) ?_; go_simp; exact (hK _ (sm1 eg)).out)
     ·
      refine G2 31 29 30 (h := fun LL gg z wx hl hLk eg e30 K hK => ?_)
      obtain ⟨hb⟩ := hl
      cases b3 <;> first | exact unwanted (by dsimp only [FA]; rw [eg]; rfl) (hK z rfl).out | (have q2 : wx.cell? ⟨wr.heap.size, 2, none⟩ = some (.slice A3 X.f2.length c3) := (blk_cell (blk_below HX.out hb.out) 2).trans rfl; dsimp only [FA]; refine wantd (by rw [eg]; rfl) ?_; go_simp; exact (hK _ (sm2 eg e30)).out)
     ·
      refine G2 32 29 31 (h := fun LL gg z wx hl hLk eg e31 K hK => ?_)
      cases b3 <;> first | exact unwanted (by dsimp only [FA]; rw [eg]; rfl) (hK z rfl).out | (dsimp only [FA]; refine wantd (by rw [eg]; rfl) ?_; go_simp; exact (hK _ (sm2 eg e31)).out)
     ·
      refine G2 33 29 32 (h := fun LL gg z wx hl hLk eg e32 K hK => ?_)
      cases b3 <;> rcases HB8.out with ⟨t1, t2, rfl⟩ | ⟨t1, t2, rfl⟩ <;> first | exact unwanted (by dsimp only [FA]; rw [eg]; rfl) (hK z rfl).out | (dsimp only [FA]; refine wantd (by rw [eg]; rfl) ?_; go_simp; exact (hK _ (sm2 eg e32)).out)
     ·
      refine V2 34 29 33 (h := fun LL gg z wx hl hLk e29 e33 K hK => ?_)
      obtain ⟨hb⟩ := hl
      cases b3 <;> (obtain rfl := HB4.out; dsimp only [FA]; refine wantd (by rfl) ?_; go_simp; exact hK.out)
     ·
      exact V1 35 34
     ·
      refine G1 36 35 (h := fun LL gg z wx hl hLk eg K hK => ?_)
      cases b4 <;> first | exact unwanted (by dsimp only [FA]; rw [eg]; rfl) (hK z rfl).out | (dsimp only [FA]; refine wantd (by rw [eg]; rfl) ?_; go_simp; exact (hK _ (sm1 eg)).out)
     ·
      refine G2 37 35 36 (h := fun LL gg z wx hl hLk eg e36 K hK => ?_)
      obtain ⟨hb⟩ := hl
      cases b4 <;> first | exact unwanted (by dsimp only [FA]; rw [eg]; rfl) (hK z rfl).out | (have q2 : wx.cell? ⟨wr.heap.size, 2, none⟩ = some (.slice A3 X.f2.length c3) := (blk_cell (blk_below HX.out hb.out) 2).trans rfl; dsimp only [FA]; refine wantd (by rw [eg]; rfl) ?_; go_simp; exact (hK _ (sm2 eg e36)).out)
     ·
      refine G2 38 35 37 (h := fun LL gg z wx hl hLk eg e37 K hK => ?_)
      cases b4 <;> first | exact unwanted (by dsimp only [FA]; rw [eg]; rfl) (hK z rfl).out | (dsimp only [FA]; refine wantd (by rw [eg]; rfl) ?_; go_simp; exact (hK _ (sm2 eg e37)).out)
     ·
      refine G2 39 35 38 (h := fun LL gg z wx hl hLk eg e38 K hK => ?_)
      cases b4 <;> rcases HB0.out with ⟨t1, t2, t3, rfl⟩ | ⟨t1, t2, t3, rfl⟩ <;> first | exact unwanted (by dsimp only [FA]; rw [eg]; rfl) (hK z rfl).out | (dsimp only [FA]; refine wantd (by rw [eg]; rfl) ?_; go_simp; exact (hK _ (sm2 eg e38)).out)
     ·
      refine G2 40 35 39 (h := fun LL gg z wx hl hLk eg e39 K hK => ?_)
      cases b4 <;> first | exact unwanted (by dsimp only [FA]; rw [eg]; rfl) (hK z rfl).out | (dsimp only [FA]; refine wantd (by rw [eg]; rfl) ?_; go_simp; exact (hK _ (sm2 eg e39)).out)
     ·
      refine G1 41 40 (h := fun LL gg z wx hl hLk eg K hK => ?_)
      cases b4 <;> cases b0 <;> first | exact unwanted (by dsimp only [FA]; rw [eg]; rfl) (hK z rfl).out | (dsimp only [FA]; refine wantd (by rw [eg]; rfl) ?_; go_simp; exact (hK _ (sm1 eg)).out)
     ·
      refine G2 42 40 41 (h := fun LL gg z wx hl hLk eg e41 K hK => ?_)
      obtain ⟨hb⟩ := hl
      cases b4 <;> cases b0 <;> first | exact unwanted (by dsimp only [FA]; rw [eg]; rfl) (hK z rfl).out | (have q1 : wx.cell? ⟨wr.heap.size, 1, none⟩ = some (.int .i64 X.f1) := (blk_cell (blk_below HX.out hb.out) 1).trans rfl; dsimp only [FA]; refine wantd (by rw [eg]; rfl) ?_; go_simp; exact (hK _ (sm2 eg e41)).out)
     ·
      refine G2 43 40 42 (h := fun LL gg z wx hl hLk eg e42 K hK => ?_)
      cases b4 <;> cases b0 <;> first | exact unwanted (by dsimp only [FA]; rw [eg]; rfl) (hK z rfl).out | (dsimp only [FA]; refine wantd (by rw [eg]; rfl) ?_; go_simp; exact (hK _ (sm2 eg e42)).out)
     ·
      refine G3 44 35 40 43 (h := fun LL gg z wx hl hLk eg e40 e43 K hK => ?_)
      cases b4 <;> cases b0 <;> first | exact unwanted (by dsimp only [FA]; rw [eg]; rfl) (hK z rfl).out | (dsimp only [FA]; refine wantd (by rw [eg]; rfl) ?_; go_simp; exact (hK _ (sm3 eg e40 e43)).out)
     ·
      refine V2 45 35 44 (h := fun LL gg z wx hl hLk e35 e44 K hK => ?_)
      obtain ⟨hb⟩ := hl
      cases b4 <;> (obtain rfl := HB5.out; dsimp only [FA]; refine wantd (by rfl) ?_; go_simp; exact hK.out)
    ·
     intro LL gg z wc hall hI hl
     obtain ⟨hb⟩ := hl
     have e45 := hI.at 45 rfl (hall 45 (by decide))
     dsimp only [FA] at ⊢
     rw [e45]
     have HBC := hb
     clear hI hb e45 hall
     have HBW := Aside0.mk (below_step HBR1.out HBC.out)
     have HXC := Aside0.mk (blk_below HX.out HBC.out)
     clear HX HBC HB1 HB2 HB3 HB4 HB5 HB0 HB8 HP HPI FMAY HBR1
     cases b5 with
     | true =>
      have HRES : Aside0 ((List.range n).all (refRow l0) = false) := ⟨List.all_eq_false.2 ⟨i, List.mem_range.2 HI.out, by unfold refRow; rw [HBAD.out]; simp⟩⟩
      go_wp2_with fail
      go_ret
      exact ⟨by rw [HD.out, HRES.out]; rfl, HBW.out⟩
     | false =>
      obtain ⟨gx, hgx⟩ : ∃ gx, gx = wr.heap.size := ⟨_, rfl⟩
      rw [← hgx] at HXC ⊢
      clear hgx
      go_wp2_with fail
      go_loopw [5] (fun v wr2 => ∃ k : Nat, v = .int .i64 (k : Int) ∧ Aside0 (k ≤ X.f2.length ∧ ∀ j < k, refTo l0 (X.f2.getD j 0) = true) ∧ Aside0 (Below wc.heap.size wc wr2)) (fun v _ => X.f2.length - (intOf v).toNat)
      case atStart => exact ⟨0, rfl, ⟨Nat.zero_le _, by omega⟩, ⟨Below.refl _ _⟩⟩
      case round =>
       obtain ⟨k, rfl, HK, HBK⟩ := hrel
       have q2 : wr.cell? ⟨gx, 2, none⟩ = some (.slice A3 X.f2.length c3) := (blk_cell (blk_below HXC.out HBK.out) 2).trans rfl
       have HBE := Aside0.mk (below_step HBW.out HBK.out)
       by_cases hk : (k : Int) < (X.f2.length : Int)
       ·
        have r1 := eq_true hk
        have r2 : (k < X.f2.length) = True := eq_true (by omega)
        have r0 : ((0 : Int) ≤ (k : Int)) = True := eq_true (by omega)
        have HKL : Aside0 (k < X.f2.length) := ⟨by omega⟩
        obtain ⟨a3, e, hx⟩ := Kd.at_int (i := (k : Int)) HG3.out (by omega) hk
        cases e
        simp only [Int.toNat_natCast] at hx
        obtain ⟨r, hr⟩ : ∃ r, r = rd X.f2 (k : Int) := ⟨_, rfl⟩
        rw [← hr] at hx
        have HRD : Aside0 (X.f2.getD k 0 = r) := ⟨by rw [hr]; unfold rd; rw [Int.toNat_natCast]⟩
        have hx2 := cell_keep HBE.out hx
        clear hr hk hx
        go_wp2_with fail
        refine (FD.out r wr HBE.out).mono ?_
        rintro e w9 ⟨rfl, hb0⟩
        have HB9 := Aside0.mk (below_step HBE.out hb0.below)
        have q3 := cell_keep hb0.below q2
        have hx3 := cell_keep hb0.below hx2
        have hb9 := hb0.below
        obtain ⟨a, ha⟩ : ∃ a, a = firstAt (fun s : S42 => s.f0 == r) l0 := ⟨_, rfl⟩
        rw [← ha]
        have HA2 := Aside0.mk ha
        clear hb0 q2 hx2 ha
        go_wp2_with fail
        refine (gazetteerref1_May.calls r (mayB r) _ (rmay_ok r)).mono ?_
        rintro e w10 ⟨rfl, hb0⟩
        have HB10 := Aside0.mk (below_step HB9.out hb0.below)
        have HW10 : Aside0 (Below wc.heap.size wc w10) := ⟨below_step (below_step HBK.out hb9) hb0.below⟩
        have q4 := cell_keep hb0.below q3
        have HKW := Aside0.mk (show wrap64 ((k : Int) + 1) = ((k + 1 : Nat) : Int) by have := HKL.out; have := g3.2.1; unfold wrap64; omega)
        clear hb0 q3 hx3 hb9
        have HNO : Aside0 (refTo l0 r = false → (List.range n).all (refRow l0) = false) := ⟨fun h => List.all_eq_false.2 ⟨i, List.mem_range.2 HI.out, by
         unfold refRow
         rw [HXD.out, List.all_eq_false.2 ⟨X.f2.getD k 0, by rw [List.getD_eq_getElem?_getD, List.getElem?_eq_getElem HKL.out]; exact List.getElem_mem _, by rw [HRD.out, h]; simp⟩]; simp⟩⟩
        cases hm : mayB r with
        | false =>
         have HRES := Aside0.mk (HNO.out (by unfold refTo; rw [hm]; rfl))
         clear hm
         go_wp2_with fail
         go_ret
         exact ⟨by rw [HD.out, HRES.out]; rfl, HB10.out⟩
        | true =>
         have HMM := Aside0.mk hm
         clear hm
         have hlt := firstAt_lt (fun s : S42 => s.f0 == r) l0
         rw [← HA2.out, ← HNE.out] at hlt
         by_cases h0 : 0 ≤ a
         ·
          obtain ⟨an, rfl⟩ : ∃ an : Nat, a = (an : Int) := ⟨a.toNat, by omega⟩
          obtain ⟨ad4, A6, c6, e, y0, y1, y2, k6, g6⟩ := at_T42 HR.out.1 (an : Int) (by omega) (by rw [← HNE.out]; exact hlt.1)
          cases e
          simp only [Int.toNat_natCast] at y2
          have y3 := cell_keep HB10.out y2
          have t1 := eq_true h0
          have t2 := eq_true hlt.1
          have t3 : (an < n) = True := eq_true (by omega)
          have HRO : Aside0 (rowOf l0 r = rd_T42 l0 (an : Int)) := ⟨by unfold rowOf; rw [← HA2.out, if_neg (by omega)]⟩
          obtain ⟨ln, hln⟩ : ∃ ln, ln = (rd_T42 l0 (an : Int)).f2.length := ⟨_, rfl⟩
          rw [← hln] at y3
          have HLN := Aside0.mk hln
          clear y0 y1 y2 k6 g6 h0 hlt hln
          by_cases h1 : 0 < ln
          ·
           have t4 : ((0 : Int) < (ln : Int)) = True := eq_true (by omega)
           have t5 := eq_true h1
           have HRES := Aside0.mk (HNO.out (by unfold refTo; rw [HMM.out, HRO.out, ← HLN.out, decide_eq_false (by omega)]; rfl))
           clear h1
           go_wp2_with fail
           go_ret
           exact ⟨by rw [HD.out, HRES.out]; rfl, HB10.out⟩
          ·
           have t4 : ((0 : Int) < (ln : Int)) = False := eq_false (by omega)
           have t5 := eq_false h1
           have HYES : Aside0 (refTo l0 r = true) := ⟨by unfold refTo; rw [HMM.out, HRO.out, ← HLN.out, decide_eq_true (by omega)]; rfl⟩
           clear h1
           go_wp2_with fail
           go_roundw
           case rel =>
            refine ⟨k + 1, by rw [HKW.out], ⟨HKL.out, fun j hj => ?_⟩, HW10⟩
            rcases Nat.lt_succ_iff_lt_or_eq.1 hj with h | rfl
            ·
             exact HK.out.2 j h
            ·
             rw [HRD.out]; exact HYES.out
           case measure => rw [HKW.out]; simp only [intOf]; have := HKL.out; omega
         ·
          have t1 := eq_false h0
          have HYES : Aside0 (refTo l0 r = true) := ⟨by unfold refTo rowOf; rw [HMM.out, ← HA2.out, if_pos (by omega)]; rfl⟩
          clear h0 hlt
          go_wp2_with fail
          go_roundw
          case rel =>
           refine ⟨k + 1, by rw [HKW.out], ⟨HKL.out, fun j hj => ?_⟩, HW10⟩
           rcases Nat.lt_succ_iff_lt_or_eq.1 hj with h | rfl
           ·
            exact HK.out.2 j h
           ·
            rw [HRD.out]; exact HYES.out
          case measure => rw [HKW.out]; simp only [intOf]; have := HKL.out; omega
       ·
        have r1 := eq_false hk
        have r2 : (k < X.f2.length) = False := eq_false (by omega)
        have HROW : Aside0 (refRow l0 i = true) := ⟨by
         have h1 : X.f2.all (refTo l0) = true := by
          rw [List.all_eq_true]
          intro y hy
          obtain ⟨j, hj, rfl⟩ := List.getElem_of_mem hy
          have h := HK.out.2 j (by omega)
          rwa [List.getD_eq_getElem?_getD, List.getElem?_eq_getElem hj] at h
         unfold refRow
         rw [HBAD.out, HXD.out, h1]; rfl⟩
        have HIW := Aside0.mk (show wrap64 ((i : Int) + 1) = ((i + 1 : Nat) : Int) by have := HN.out; have := HI.out; unfold wrap64; omega)
        clear hk
        go_wp2_with fail
        go_roundw
        case rel =>
         refine ⟨i + 1, by rw [HIW.out], ⟨HI.out, fun j hj => ?_⟩, HBE⟩
         rcases Nat.lt_succ_iff_lt_or_eq.1 hj with h | rfl
         ·
          exact HA.out.2 j h
         ·
          exact HROW.out
        case measure => rw [HIW.out]; simp only [intOf]; have := HI.out; omega
   ·
    have r1 := eq_false hlt
    have r2 : (i < n) = False := eq_false (by omega)
    have HRES : Aside0 ((List.range n).all (refRow l0) = true) := ⟨List.all_eq_true.2 (fun j hj => HA.out.2 j (by have := List.mem_range.1 hj; omega))⟩
    clear hlt
    go_wp2_with fail
    go_ret
    exact ⟨by rw [HD.out, HRES.out]; rfl, HBR.out⟩

end Go.Proofs.Ytfagobhhhljajaa.PWeighParts

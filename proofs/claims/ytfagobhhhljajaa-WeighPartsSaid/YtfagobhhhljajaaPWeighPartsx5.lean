-- printed by a program of this session (wip/tools), a turned form of the kit's print
import Derived.Test.YtfagobhhhljajaaPWeighPartsx0
import Derived.Test.YtfagobhhhljajaaPWeighPartsx2
import Derived.Test.YtfagobhhhljajaaPWeighPartsx3
import Derived.Test.YtfagobhhhljajaaPWeighPartsx4
namespace Go.Proofs.Ytfagobhhhljajaa.PWeighParts
open Go.RowKit Go.Proofs.YtfagobhhhljajaaW.PrintWords Go.Proofs.YtfagobhhhljajaaW.PrintLast Go.Proofs.YtfagobhhhljajaaW.PrintMore
attribute [local go_sem] max2_int min2_int max_two min_two max_three min_three max_four min_four max2_str min2_str str_geq str_leq str_gtr   -- for this text's walks alone
set_option linter.unusedVariables false
set_option linter.unusedSimpArgs false

/-! ### weigh_May: function 14 -/
/-- Two rows of runes, compared. -/
def cmpL : List Int → List Int → Int
 | [], [] => 0
 | [], _ :: _ => -1
 | _ :: _, [] => 1
 | a :: s, b :: t => if a < b then -1 else if b < a then 1 else cmpL s t
/-- The row of just some runes; else none. -/
def rowFor (rows : List S44) (s : List Int) : Option S44 := rows.find? (fun x => x.f0 == s)
/-- May a row be? -/
def rowB (l : List S42) (x : S44) : Bool := decide (1 ≤ x.f0.length ∧ x.f0.length ≤ 3) && (decide (x.f1.length ≤ 4) && (x.f0.all (runeB l) && x.f1.all elemB))
/-- Do rows rise, and may they be? -/
def mayR (l : List S42) (rows : List S44) : Bool := (List.range rows.length).all (fun i => rowB l (rows.getD i z44) && (i == 0 || decide (cmpL (rows.getD (i - 1) z44).f0 (rows.getD i z44).f0 < 0)))
/-- Has each row's first rune a row? -/
def mayF (rows : List S44) : Bool := (List.range rows.length).all (fun i => (rowFor rows ((rows.getD i z44).f0.take 1)).isSome)
def weigh_May.f (l0_0 : List S42) (l0_1 : List S44) (a0_2 : Int) (_ : Bool) : Option Bool := (lore_May.f l0_0).bind fun t => some (t && (decide (l0_1.length ≤ 64) && ((decide (0 ≤ a0_2) && decide (a0_2 ≤ 60000)) && (mayR l0_0 l0_1 && mayF l0_1))))
theorem cmpL_self : ∀ s : List Int, cmpL s s = 0
 | [] => rfl
 | a :: s => by unfold cmpL; rw [if_neg (by omega), if_neg (by omega)]; exact cmpL_self s
theorem cmpL_zero : ∀ {s t : List Int}, cmpL s t = 0 → s = t
 | [], [], _ => rfl
 | [], _ :: _, h => by simp [cmpL] at h
 | _ :: _, [], h => by simp [cmpL] at h
 | a :: s, b :: t, h => by
  unfold cmpL at h
  split at h
  ·
   simp at h
  ·
   split at h
   ·
    simp at h
   ·
    rw [cmpL_zero h, show a = b by omega]
theorem cmpL_trans : ∀ {s t u : List Int}, cmpL s t < 0 → cmpL t u < 0 → cmpL s u < 0
 | [], [], _, h, _ => by simp [cmpL] at h
 | [], _ :: _, [], _, h => by simp [cmpL] at h
 | [], _ :: _, _ :: _, _, _ => by simp [cmpL]
 | _ :: _, [], _, h, _ => by simp [cmpL] at h
 | _ :: _, _ :: _, [], _, h => by simp [cmpL] at h
 | a :: s, b :: t, c :: u, h1, h2 => by
  unfold cmpL at h1 h2 ⊢
  by_cases h3 : a < c
  ·
   rw [if_pos h3]; omega
  ·
   rw [if_neg h3]
   by_cases h4 : a < b
   ·
    rw [if_neg (show ¬ b < c by omega), if_pos (show c < b by omega)] at h2; omega
   ·
    rw [if_neg h4] at h1
    by_cases h5 : b < a
    ·
     rw [if_pos h5] at h1; omega
    ·
     rw [if_neg h5] at h1
     have e : a = b := by omega
     subst e
     rw [if_neg h3] at h2
     by_cases h6 : c < a
     ·
      rw [if_pos h6] at h2; omega
     ·
      rw [if_neg h6] at h2 ⊢
      exact cmpL_trans h1 h2
theorem cmpR (x y : Int) : cmp_Compare_rune.f x y = some (if x < y then -1 else if y < x then 1 else 0) := by
 unfold cmp_Compare_rune.f cmp_isNaN_rune.f
 simp only [bne_self_eq_false, Option.bind_some, Bool.false_eq_true, if_false]
 by_cases h1 : x < y
 ·
  simp [h1]
 ·
  by_cases h2 : x > y <;> simp [h1, h2]
theorem cmp_l (a b : List Int) (ha : a.length ≤ 4611686018427387904) (d : Nat) : ∀ (k i : Nat), i ≤ a.length → i ≤ b.length → a.length - i = d → d < k → slices_Compare_rune_rune.l0 k a b a (a.length : Int) (i : Int) = some (cmpL (a.drop i) (b.drop i)) := by
 induction d with
 | zero =>
  intro k i hi hib hd hk
  obtain ⟨k, rfl⟩ : ∃ q, k = q + 1 := ⟨k - 1, by omega⟩
  simp only [slices_Compare_rune_rune.l0]
  rw [if_neg (by omega), List.drop_eq_nil_of_le (by omega)]
  by_cases h : (a.length : Int) < (b.length : Int)
  ·
   rw [if_pos h, List.drop_eq_getElem_cons (show i < b.length by omega)]; rfl
  ·
   rw [if_neg h, List.drop_eq_nil_of_le (by omega)]; rfl
 | succ d ih =>
  intro k i hi hib hd hk
  obtain ⟨k, rfl⟩ : ∃ q, k = q + 1 := ⟨k - 1, by omega⟩
  have hlt : i < a.length := by omega
  simp only [slices_Compare_rune_rune.l0]
  rw [if_pos (by omega), if_pos (by omega), if_pos (by omega), List.drop_eq_getElem_cons hlt]
  by_cases h : (i : Int) ≥ (b.length : Int)
  ·
   have e3 : b.drop i = [] := List.drop_eq_nil_of_le (by omega)
   rw [if_pos h, e3]; rfl
  ·
   have hlt2 : i < b.length := by omega
   have e1 : rd a (i : Int) = a[i] := by unfold rd; simp [List.getD, hlt]
   have e2 : rd b (i : Int) = b[i] := by unfold rd; simp [List.getD, hlt2]
   rw [if_neg h, if_pos (by omega), cmpR, Option.bind_some, List.drop_eq_getElem_cons hlt2, e1, e2]
   unfold cmpL
   by_cases h1 : a[i] < b[i]
   ·
    rw [if_pos h1, if_pos h1]; rfl
   ·
    rw [if_neg h1, if_neg h1]
    by_cases h2 : b[i] < a[i]
    ·
     rw [if_pos h2, if_pos h2]; rfl
    ·
     rw [if_neg h2, if_neg h2, if_pos rfl, show wrap64 ((i : Int) + 1) = ((i + 1 : Nat) : Int) by unfold wrap64; omega]
     exact ih k (i + 1) (by omega) (by omega) (by omega) (by omega)
theorem cmp_some (a b : List Int) (ha : a.length ≤ 4611686018427387904) : slices_Compare_rune_rune.f (a.length + 1) a b = some (cmpL a b) := by
 have := cmp_l a b ha a.length (a.length + 1) 0 (by omega) (by omega) (by omega) (by omega)
 unfold slices_Compare_rune_rune.f
 simpa using this
/-- Rows that rise. -/
def Ris (rows : List S44) : Prop := ∀ i j, i < j → j < rows.length → cmpL (rows.getD i z44).f0 (rows.getD j z44).f0 < 0
theorem rowFor_bis {rows : List S44} (hs : Ris rows) {s : List Int} {i : Nat} (b : Go.Proofs.YtfagobhhhljajaaW.PrintSort.Bis (fun h => cmpL (rows.getD h z44).f0 s < 0) 0 rows.length i i) :
  rowFor rows s = if i < rows.length ∧ cmpL (rows.getD i z44).f0 s = 0 then some (rows.getD i z44) else none := by
 obtain ⟨_, _, hi, h1, h2⟩ := b
 have lo : ∀ j, j < i → cmpL (rows.getD j z44).f0 s < 0 := fun j hj => by
  rcases h1 with h1 | h1
  ·
   omega
  ·
   by_cases hj2 : j = i - 1
   ·
    rw [hj2]; exact h1
   ·
    exact cmpL_trans (hs j (i - 1) (by omega) (by omega)) h1
 unfold rowFor
 by_cases hc : i < rows.length ∧ cmpL (rows.getD i z44).f0 s = 0
 ·
  rw [if_pos hc, List.find?_eq_some_iff_getElem]
  have e : rows.getD i z44 = rows[i] := by simp [List.getD, hc.1]
  refine ⟨by rw [cmpL_zero hc.2]; simp, i, hc.1, e.symm, fun j hj => ?_⟩
  have h3 := lo j hj
  have e2 : rows.getD j z44 = rows[j]'(by omega) := by simp [List.getD, show j < rows.length by omega]
  rw [e2] at h3
  simp only [Bool.not_eq_true', beq_eq_false_iff_ne]
  intro e3
  rw [e3, cmpL_self] at h3
  omega
 ·
  rw [if_neg hc, List.find?_eq_none]
  intro x hx hb
  rw [beq_iff_eq] at hb
  obtain ⟨j, hj, rfl⟩ := List.getElem_of_mem hx
  have e2 : rows.getD j z44 = rows[j] := by simp [List.getD, hj]
  rcases Nat.lt_trichotomy j i with h3 | h3 | h3
  ·
   have h4 := lo j h3
   rw [e2, hb, cmpL_self] at h4
   omega
  ·
   subst h3
   exact hc ⟨hj, by rw [e2, hb]; exact cmpL_self s⟩
  ·
   rcases h2 with h2 | h2
   ·
    omega
   ·
    have h4 := hs i j h3 hj
    rw [e2, hb] at h4
    exact h2 h4
theorem find1c_any (A0 : Option Addr) (c0 : Nat) (l0 : List Int) (A1 : Option Addr) (c1 : Nat) (l1 : List S39) (A : Option Addr) (c : Nat) (s : List Int) (w : World) (h0 : Kd.C (Kd.int .i32) w A0 l0.length l0) (k0 : l0.length ≤ c0) (h1 : Kd.C k39 w A1 l1.length l1) (k1 : l1.length ≤ c1) (h2 : Kd.C (Kd.int .i32) w A s.length s) (k2 : s.length ≤ c) (hl : l0.length ≤ 4611686018427387904) :
  Calls Try.prog 55 #[.agg #[.slice A0 l0.length c0, .slice A1 l1.length c1], .slice A s.length c] w fun e w' => e = .returned (.int .i64 (cmpL l0 s)) ∧ Below w.heap.size w w' :=
 weigh_find_1.calls (l0.length + 1) A0 c0 l0 A1 c1 l1 A c s (cmpL l0 s) w h0 k0 h1 k1 h2 k2 (by unfold weigh_find_1.f; rw [cmp_some l0 s hl]; rfl)
set_option maxHeartbeats 4000000 in
set_option maxRecDepth 100000 in
theorem bsearch_any (A1 : Option Addr) (c1 : Nat) (rows : List S44) (A : Option Addr) (c : Nat) (s : List Int) (w : World) (hr : Kd.C k44 w A1 rows.length rows) (hl : rows.length ≤ 1000000) (hf : ∀ x ∈ rows, x.f0.length ≤ 4611686018427387904) (h2 : Kd.C (Kd.int .i32) w A s.length s) (k2 : s.length ≤ c) :
  Calls Try.prog 65 #[.slice A1 rows.length c1, .slice A s.length c, .func (.func 55) #[] #[]] w
   fun e w' => ∃ i : Nat, e = .returned (.tuple #[.int .i64 (i : Int), .bool (decide (i < rows.length ∧ cmpL (rows.getD i z44).f0 s = 0))]) ∧ Go.Proofs.YtfagobhhhljajaaW.PrintSort.Bis (fun h => cmpL (rows.getD h z44).f0 s < 0) 0 rows.length i i ∧ Below w.heap.size w w' := by
 have HR := Aside0.mk hr
 have HF := Aside0.mk hf
 have H2 := Aside0.mk h2
 have K2 := Aside0.mk k2
 obtain ⟨n, hn⟩ : ∃ n, n = rows.length := ⟨_, rfl⟩
 have HN := Aside0.mk (And.intro hn (show n ≤ 1000000 by omega))
 rw [← hn]
 clear hr hf h2 k2 hl hn
 go_enter Try.func65, Try.ntmps65
 go_wp2_with fail
 go_loopw [9, 10] (fun vi vj wr => ∃ i j : Nat, vi = .int .i64 (i : Int) ∧ vj = .int .i64 (j : Int) ∧ Aside0 (Go.Proofs.YtfagobhhhljajaaW.PrintSort.Bis (fun h => cmpL (rows.getD h z44).f0 s < 0) 0 n i j) ∧ Aside0 (Below w.heap.size w wr)) (fun vi vj _ => (intOf vj).toNat - (intOf vi).toNat)
 case atStart => exact ⟨0, n, rfl, rfl, ⟨Go.Proofs.YtfagobhhhljajaaW.PrintSort.Bis.start (Nat.zero_le _)⟩, ⟨Below.refl _ _⟩⟩
 case round =>
  obtain ⟨i, j, rfl, rfl, HBS, HB⟩ := hrel
  have HIJ : Aside0 (i ≤ j ∧ j ≤ n) := ⟨HBS.out.2.1, HBS.out.2.2.1⟩
  by_cases hlt : i < j
  ·
   have hc1 : ((i : Int) < (j : Int)) = True := eq_true (by omega)
   have hc1n : (i < j) = True := eq_true hlt
   obtain ⟨s0, hs⟩ : ∃ s0 : Nat, s0 = i + j := ⟨_, rfl⟩
   obtain ⟨h, hh⟩ : ∃ h : Nat, h = s0 / 2 := ⟨_, rfl⟩
   have hsw : wrap64 ((i : Int) + (j : Int)) = (s0 : Int) := by have := HIJ.out; have := HN.out; unfold wrap64; omega
   have hsm : (s0 : Int) % 18446744073709551616 = (s0 : Int) := by have := HIJ.out; have := HN.out; omega
   have hdv : (s0 : Int) / 2 = (h : Int) := by omega
   have HH : Aside0 (i ≤ h ∧ h < j) := ⟨by omega⟩
   have HHN : Aside0 (h < n) := ⟨by have := HH.out; have := HIJ.out; omega⟩
   have HHW : Aside0 (wrap64 ((h : Int) + 1) = ((h + 1 : Nat) : Int)) := ⟨by have := HHN.out; have := HN.out; unfold wrap64; omega⟩
   obtain ⟨ad, A3, c3, A4, c4, e, hx0, hx1, k3, g3, k4, g4⟩ := at_T44 HR.out (h : Int) (by omega) (by rw [← HN.out.1]; have := HHN.out; omega)
   cases e
   simp only [Int.toNat_natCast] at hx0 hx1
   replace hx0 := cell_keep HB.out hx0
   replace hx1 := cell_keep HB.out hx1
   obtain ⟨X, hX⟩ : ∃ X, X = rd_T44 rows (h : Int) := ⟨_, rfl⟩
   rw [← hX] at hx0 hx1 k3 g3 k4 g4
   have HXD : Aside0 (rows.getD h z44 = X) := ⟨by rw [hX]; unfold rd_T44; rw [Int.toNat_natCast]⟩
   have HXM : X.f0.length ≤ 4611686018427387904 := HF.out X (by rw [← HXD.out, List.getD_eq_getElem?_getD, List.getElem?_eq_getElem (by rw [← HN.out.1]; exact HHN.out)]; exact List.getElem_mem _)
   have FF := Aside0.mk (fun W (hb : Below w.heap.size w W) => find1c_any A3 c3 X.f0 A4 c4 X.f1 A c s W (Kd.C_below g3 hb) k3 (Kd.C_below g4 hb) k4 (Kd.C_below H2.out hb) K2.out HXM)
   have h0 : ((0 : Int) ≤ (h : Int)) = True := eq_true (by omega)
   have h1 : ((h : Int) < (n : Int)) = True := eq_true (by have := HHN.out; omega)
   have h2 : (h < n) = True := eq_true HHN.out
   clear hlt hs hh hX k3 g3 k4 g4 HXM
   go_wp2_with fail
   refine (FF.out _ HB.out).mono ?_
   rintro e w1 ⟨rfl, hb⟩
   have HB1 := Aside0.mk (below_step HB.out hb)
   clear hb hx0 hx1 hsw hsm hdv hc1 hc1n h0 h1 h2
   by_cases hc : cmpL X.f0 s < 0
   ·
    have HCT := Aside0.mk hc
    have t1 := eq_true hc
    clear hc
    go_wp2_with fail
    go_roundw
    case rel => exact ⟨h + 1, j, by rw [HHW.out], rfl, ⟨HBS.out.up HH.out.1 HH.out.2 (by rw [HXD.out]; exact HCT.out)⟩, HB1⟩
    case measure => rw [HHW.out]; simp only [intOf]; have := HH.out; omega
   ·
    have HCF : Aside0 (0 ≤ cmpL X.f0 s) := ⟨Int.not_lt.1 hc⟩
    have t1 := eq_false hc
    have t2 : (0 ≤ cmpL X.f0 s) = True := eq_true (Int.not_lt.1 hc)
    clear hc
    go_wp2_with fail
    go_roundw
    case rel => exact ⟨i, h, rfl, rfl, ⟨HBS.out.down HH.out.1 HH.out.2 (by rw [HXD.out]; exact Int.not_lt.2 HCF.out)⟩, HB1⟩
    case measure => simp only [intOf]; have := HH.out; omega
  ·
   have hc1 : ((i : Int) < (j : Int)) = False := eq_false (by omega)
   have hc1n : (i < j) = False := eq_false hlt
   obtain rfl : i = j := by have := HIJ.out; omega
   clear hlt
   by_cases hin : i < n
   ·
    have HIN := Aside0.mk hin
    have h0 : ((0 : Int) ≤ (i : Int)) = True := eq_true (by omega)
    have h1 : ((i : Int) < (n : Int)) = True := eq_true (by omega)
    have h2 : (i < n) = True := eq_true hin
    clear hin hc1 hc1n
    obtain ⟨ad, A3, c3, A4, c4, e, hx0, hx1, k3, g3, k4, g4⟩ := at_T44 HR.out (i : Int) (by omega) (by rw [← HN.out.1]; have := HIN.out; omega)
    cases e
    simp only [Int.toNat_natCast] at hx0 hx1
    replace hx0 := cell_keep HB.out hx0
    replace hx1 := cell_keep HB.out hx1
    obtain ⟨X, hX⟩ : ∃ X, X = rd_T44 rows (i : Int) := ⟨_, rfl⟩
    rw [← hX] at hx0 hx1 k3 g3 k4 g4
    have HXD : Aside0 (rows.getD i z44 = X) := ⟨by rw [hX]; unfold rd_T44; rw [Int.toNat_natCast]⟩
    have HXM : X.f0.length ≤ 4611686018427387904 := HF.out X (by rw [← HXD.out, List.getD_eq_getElem?_getD, List.getElem?_eq_getElem (by rw [← HN.out.1]; exact HIN.out)]; exact List.getElem_mem _)
    have FF := Aside0.mk (fun W (hb : Below w.heap.size w W) => find1c_any A3 c3 X.f0 A4 c4 X.f1 A c s W (Kd.C_below g3 hb) k3 (Kd.C_below g4 hb) k4 (Kd.C_below H2.out hb) K2.out HXM)
    clear hX k3 g3 k4 g4 HXM
    have hc1 : ((i : Int) < (i : Int)) = False := eq_false (by omega)
    have hc1n : (i < i) = False := eq_false (by omega)
    go_wp2_with fail
    refine (FF.out _ HB.out).mono ?_
    rintro e w1 ⟨rfl, hb⟩
    have HB1 := Aside0.mk (below_step HB.out hb)
    clear hb hx0 hx1
    have HEQ : Aside0 (decide (i < n ∧ cmpL (rows.getD i z44).f0 s = 0) = (cmpL X.f0 s == 0)) := ⟨by
     rw [HXD.out]
     have := HIN.out
     by_cases hz : cmpL X.f0 s = 0 <;> simp [hz, this]⟩
    go_wp2_with fail
    go_ret2
    exact ⟨i, by rw [HEQ.out]; rfl, HBS.out, HB1.out⟩
   ·
    have HIN := Aside0.mk hin
    have h1 : ((i : Int) < (n : Int)) = False := eq_false (by omega)
    have h2 : (i < n) = False := eq_false hin
    clear hin
    have HEQ : Aside0 (decide (i < n ∧ cmpL (rows.getD i z44).f0 s = 0) = false) := ⟨decide_eq_false (fun q => HIN.out q.1)⟩
    go_wp2_with fail
    go_ret2
    exact ⟨i, by rw [HEQ.out]; rfl, HBS.out, HB.out⟩
/-- The value of a row. -/
def RowV (w : World) (x : S44) (A0 : Option Addr) (c0 : Nat) (A1 : Option Addr) (c1 : Nat) : Prop := x.f0.length ≤ c0 ∧ Kd.C (Kd.int .i32) w A0 x.f0.length x.f0 ∧ x.f1.length ≤ c1 ∧ Kd.C k39 w A1 x.f1.length x.f1
theorem RowV.below {w w1 : World} {x : S44} {A0 A1 : Option Addr} {c0 c1 : Nat} (h : RowV w x A0 c0 A1 c1) (hb : Below w.heap.size w w1) : RowV w1 x A0 c0 A1 c1 := ⟨h.1, Kd.C_below h.2.1 hb, h.2.2.1, Kd.C_below h.2.2.2 hb⟩
theorem RowV.none (w : World) : RowV w z44 Option.none 0 Option.none 0 := ⟨Nat.le_refl _, Kd.C_nil (Kd.int .i32) w, Nat.le_refl _, Kd.C_nil k39 w⟩
theorem blk_put2 {w : World} {g : Nat} {t : TypeId} {v0 v1 : Value} (h : w.heap[g]? = some (.cells #[v0, v1] t (0, 0))) (x y : Value) : ((w.setCell ⟨g, 0, Option.none⟩ x).setCell ⟨g, 1, Option.none⟩ y).heap[g]? = some (.cells #[x, y] t (0, 0)) :=
 blk_put (cs := #[x, v1]) (blk_put h 0 x rfl) 1 y rfl
theorem below_set2 {w w1 : World} {g : Nat} (h : Below w.heap.size w w1) (hg : w.heap.size ≤ g) (x y : Value) : Below w.heap.size w ((w1.setCell ⟨g, 0, Option.none⟩ x).setCell ⟨g, 1, Option.none⟩ y) :=
 below_set (below_set h hg) hg
theorem row_place (A1 : Option Addr) (rows : List S44) (s : List Int) (wb : World) (hr : Kd.C k44 wb A1 rows.length rows) (hris : Ris rows) : ∃ (A0 : Option Addr) (c0 : Nat) (A3 : Option Addr) (c3 : Nat), RowV wb ((rowFor rows s).getD z44) A0 c0 A3 c3 ∧ (rowFor rows s = Option.none → A0 = Option.none ∧ c0 = 0 ∧ A3 = Option.none ∧ c3 = 0) ∧
  ∀ (ad : Addr) (i : Nat), A1 = some ad → i < rows.length → cmpL (rows.getD i z44).f0 s = 0 → rowFor rows s = some (rows.getD i z44) → wb.cell? (ad.add (i * 2)) = some (.slice A0 ((rowFor rows s).getD z44).f0.length c0) ∧ wb.cell? ⟨(ad.add (i * 2)).block, (ad.add (i * 2)).off + 1, Option.none⟩ = some (.slice A3 ((rowFor rows s).getD z44).f1.length c3) := by
 by_cases h : ∃ i, i < rows.length ∧ cmpL (rows.getD i z44).f0 s = 0 ∧ rowFor rows s = some (rows.getD i z44)
 ·
  obtain ⟨i, hi, hz, hrf⟩ := h
  obtain ⟨ad, A3, c3, A4, c4, e, hx0, hx1, k3, g3, k4, g4⟩ := at_T44 hr (i : Int) (by omega) (by omega)
  have e2 : rd_T44 rows (i : Int) = rows.getD i z44 := by unfold rd_T44; rw [Int.toNat_natCast]
  rw [e2] at hx0 hx1 k3 g3 k4 g4
  simp only [Int.toNat_natCast] at hx0 hx1
  refine ⟨A3, c3, A4, c4, by rw [hrf]; exact ⟨k3, g3, k4, g4⟩, (fun h => by rw [hrf] at h; cases h), fun ad2 j hA hj hz2 hrf2 => ?_⟩
  have hij : j = i := by
   rcases Nat.lt_trichotomy j i with h1 | h1 | h1
   ·
    have h3 := hris j i h1 hi
    rw [cmpL_zero hz, cmpL_zero hz2, cmpL_self] at h3; omega
   ·
    exact h1
   ·
    have h3 := hris i j h1 hj
    rw [cmpL_zero hz, cmpL_zero hz2, cmpL_self] at h3; omega
  subst hij
  rw [e] at hA
  obtain rfl := Option.some.inj hA
  rw [hrf]
  exact ⟨hx0, hx1⟩
 ·
  cases hrf : rowFor rows s with
  | none => exact ⟨Option.none, 0, Option.none, 0, RowV.none wb, fun _ => ⟨rfl, rfl, rfl, rfl⟩, fun ad i _ hi hz h2 => by cases h2⟩
  | some x =>
   have h1 := List.mem_of_find?_eq_some hrf
   have h2 := List.find?_some hrf
   obtain ⟨i, hi, he⟩ := List.getElem_of_mem h1
   have e2 : rows.getD i z44 = x := by rw [← he]; simp [List.getD, hi]
   exact absurd ⟨i, hi, by rw [e2, eq_of_beq h2]; exact cmpL_self s, by rw [hrf, e2]⟩ h
set_option maxHeartbeats 4000000 in
set_option maxRecDepth 100000 in
theorem search_any (A1 : Option Addr) (c1 : Nat) (rows : List S44) (A : Option Addr) (c : Nat) (s : List Int) (wb w : World) (hwb : Below wb.heap.size wb w) (hr : Kd.C k44 wb A1 rows.length rows) (hl : rows.length ≤ 1000000) (hf : ∀ x ∈ rows, x.f0.length ≤ 4611686018427387904) (h2 : Kd.C (Kd.int .i32) w A s.length s) (k2 : s.length ≤ c) (hris : Ris rows) (A0 : Option Addr) (c0 : Nat) (A3 : Option Addr) (c3 : Nat) (hpl : (rowFor rows s = Option.none → A0 = Option.none ∧ c0 = 0 ∧ A3 = Option.none ∧ c3 = 0) ∧ ∀ (ad : Addr) (i : Nat), A1 = some ad → i < rows.length → cmpL (rows.getD i z44).f0 s = 0 → rowFor rows s = some (rows.getD i z44) → wb.cell? (ad.add (i * 2)) = some (.slice A0 ((rowFor rows s).getD z44).f0.length c0) ∧ wb.cell? ⟨(ad.add (i * 2)).block, (ad.add (i * 2)).off + 1, Option.none⟩ = some (.slice A3 ((rowFor rows s).getD z44).f1.length c3)) :
  Calls Try.prog 54 #[.slice A1 rows.length c1, .slice A s.length c, .func (.func 55) #[] #[]] w
   fun e w' => e = .returned (.tuple #[.agg #[.slice A0 ((rowFor rows s).getD z44).f0.length c0, .slice A3 ((rowFor rows s).getD z44).f1.length c3], .bool (rowFor rows s).isSome]) ∧ Below w.heap.size w w' := by
 have HR := Aside0.mk hr
 have HWB := Aside0.mk hwb
 have HPL := Aside0.mk hpl
 have HRI := Aside0.mk hris
 obtain ⟨W, hW⟩ : ∃ W, W = w.alloc (.cells #[.slice none 0 0, .slice none 0 0] 44) := ⟨_, rfl⟩
 have hB : Below w.heap.size w W := by subst hW; exact below_alloc (Below.refl _ _) _
 have g0 : W.heap[w.heap.size]? = some (.cells #[.slice none 0 0, .slice none 0 0] 44 (0, 0)) := by subst hW; simpa using heap_alloc_new w _
 have FF := Aside0.mk (bsearch_any A1 c1 rows A c s W (Kd.C_below (Kd.C_below hr hwb) hB) hl hf (Kd.C_below h2 hB) k2)
 obtain ⟨n, hn⟩ : ∃ n, n = rows.length := ⟨_, rfl⟩
 have HN := Aside0.mk hn
 rw [← hn] at FF
 rw [← hn]
 have HB := Aside0.mk hB
 have G0 := Aside0.mk g0
 clear hr hwb hris hpl hf h2 k2 hB g0 hl hn
 go_enter Try.func54, Try.ntmps54
 go_wp2_with fail
 rw [← hW]
 refine FF.out.mono ?_
 rintro e w1 ⟨i, rfl, hbs, hb⟩
 have HB1 := Aside0.mk (below_step HB.out hb)
 have b1 := blk_below G0.out hb
 have BK := Aside0.mk b1
 have f0 := blk_frozen b1 0
 have f1 := blk_frozen b1 1
 have k0 := blk_cell b1 0
 have k1 := blk_cell b1 1
 have HRF := Aside0.mk (rowFor_bis HRI.out (by rw [← HN.out]; exact hbs))
 rw [← HN.out] at HRF
 clear hb b1 hW FF G0 HB hbs
 by_cases hc : i < n ∧ cmpL (rows.getD i z44).f0 s = 0
 ·
  have e1 : decide (i < n ∧ cmpL (rows.getD i z44).f0 s = 0) = true := decide_eq_true hc
  rw [if_pos hc] at HRF
  rw [e1]
  have p1 : ((0 : Int) ≤ (i : Int)) = True := eq_true (by omega)
  have q1 : ((i : Int) < (n : Int)) = True := eq_true (by have := hc.1; omega)
  have q2 : (i < n) = True := eq_true hc.1
  obtain ⟨ad, _, _, _, _, e, _, _, _, _, _, _⟩ := at_T44 HR.out (i : Int) (by omega) (by rw [← HN.out]; have := hc.1; omega)
  obtain ⟨hx0, hx1⟩ := HPL.out.2 ad i e (by rw [← HN.out]; exact hc.1) hc.2 HRF.out
  cases e
  replace hx0 := cell_keep (below_step HWB.out HB1.out) hx0
  replace hx1 := cell_keep (below_step HWB.out HB1.out) hx1
  obtain ⟨X, hX⟩ : ∃ X, X = (rowFor rows s).getD z44 := ⟨_, rfl⟩
  rw [← hX] at hx0 hx1
  have HXE := Aside0.mk hX
  have HIS : Aside0 ((rowFor rows s).isSome = true) := ⟨by rw [HRF.out]; rfl⟩
  clear hX hc e1
  go_wp2_with fail
  have hB2 := below_set2 HB1.out (Nat.le_refl _) (.slice A0 X.f0.length c0) (.slice A3 X.f1.length c3)
  refine bodyPost_ret (results_ct rfl _ _ w.heap.size 44 #[.slice A0 X.f0.length c0, .slice A3 X.f1.length c3] (0, 0) _ rfl (blk_put2 BK.out _ _) Try.underlying44 rfl (by kernel_rfl)) rfl ?_
  rw [← HXE.out, HIS.out]
  exact ⟨rfl, hB2⟩
 ·
  have e1 : decide (i < n ∧ cmpL (rows.getD i z44).f0 s = 0) = false := decide_eq_false hc
  rw [if_neg hc] at HRF
  rw [e1]
  have b2 := blk_alloc BK.out (.cells #[.slice none 0 0, .slice none 0 0] 44)
  have BK2 := Aside0.mk b2
  have f2 := blk_frozen b2 0
  have f3 := blk_frozen b2 1
  have k2 := blk_cell b2 0
  have k3 := blk_cell b2 1
  clear hc e1 b2
  go_wp2_with fail
  have hB2 := below_set2 (below_alloc HB1.out (.cells #[.slice none 0 0, .slice none 0 0] 44)) (Nat.le_refl _) (.slice none 0 0) (.slice none 0 0)
  refine bodyPost_ret (results_ct rfl _ _ w.heap.size 44 #[.slice none 0 0, .slice none 0 0] (0, 0) _ rfl (blk_put2 BK2.out _ _) Try.underlying44 rfl (by kernel_rfl)) rfl ?_
  obtain ⟨r1, r2, r3, r4⟩ := HPL.out.1 HRF.out
  subst r1 r2 r3 r4
  rw [HRF.out]
  exact ⟨rfl, hB2⟩
set_option maxHeartbeats 4000000 in
set_option maxRecDepth 100000 in
theorem findr_any (A0 : Option Addr) (c0 n0 : Nat) (top : Int) (sh : Bool) (A1 : Option Addr) (c1 : Nat) (rows : List S44) (A : Option Addr) (c : Nat) (s : List Int) (wb w : World) (hwb : Below wb.heap.size wb w) (hr : Kd.C k44 wb A1 rows.length rows) (hl : rows.length ≤ 1000000) (hf : ∀ x ∈ rows, x.f0.length ≤ 4611686018427387904) (h2 : Kd.C (Kd.int .i32) w A s.length s) (k2 : s.length ≤ c) (hris : Ris rows) (A5 : Option Addr) (c5 : Nat) (A6 : Option Addr) (c6 : Nat) (hpl : (rowFor rows s = Option.none → A5 = Option.none ∧ c5 = 0 ∧ A6 = Option.none ∧ c6 = 0) ∧ ∀ (ad : Addr) (i : Nat), A1 = some ad → i < rows.length → cmpL (rows.getD i z44).f0 s = 0 → rowFor rows s = some (rows.getD i z44) → wb.cell? (ad.add (i * 2)) = some (.slice A5 ((rowFor rows s).getD z44).f0.length c5) ∧ wb.cell? ⟨(ad.add (i * 2)).block, (ad.add (i * 2)).off + 1, Option.none⟩ = some (.slice A6 ((rowFor rows s).getD z44).f1.length c6)) :
  Calls Try.prog 32 #[.agg #[.slice A0 n0 c0, .slice A1 rows.length c1, .int .i64 top, .bool sh], .slice A s.length c] w
   fun e w' => e = .returned (.tuple #[.agg #[.slice A5 ((rowFor rows s).getD z44).f0.length c5, .slice A6 ((rowFor rows s).getD z44).f1.length c6], .bool (rowFor rows s).isSome]) ∧ Below w.heap.size w w' := by
 obtain ⟨n, hn⟩ : ∃ n, n = rows.length := ⟨_, rfl⟩
 obtain ⟨W, hW⟩ : ∃ W, W = (w.alloc (.cells #[.slice A0 n0 c0, .slice A1 n c1, .int .i64 top, .bool sh] 25)).alloc (.cells #[.slice none 0 0, .slice none 0 0] 44) := ⟨_, rfl⟩
 have hB : Below w.heap.size w W := by subst hW; exact below_alloc (below_alloc (Below.refl _ _) _) _
 have g0 : W.heap[w.heap.size + 1]? = some (.cells #[.slice none 0 0, .slice none 0 0] 44 (0, 0)) := by subst hW; simpa using heap_alloc_new (w.alloc _) _
 have t0 : W.heap[w.heap.size]? = some (.cells #[.slice A0 n0 c0, .slice A1 n c1, .int .i64 top, .bool sh] 25 (0, 0)) := by subst hW; exact blk_alloc (by simpa using heap_alloc_new w _) _
 have k1 : W.cell? ⟨w.heap.size, 1, none⟩ = some (.slice A1 n c1) := (blk_cell t0 1).trans rfl
 have FF := Aside0.mk (search_any A1 c1 rows A c s wb W (below_step hwb hB) hr hl hf (Kd.C_below h2 hB) k2 hris A5 c5 A6 c6 hpl)
 rw [← hn] at FF
 rw [← hn]
 have HB := Aside0.mk hB
 have G0 := Aside0.mk g0
 obtain ⟨x, hx⟩ : ∃ x, x = (rowFor rows s).getD z44 := ⟨_, rfl⟩
 obtain ⟨b, hb⟩ : ∃ b, b = (rowFor rows s).isSome := ⟨_, rfl⟩
 rw [← hx, ← hb] at FF
 rw [← hx, ← hb]
 clear hr hwb hris hpl hf h2 k2 hB g0 hl hn t0 hx hb
 go_enter Try.func32, Try.ntmps32
 rw [hW] at k1
 go_wp2_with fail
 rw [← hW]
 refine FF.out.mono ?_
 rintro e w1 ⟨rfl, hb⟩
 obtain ⟨l5, h5⟩ : ∃ l5, l5 = x.f0.length := ⟨_, rfl⟩
 obtain ⟨l6, h6⟩ : ∃ l6, l6 = x.f1.length := ⟨_, rfl⟩
 have H56 := Aside0.mk (And.intro h5 h6)
 rw [← h5, ← h6]
 have HB1 := Aside0.mk (below_step HB.out hb)
 have HBW := Aside0.mk hb
 have b1 := blk_below G0.out hb
 have BK := Aside0.mk b1
 have f0 := blk_frozen b1 0
 have f1 := blk_frozen b1 1
 have q0 := blk_cell b1 0
 have q1 := blk_cell b1 1
 have HSZ : Aside0 (W.heap.size = w.heap.size + 2) := ⟨by rw [hW]; show ((w.heap.push _).push _).size = _; rw [Array.size_push, Array.size_push]⟩
 clear hb b1 hW FF G0 HB h5 h6 k1
 go_wp2_with fail
 have hB2 := below_set2 HB1.out (Nat.le_succ _) (.slice A5 l5 c5) (.slice A6 l6 c6)
 refine bodyPost_ret (results_ct rfl _ _ (w.heap.size + 1) 44 #[.slice A5 l5 c5, .slice A6 l6 c6] (0, 0) _ rfl (blk_put2 BK.out _ _) Try.underlying44 rfl (by kernel_rfl)) rfl ?_
 have h5 := H56.out.1
 have h6 := H56.out.2
 subst h5 h6
 exact ⟨rfl, hB2⟩
theorem row_l (l : List S42) (hl : l.length ≤ 1000000) (rows : List S44) (top : Int) (sh : Bool) (x : S44) (h3 : x.f0.length ≤ 3) (h4 : x.f1.length ≤ 4) (d : Nat) : ∀ (k i : Nat), i ≤ x.f0.length → x.f0.length - i = d → 20 + d < k → weigh_row.l0 k x.f0 (x.f0.length : Int) (i : Int) l rows top sh x.f0 x.f1 = some ((x.f0.drop i).all (runeB l) && x.f1.all elemB) := by
 induction d with
 | zero =>
  intro k i hi hd hk
  obtain ⟨k, rfl⟩ : ∃ q, k = q + 1 := ⟨k - 1, by omega⟩
  simp only [weigh_row.l0]
  unfold api_Element.f
  rw [if_neg (by omega), if_pos (by omega), Option.bind_some, List.drop_eq_nil_of_le (by omega)]
  simp
 | succ d ih =>
  intro k i hi hd hk
  obtain ⟨k, rfl⟩ : ∃ q, k = q + 1 := ⟨k - 1, by omega⟩
  have hlt : i < x.f0.length := by omega
  have e1 : rd x.f0 (i : Int) = x.f0[i] := by unfold rd; simp [List.getD, hlt]
  simp only [weigh_row.l0]
  unfold weigh_rune.f
  rw [if_pos (by omega), if_pos (by omega), if_pos (by omega), if_pos (by omega), Option.bind_some, e1, List.drop_eq_getElem_cons hlt, List.all_cons, show wrap64 ((i : Int) + 1) = ((i + 1 : Nat) : Int) by unfold wrap64; omega]
  cases runeB l x.f0[i] with
  | true => rw [if_pos rfl, Bool.true_and]; exact ih k (i + 1) (by omega) (by omega) (by omega)
  | false => rw [if_neg (by simp)]; rfl
theorem row_ok (l : List S42) (hl : l.length ≤ 1000000) (rows : List S44) (top : Int) (sh : Bool) (x : S44) : weigh_row.f 50 l rows top sh x.f0 x.f1 = some (rowB l x) := by
 unfold weigh_row.f rowB
 rw [within_ok, Option.bind_some]
 by_cases h : 1 ≤ x.f0.length ∧ x.f0.length ≤ 3
 ·
  rw [decide_eq_true h, Bool.true_and, decide_eq_true (show (1 : Int) ≤ (x.f0.length : Int) by omega), decide_eq_true (show (x.f0.length : Int) ≤ 3 by omega), Bool.and_self, if_pos rfl]
  by_cases h4 : x.f1.length ≤ 4
  ·
   rw [decide_eq_false (show ¬ (x.f1.length : Int) > 4 by omega), decide_eq_true h4, Bool.true_and]
   simp only [weigh_row.j0]
   rw [if_neg (by simp)]
   have := row_l l hl rows top sh x h.2 h4 x.f0.length 49 0 (by omega) (by omega) (by omega)
   simpa using this
  ·
   rw [decide_eq_true (show (x.f1.length : Int) > 4 by omega), decide_eq_false h4]
   simp only [weigh_row.j0]
   rfl
 ·
  rw [decide_eq_false h, Bool.false_and]
  have e : (decide ((1 : Int) ≤ (x.f0.length : Int)) && decide ((x.f0.length : Int) ≤ 3)) = false := by
   rw [Bool.and_eq_false_iff]
   by_cases h1 : 1 ≤ x.f0.length
   ·
    exact .inr (decide_eq_false (by omega))
   ·
    exact .inl (decide_eq_false (by omega))
  rw [e, if_neg (by simp)]
  simp only [weigh_row.j0]
  rfl
theorem row_len {l : List S42} {x : S44} (h : rowB l x = true) : x.f0.length ≤ 3 := by
 unfold rowB at h
 rw [Bool.and_eq_true] at h
 exact (of_decide_eq_true h.1).2
theorem mayR_not {l : List S42} {rows : List S44} {i : Nat} (hi : i < rows.length) (h : (rowB l (rows.getD i z44) && (i == 0 || decide (cmpL (rows.getD (i - 1) z44).f0 (rows.getD i z44).f0 < 0))) = false) : mayR l rows = false := by
 unfold mayR
 rw [List.all_eq_false]
 exact ⟨i, List.mem_range.2 hi, by rw [h]; decide⟩
theorem mayR_all {l : List S42} {rows : List S44} (h : ∀ j < rows.length, (rowB l (rows.getD j z44) && (j == 0 || decide (cmpL (rows.getD (j - 1) z44).f0 (rows.getD j z44).f0 < 0))) = true) :
  mayR l rows = true ∧ Ris rows ∧ ∀ x ∈ rows, 1 ≤ x.f0.length ∧ x.f0.length ≤ 3 := by
 refine ⟨by unfold mayR; rw [List.all_eq_true]; exact fun j hj => h j (List.mem_range.1 hj), ?_, fun x hx => ?_⟩
 ·
  intro i j hij
  induction j with
  | zero => omega
  | succ j ih =>
   intro hj
   have h1 := h (j + 1) hj
   rw [Bool.and_eq_true, Nat.add_sub_cancel, show ((j + 1) == 0) = false from rfl, Bool.false_or] at h1
   have h2 := of_decide_eq_true h1.2
   rcases Nat.lt_or_eq_of_le (Nat.lt_succ_iff.1 hij) with h3 | h3
   ·
    exact cmpL_trans (ih h3 (by omega)) h2
   ·
    rw [h3]; exact h2
 ·
  obtain ⟨j, hj, rfl⟩ := List.getElem_of_mem hx
  have h1 := h j hj
  rw [Bool.and_eq_true] at h1
  have h2 := h1.1
  rw [show rows.getD j z44 = rows[j] by simp [List.getD, hj]] at h2
  unfold rowB at h2
  rw [Bool.and_eq_true] at h2
  exact of_decide_eq_true h2.1
theorem mayF_not {rows : List S44} {i : Nat} (hi : i < rows.length) (h : (rowFor rows ((rows.getD i z44).f0.take 1)).isSome = false) : mayF rows = false := by
 unfold mayF
 rw [List.all_eq_false]
 exact ⟨i, List.mem_range.2 hi, by rw [h]; decide⟩
open Go.Proofs.YtfagobhhhljajaaW.PrintReg
theorem row_any (A0 : Option Addr) (c0 : Nat) (l : List S42) (A1 : Option Addr) (c1 : Nat) (rows : List S44) (top : Int) (sh : Bool) (x : S44) (A3 : Option Addr) (c3 : Nat) (A4 : Option Addr) (c4 : Nat) (w : World) (hl : l.length ≤ 1000000) (h0 : Kd.C k42 w A0 l.length l) (k0 : l.length ≤ c0) (h1 : Kd.C k44 w A1 rows.length rows) (k1 : rows.length ≤ c1) (hv : RowV w x A3 c3 A4 c4) :
  Calls Try.prog 30 #[.agg #[.slice A0 l.length c0, .slice A1 rows.length c1, .int .i64 top, .bool sh], .agg #[.slice A3 x.f0.length c3, .slice A4 x.f1.length c4]] w fun e w' => e = .returned (.bool (rowB l x)) ∧ Below w.heap.size w w' :=
 weigh_row.calls 50 A0 c0 l A1 c1 rows top sh A3 c3 x.f0 A4 c4 x.f1 _ w h0 k0 h1 k1 hv.2.1 hv.1 hv.2.2.2 hv.2.2.1 (row_ok l hl rows top sh x)
set_option maxHeartbeats 8000000 in
set_option maxRecDepth 100000 in
theorem weigh_May.calls (A0_0 : Option Addr) (c0_0 : Nat) (l0_0 : List (S42)) (A0_1 : Option Addr) (c0_1 : Nat) (l0_1 : List (S44)) (a0_2 : Int) (a0_3 : Bool) (r : Bool) (w : World) (hr0_0 : Kd.C k42 w A0_0 l0_0.length l0_0) (hc0_0 : l0_0.length ≤ c0_0) (hr0_1 : Kd.C k44 w A0_1 l0_1.length l0_1) (hc0_1 : l0_1.length ≤ c0_1) (h : weigh_May.f l0_0 l0_1 a0_2 a0_3 = some r) :
  Calls Try.prog 14 #[.agg #[.slice A0_0 l0_0.length c0_0, .slice A0_1 l0_1.length c0_1, .int .i64 a0_2, .bool a0_3]] w fun e w' => e = .returned (.bool r) ∧ Below w.heap.size w w' := by
 unfold weigh_May.f at h
 obtain ⟨t, ht, h⟩ := Option.bind_eq_some_iff.mp h
 obtain rfl := Option.some.inj h
 obtain ⟨W, hW⟩ : ∃ W, W = w.alloc (.cells #[.slice A0_0 l0_0.length c0_0, .slice A0_1 l0_1.length c0_1, .int .i64 a0_2, .bool a0_3] 25) := ⟨_, rfl⟩
 have hB : Below w.heap.size w W := by subst hW; exact below_alloc (Below.refl _ _) _
 have t0 : W.heap[w.heap.size]? = some (.cells #[.slice A0_0 l0_0.length c0_0, .slice A0_1 l0_1.length c0_1, .int .i64 a0_2, .bool a0_3] 25 (0, 0)) := by subst hW; simpa using heap_alloc_new w _
 have q0 : W.cell? ⟨w.heap.size, 0, none⟩ = some (.slice A0_0 l0_0.length c0_0) := (blk_cell t0 0).trans rfl
 have HR := Aside0.mk (And.intro hr0_0 (And.intro hc0_0 (And.intro hr0_1 hc0_1)))
 have FM := Aside0.mk (lore_May.calls A0_0 c0_0 l0_0 t W (Kd.C_below hr0_0 hB) hc0_0 ht)
 have HB := Aside0.mk hB
 have T0 := Aside0.mk t0
 have HT := Aside0.mk ht
 clear hr0_0 hc0_0 hr0_1 hc0_1 h hB t0 ht
 go_enter Try.func14, Try.ntmps14
 rw [hW] at q0
 go_wp2_with fail
 rw [← hW]
 refine FM.out.mono ?_
 rintro e w1 ⟨rfl, hb⟩
 have HB1 := Aside0.mk (below_step HB.out hb)
 have T1 := Aside0.mk (blk_below T0.out hb)
 have q1 : w1.cell? ⟨w.heap.size, 1, none⟩ = some (.slice A0_1 l0_1.length c0_1) := (blk_cell T1.out 1).trans rfl
 have q2 : w1.cell? ⟨w.heap.size, 2, none⟩ = some (.int .i64 a0_2) := (blk_cell T1.out 2).trans rfl
 clear hb q0 hW FM T0 HB
 cases t with
 | false =>
  go_wp2_with fail
  go_ret
  exact ⟨rfl, HB1.out⟩
 | true =>
 have HL : Aside0 (l0_0.length ≤ 64) := ⟨by
  have h := HT.out
  unfold lore_May.f at h
  by_cases h2 : (l0_0.length : Int) > 64
  ·
   rw [if_pos h2] at h; cases h
  ·
   omega⟩
 by_cases h64 : 64 < l0_1.length
 ·
  have r1 : ((64 : Int) < (l0_1.length : Int)) = True := eq_true (by omega)
  have r2 : (64 < l0_1.length) = True := eq_true h64
  have HD := Aside0.mk (decide_eq_false (show ¬ l0_1.length ≤ 64 by omega))
  clear h64
  go_wp2_with fail
  go_ret
  exact ⟨by rw [HD.out]; rfl, HB1.out⟩
 ·
  have r1 : ((64 : Int) < (l0_1.length : Int)) = False := eq_false (by omega)
  have r2 : (64 < l0_1.length) = False := eq_false h64
  have HD := Aside0.mk (decide_eq_true (show l0_1.length ≤ 64 by omega))
  have HN : Aside0 (l0_1.length ≤ 64) := ⟨by omega⟩
  clear h64
  go_wp2_with fail
  refine (weigh_within.calls a0_2 0 60000 _ w1 (within_ok a0_2 0 60000)).mono ?_
  rintro e w2 ⟨rfl, hb0⟩
  have hb := hb0.below
  have HB2 := Aside0.mk (below_step HB1.out hb)
  have T2 := Aside0.mk (blk_below T1.out hb)
  have q3 : w2.cell? ⟨w.heap.size, 1, none⟩ = some (.slice A0_1 l0_1.length c0_1) := (blk_cell T2.out 1).trans rfl
  clear hb hb0 q1 q2 T1 HB1 r1 r2
  cases htop : (decide (0 ≤ a0_2) && decide (a0_2 ≤ 60000)) with
  | false =>
   have HTP := Aside0.mk htop
   clear htop
   go_wp2_with fail
   go_ret
   exact ⟨by rw [HD.out, HTP.out]; rfl, HB2.out⟩
  | true =>
   have HTP := Aside0.mk htop
   clear htop
   obtain ⟨n, hn⟩ : ∃ n, n = l0_1.length := ⟨_, rfl⟩
   rw [← hn] at q3 T2 HN
   rw [← hn]
   have HNE := Aside0.mk hn
   clear hn
   go_wp2_with fail
   go_loopw [28] (fun v wr => ∃ i : Nat, v = .int .i64 (i : Int) ∧ Aside0 (i ≤ n ∧ ∀ j < i, (rowB l0_0 (l0_1.getD j z44) && (j == 0 || decide (cmpL (l0_1.getD (j - 1) z44).f0 (l0_1.getD j z44).f0 < 0))) = true) ∧ Aside0 (Below w2.heap.size w2 wr)) (fun v _ => n - (intOf v).toNat)
   case atStart => exact ⟨0, rfl, ⟨Nat.zero_le _, by omega⟩, ⟨Below.refl _ _⟩⟩
   case round =>
    obtain ⟨i, rfl, HA, HBR⟩ := hrel
    by_cases hlt : (i : Int) < (n : Int)
    ·
     have r1 := eq_true hlt
     have r2 : (i < n) = True := eq_true (by omega)
     have r0 : ((0 : Int) ≤ (i : Int)) = True := eq_true (by omega)
     have HI : Aside0 (i < n) := ⟨by omega⟩
     obtain ⟨ad, A3, c3, A4, c4, e, hx0, hx1, k3, g3, k4, g4⟩ := at_T44 HR.out.2.2.1 (i : Int) (by omega) (by rw [← HNE.out]; exact hlt)
     cases e
     simp only [Int.toNat_natCast] at hx0 hx1
     have HBW := Aside0.mk (below_step HB2.out HBR.out)
     replace hx0 := cell_keep HBW.out hx0
     replace hx1 := cell_keep HBW.out hx1
     obtain ⟨X, hX⟩ : ∃ X, X = rd_T44 l0_1 (i : Int) := ⟨_, rfl⟩
     rw [← hX] at hx0 hx1 k3 g3 k4 g4
     have HXD : Aside0 (l0_1.getD i z44 = X) := ⟨by rw [hX]; unfold rd_T44; rw [Int.toNat_natCast]⟩
     have HV := Aside0.mk (show RowV w X A3 c3 A4 c4 from ⟨k3, g3, k4, g4⟩)
     have HIW := Aside0.mk (show wrap64 ((i : Int) + 1) = ((i + 1 : Nat) : Int) by have := HN.out; have := HI.out; unfold wrap64; omega)
     clear q3 hlt hX k3 g3 k4 g4
     go_wp2_with fail
     obtain ⟨WX, hWX⟩ : ∃ WX, WX = wr.alloc (.cells #[.slice A3 X.f0.length c3, .slice A4 X.f1.length c4] 44) := ⟨_, rfl⟩
     rw [← hWX]
     have hBX : Below wr.heap.size wr WX := by rw [hWX]; exact below_alloc (Below.refl _ _) _
     have HX4 : Aside0 (WX.heap[wr.heap.size]? = some (.cells #[.slice A3 X.f0.length c3, .slice A4 X.f1.length c4] 44 (0, 0))) := ⟨by rw [hWX]; simpa using heap_alloc_new wr _⟩
     have TX := Aside0.mk (blk_below T2.out (below_step HBR.out hBX))
     have HBX := Aside0.mk (below_step HBW.out hBX)
     have HBX2 := Aside0.mk (below_step HBR.out hBX)
     have FRW := Aside0.mk (fun (W' : World) (hb : Below WX.heap.size WX W') => row_any A0_0 c0_0 l0_0 (some ad) c0_1 l0_1 a0_2 a0_3 X A3 c3 A4 c4 W' (by have := HL.out; omega) (Kd.C_below HR.out.1 (below_step HBX.out hb)) HR.out.2.1 (Kd.C_below HR.out.2.2.1 (below_step HBX.out hb)) HR.out.2.2.2 (HV.out.below (below_step HBX.out hb)))
     rw [← HNE.out] at FRW
     clear hWX hBX hx0 hx1 r0 r1 r2
     cases hrb : rowB l0_0 X with
     | false =>
      rw [hrb] at FRW
      have HRB := Aside0.mk hrb
      clear hrb
      have HFI : Aside0 (mayR l0_0 l0_1 = false) := ⟨mayR_not (i := i) (by rw [← HNE.out]; exact HI.out) (by rw [HXD.out, HRB.out]; rfl)⟩
      refine wp_reg 21 rfl rfl (by kernel_rfl) (fun z => .agg #[.slice A0_0 l0_0.length c0_0, .slice (some ad) n c0_1, .int .i64 a0_2, .bool a0_3] :: .pointer (some ⟨w.heap.size, 0, none⟩) :: u2 :: .int .i64 (i : Int) :: .pointer (some ⟨wr.heap.size, 0, none⟩) :: undef :: undef :: undef :: undef :: .pointer (some ⟨w.heap.size, 0, none⟩) :: .slice A0_0 l0_0.length c0_0 :: .bool true :: .bool false :: .bool false :: .pointer (some ⟨w.heap.size, 1, none⟩) :: .slice (some ad) n c0_1 :: .int .i64 (n : Int) :: .bool false :: .bool false :: .bool false :: .pointer (some ⟨w.heap.size, 2, none⟩) :: .int .i64 a0_2 :: .bool true :: .bool false :: .bool false :: .pointer (some ⟨w.heap.size, 1, none⟩) :: .slice (some ad) n c0_1 :: .int .i64 (n : Int) :: .int .i64 (i : Int) :: .bool true :: .int .i64 (i : Int) :: .pointer (some (ad.add (i * 2))) :: .agg #[.slice A3 X.f0.length c3, .slice A4 X.f1.length c4] :: z 33 :: z 34 :: z 35 :: z 36 :: z 37 :: z 38 :: z 39 :: z 40 :: z 41 :: z 42 :: z 43 :: z 44 :: z 45 :: z 46 :: z 47 :: z 48 :: z 49 :: z 50 :: z 51 :: z 52 :: z 53 :: u54 :: undef :: undef :: undef :: undef :: undef :: undef :: undef :: undef :: undef :: undef :: undef :: undef :: undef :: undef :: undef :: undef :: undef :: undef :: []) (fun (gg : Unit) => [(0, 33, .agg #[.slice A0_0 l0_0.length c0_0, .slice (some ad) n c0_1, .int .i64 a0_2, .bool a0_3]), (1, 34, .agg #[.slice A3 X.f0.length c3, .slice A4 X.f1.length c4]), (2, 35, .bool false), (3, 36, .bool true), (4, 37, .bool true), (5, 38, undef), (6, 39, undef), (7, 40, undef), (8, 41, undef), (9, 42, undef), (10, 43, undef), (11, 44, undef), (12, 45, undef), (13, 46, undef), (14, 47, undef), (15, 48, undef), (16, 49, undef), (17, 50, undef), (18, 51, undef), (19, 52, undef), (20, 53, .bool true)]) (fun LL gg z wx => Aside0 (Below WX.heap.size WX wx)) () (zz [(33, u33), (34, u34), (35, u35), (36, u36), (37, u37), (38, u38), (39, u39), (40, u40), (41, u41), (42, u42), (43, u43), (44, u44), (45, u45), (46, u46), (47, u47), (48, u48), (49, u49), (50, u50), (51, u51), (52, u52), (53, u53)]) rfl rfl ⟨below_drew (Below.refl _ _)⟩ ?_ ?_
      ·
       refine Steps.cons ?_ (Steps.cons ?_ (Steps.cons ?_ (Steps.cons ?_ (Steps.cons ?_ (Steps.cons ?_ (Steps.cons ?_ (Steps.cons ?_ (Steps.cons ?_ (Steps.cons ?_ (Steps.cons ?_ (Steps.cons ?_ (Steps.cons ?_ (Steps.cons ?_ (Steps.cons ?_ (Steps.cons ?_ (Steps.cons ?_ (Steps.cons ?_ (Steps.cons ?_ (Steps.cons ?_ (Steps.cons ?_ (Steps.nil)))))))))))))))))))))
       ·
        refine V0 0 (h := fun LL gg z wx hl hLk  K hK => ?_)
        obtain ⟨hb⟩ := hl
        have q0_TX : wx.cell? ⟨w.heap.size, 0, none⟩ = some (.slice A0_0 l0_0.length c0_0) := (blk_cell (blk_below TX.out hb.out) 0).trans rfl
        have q1_TX : wx.cell? ⟨w.heap.size, 1, none⟩ = some (.slice (some ad) n c0_1) := (blk_cell (blk_below TX.out hb.out) 1).trans rfl
        have q2_TX : wx.cell? ⟨w.heap.size, 2, none⟩ = some (.int .i64 a0_2) := (blk_cell (blk_below TX.out hb.out) 2).trans rfl
        have q3_TX : wx.cell? ⟨w.heap.size, 3, none⟩ = some (.bool a0_3) := (blk_cell (blk_below TX.out hb.out) 3).trans rfl
        dsimp only [FA]
        refine wantd (by rfl) ?_
        go_simp
        exact hK.out
       ·
        refine V0 1 (h := fun LL gg z wx hl hLk  K hK => ?_)
        obtain ⟨hb⟩ := hl
        have q0_HX4 : wx.cell? ⟨wr.heap.size, 0, none⟩ = some (.slice A3 X.f0.length c3) := (blk_cell (blk_below HX4.out hb.out) 0).trans rfl
        have q1_HX4 : wx.cell? ⟨wr.heap.size, 1, none⟩ = some (.slice A4 X.f1.length c4) := (blk_cell (blk_below HX4.out hb.out) 1).trans rfl
        dsimp only [FA]
        refine wantd (by rfl) ?_
        go_simp
        exact hK.out
       ·
        refine CD 2 (fun _ => rfl) (fun _ => rfl) fun LL gg z wx hl hLk hd hI K hK => ?_
        obtain ⟨hb⟩ := hl
        have e0 := hI.at 0 rfl (hd 0 rfl)
        have e1 := hI.at 1 rfl (hd 1 rfl)
        dsimp only [FA]
        refine wantd (by rfl) ?_
        go_simp
        refine (FRW.out wx hb.out).mono ?_
        rintro e w' ⟨rfl, hb1⟩
        exact hK gg _ _ (sm2 e0 e1) rfl rfl ⟨below_step hb.out hb1⟩
       ·
        exact V1 3 2
       ·
        exact V1 4 3
       ·
        exact U1 5 4
       ·
        exact U1 6 4
       ·
        exact U1 7 4
       ·
        exact U1 8 7
       ·
        exact U1 9 7
       ·
        exact U1 10 7
       ·
        exact U1 11 7
       ·
        exact U1 12 7
       ·
        exact U1 13 7
       ·
        exact U1 14 7
       ·
        exact U1 15 7
       ·
        exact U1 16 7
       ·
        exact U1 17 7
       ·
        exact U1 18 7
       ·
        exact U1 19 4
       ·
        exact V1 20 4
      ·
       intro LL gg z wc hall hI hl
       obtain ⟨hb⟩ := hl
       have e20 := hI.at 20 rfl (hall 20 (by decide))
       dsimp only [FA] at ⊢
       rw [e20]
       have HBC := hb
       clear hI hb e20 hall
       have HBE := Aside0.mk (below_step HBX.out HBC.out)
       go_wp2_with fail
       go_ret
       exact ⟨by rw [HD.out, HTP.out, HFI.out]; rfl, HBE.out⟩
     | true =>
      rw [hrb] at FRW
      have HRB := Aside0.mk hrb
      have hX3 : X.f0.length ≤ 3 := row_len hrb
      clear hrb
      by_cases hi0 : i = 0
      ·
       subst hi0
       have HOK : Aside0 ((rowB l0_0 (l0_1.getD 0 z44) && (0 == 0 || decide (cmpL (l0_1.getD (0 - 1) z44).f0 (l0_1.getD 0 z44).f0 < 0))) = true) := ⟨by rw [HXD.out, HRB.out]; rfl⟩
       refine wp_reg 21 rfl rfl (by kernel_rfl) (fun z => .agg #[.slice A0_0 l0_0.length c0_0, .slice (some ad) n c0_1, .int .i64 a0_2, .bool a0_3] :: .pointer (some ⟨w.heap.size, 0, none⟩) :: u2 :: .int .i64 0 :: .pointer (some ⟨wr.heap.size, 0, none⟩) :: undef :: undef :: undef :: undef :: .pointer (some ⟨w.heap.size, 0, none⟩) :: .slice A0_0 l0_0.length c0_0 :: .bool true :: .bool false :: .bool false :: .pointer (some ⟨w.heap.size, 1, none⟩) :: .slice (some ad) n c0_1 :: .int .i64 (n : Int) :: .bool false :: .bool false :: .bool false :: .pointer (some ⟨w.heap.size, 2, none⟩) :: .int .i64 a0_2 :: .bool true :: .bool false :: .bool false :: .pointer (some ⟨w.heap.size, 1, none⟩) :: .slice (some ad) n c0_1 :: .int .i64 (n : Int) :: .int .i64 0 :: .bool true :: .int .i64 0 :: .pointer (some (ad.add 0)) :: .agg #[.slice A3 X.f0.length c3, .slice A4 X.f1.length c4] :: z 33 :: z 34 :: z 35 :: z 36 :: z 37 :: z 38 :: z 39 :: z 40 :: z 41 :: z 42 :: z 43 :: z 44 :: z 45 :: z 46 :: z 47 :: z 48 :: z 49 :: z 50 :: z 51 :: z 52 :: z 53 :: u54 :: undef :: undef :: undef :: undef :: undef :: undef :: undef :: undef :: undef :: undef :: undef :: undef :: undef :: undef :: undef :: undef :: undef :: undef :: []) (fun (gg : Unit) => [(0, 33, .agg #[.slice A0_0 l0_0.length c0_0, .slice (some ad) n c0_1, .int .i64 a0_2, .bool a0_3]), (1, 34, .agg #[.slice A3 X.f0.length c3, .slice A4 X.f1.length c4]), (2, 35, .bool true), (3, 36, .bool false), (4, 37, .bool false), (5, 38, .int .i64 0), (6, 39, .bool false), (7, 40, .bool false), (8, 41, undef), (9, 42, undef), (10, 43, undef), (11, 44, undef), (12, 45, undef), (13, 46, undef), (14, 47, undef), (15, 48, undef), (16, 49, undef), (17, 50, undef), (18, 51, undef), (19, 52, .bool false), (20, 53, .bool false)]) (fun LL gg z wx => Aside0 (Below WX.heap.size WX wx)) () (zz [(33, u33), (34, u34), (35, u35), (36, u36), (37, u37), (38, u38), (39, u39), (40, u40), (41, u41), (42, u42), (43, u43), (44, u44), (45, u45), (46, u46), (47, u47), (48, u48), (49, u49), (50, u50), (51, u51), (52, u52), (53, u53)]) rfl rfl ⟨below_drew (Below.refl _ _)⟩ ?_ ?_
       ·
        refine Steps.cons ?_ (Steps.cons ?_ (Steps.cons ?_ (Steps.cons ?_ (Steps.cons ?_ (Steps.cons ?_ (Steps.cons ?_ (Steps.cons ?_ (Steps.cons ?_ (Steps.cons ?_ (Steps.cons ?_ (Steps.cons ?_ (Steps.cons ?_ (Steps.cons ?_ (Steps.cons ?_ (Steps.cons ?_ (Steps.cons ?_ (Steps.cons ?_ (Steps.cons ?_ (Steps.cons ?_ (Steps.cons ?_ (Steps.nil)))))))))))))))))))))
        ·
         refine V0 0 (h := fun LL gg z wx hl hLk  K hK => ?_)
         obtain ⟨hb⟩ := hl
         have q0_TX : wx.cell? ⟨w.heap.size, 0, none⟩ = some (.slice A0_0 l0_0.length c0_0) := (blk_cell (blk_below TX.out hb.out) 0).trans rfl
         have q1_TX : wx.cell? ⟨w.heap.size, 1, none⟩ = some (.slice (some ad) n c0_1) := (blk_cell (blk_below TX.out hb.out) 1).trans rfl
         have q2_TX : wx.cell? ⟨w.heap.size, 2, none⟩ = some (.int .i64 a0_2) := (blk_cell (blk_below TX.out hb.out) 2).trans rfl
         have q3_TX : wx.cell? ⟨w.heap.size, 3, none⟩ = some (.bool a0_3) := (blk_cell (blk_below TX.out hb.out) 3).trans rfl
         dsimp only [FA]
         refine wantd (by rfl) ?_
         go_simp
         exact hK.out
        ·
         refine V0 1 (h := fun LL gg z wx hl hLk  K hK => ?_)
         obtain ⟨hb⟩ := hl
         have q0_HX4 : wx.cell? ⟨wr.heap.size, 0, none⟩ = some (.slice A3 X.f0.length c3) := (blk_cell (blk_below HX4.out hb.out) 0).trans rfl
         have q1_HX4 : wx.cell? ⟨wr.heap.size, 1, none⟩ = some (.slice A4 X.f1.length c4) := (blk_cell (blk_below HX4.out hb.out) 1).trans rfl
         dsimp only [FA]
         refine wantd (by rfl) ?_
         go_simp
         exact hK.out
        ·
         refine CD 2 (fun _ => rfl) (fun _ => rfl) fun LL gg z wx hl hLk hd hI K hK => ?_
         obtain ⟨hb⟩ := hl
         have e0 := hI.at 0 rfl (hd 0 rfl)
         have e1 := hI.at 1 rfl (hd 1 rfl)
         dsimp only [FA]
         refine wantd (by rfl) ?_
         go_simp
         refine (FRW.out wx hb.out).mono ?_
         rintro e w' ⟨rfl, hb1⟩
         exact hK gg _ _ (sm2 e0 e1) rfl rfl ⟨below_step hb.out hb1⟩
        ·
         exact V1 3 2
        ·
         exact V1 4 3
        ·
         exact V1 5 4
        ·
         exact V2 6 4 5
        ·
         exact V2 7 4 6
        ·
         exact U1 8 7
        ·
         exact U1 9 7
        ·
         exact U1 10 7
        ·
         exact U1 11 7
        ·
         exact U1 12 7
        ·
         exact U1 13 7
        ·
         exact U1 14 7
        ·
         exact U1 15 7
        ·
         exact U1 16 7
        ·
         exact U1 17 7
        ·
         exact U1 18 7
        ·
         exact V2 19 4 7
        ·
         exact V2 20 4 19
       ·
        intro LL gg z wc hall hI hl
        obtain ⟨hb⟩ := hl
        have e20 := hI.at 20 rfl (hall 20 (by decide))
        dsimp only [FA] at ⊢
        rw [e20]
        have HBC := hb
        clear hI hb e20 hall
        have HBE := Aside0.mk (below_step HBX2.out HBC.out)
        go_wp2_with fail
        go_roundw
        case rel =>
         refine ⟨1, rfl, ⟨HI.out, fun j hj => ?_⟩, HBE⟩
         obtain rfl : j = 0 := by omega
         exact HOK.out
        case measure => show n - (intOf (.int .i64 1)).toNat < n - (intOf (.int .i64 ((0 : Nat) : Int))).toNat; simp only [intOf]; have := HI.out; omega
      ·
       obtain ⟨p, hp⟩ : ∃ p : Nat, p + 1 = i := ⟨i - 1, by omega⟩
       have HPW : Aside0 (IntKind.i64.wrap ((i : Int) - 1) = (p : Int)) := ⟨by rw [i64_w]; have := HN.out; have := HI.out; unfold wrap64; omega⟩
       have HPN : Aside0 (p < n) := ⟨by have := HI.out; omega⟩
       have p0 : ((0 : Int) ≤ (p : Int)) = True := eq_true (by omega)
       have p1 : ((p : Int) < (n : Int)) = True := eq_true (by have := HPN.out; omega)
       have p2 : (p < n) = True := eq_true HPN.out
       obtain ⟨ad5, A5, c5, A6, c6, e5, hy0, hy1, k5, g5, k6, g6⟩ := at_T44 HR.out.2.2.1 (p : Int) (by omega) (by rw [← HNE.out]; have := HPN.out; omega)
       obtain rfl : ad = ad5 := by injection e5
       simp only [Int.toNat_natCast] at hy0
       obtain ⟨Y, hY⟩ : ∃ Y, Y = rd_T44 l0_1 (p : Int) := ⟨_, rfl⟩
       rw [← hY] at hy0 k5 g5
       have HYD : Aside0 (l0_1.getD (i - 1) z44 = Y) := ⟨by rw [hY, show i - 1 = p by omega]; unfold rd_T44; rw [Int.toNat_natCast]⟩
       have HY0 := Aside0.mk (cell_keep HBX.out hy0)
       have hY3 : Y.f0.length ≤ 3 := by
        have h9 := HA.out.2 p (by omega)
        rw [show l0_1.getD p z44 = Y by rw [hY]; unfold rd_T44; rw [Int.toNat_natCast], Bool.and_eq_true] at h9
        exact row_len h9.1
       have HPOS : Aside0 (0 < i ∧ (i == 0) = false) := ⟨by omega, by simpa using hi0⟩
       obtain ⟨cv, hcv⟩ : ∃ cv, cv = cmpL Y.f0 X.f0 := ⟨_, rfl⟩
       have FCM := Aside0.mk (fun (W' : World) (hb : Below WX.heap.size WX W') => slices_Compare_rune_rune.calls (Y.f0.length + 1) A5 c5 Y.f0 A3 c3 X.f0 _ W' (Kd.C_below g5 (below_step HBX.out hb)) k5 (Kd.C_below HV.out.2.1 (below_step HBX.out hb)) HV.out.1 (cmp_some Y.f0 X.f0 (by omega)))
       rw [← hcv] at FCM
       have HCV := Aside0.mk hcv
       clear hcv hY3 hX3 hY hy0 hy1 k5 g5 k6 g6 e5 hi0 hp
       by_cases hge : 0 ≤ cv
       ·
        have HG : Aside0 ((0 ≤ cv) = True) := ⟨eq_true hge⟩
        have HFI : Aside0 (mayR l0_0 l0_1 = false) := ⟨mayR_not (i := i) (by rw [← HNE.out]; exact HI.out) (by rw [HXD.out, HYD.out, HRB.out, HPOS.out.2, ← HCV.out, decide_eq_false (Int.not_lt.2 hge)]; rfl)⟩
        clear hge
        refine wp_reg 21 rfl rfl (by kernel_rfl) (fun z => .agg #[.slice A0_0 l0_0.length c0_0, .slice (some ad) n c0_1, .int .i64 a0_2, .bool a0_3] :: .pointer (some ⟨w.heap.size, 0, none⟩) :: u2 :: .int .i64 (i : Int) :: .pointer (some ⟨wr.heap.size, 0, none⟩) :: undef :: undef :: undef :: undef :: .pointer (some ⟨w.heap.size, 0, none⟩) :: .slice A0_0 l0_0.length c0_0 :: .bool true :: .bool false :: .bool false :: .pointer (some ⟨w.heap.size, 1, none⟩) :: .slice (some ad) n c0_1 :: .int .i64 (n : Int) :: .bool false :: .bool false :: .bool false :: .pointer (some ⟨w.heap.size, 2, none⟩) :: .int .i64 a0_2 :: .bool true :: .bool false :: .bool false :: .pointer (some ⟨w.heap.size, 1, none⟩) :: .slice (some ad) n c0_1 :: .int .i64 (n : Int) :: .int .i64 (i : Int) :: .bool true :: .int .i64 (i : Int) :: .pointer (some (ad.add (i * 2))) :: .agg #[.slice A3 X.f0.length c3, .slice A4 X.f1.length c4] :: z 33 :: z 34 :: z 35 :: z 36 :: z 37 :: z 38 :: z 39 :: z 40 :: z 41 :: z 42 :: z 43 :: z 44 :: z 45 :: z 46 :: z 47 :: z 48 :: z 49 :: z 50 :: z 51 :: z 52 :: z 53 :: u54 :: undef :: undef :: undef :: undef :: undef :: undef :: undef :: undef :: undef :: undef :: undef :: undef :: undef :: undef :: undef :: undef :: undef :: undef :: []) (fun (gg : Unit) => [(0, 33, .agg #[.slice A0_0 l0_0.length c0_0, .slice (some ad) n c0_1, .int .i64 a0_2, .bool a0_3]), (1, 34, .agg #[.slice A3 X.f0.length c3, .slice A4 X.f1.length c4]), (2, 35, .bool true), (3, 36, .bool false), (4, 37, .bool false), (5, 38, .int .i64 (i : Int)), (6, 39, .bool true), (7, 40, .bool true), (8, 41, .pointer (some ⟨w.heap.size, 1, none⟩)), (9, 42, .slice (some ad) n c0_1), (10, 43, .int .i64 (i : Int)), (11, 44, .int .i64 (p : Int)), (12, 45, .pointer (some (ad.add (p * 2)))), (13, 46, .pointer (some (ad.add (p * 2)))), (14, 47, .slice A5 Y.f0.length c5), (15, 48, .pointer (some ⟨wr.heap.size, 0, none⟩)), (16, 49, .slice A3 X.f0.length c3), (17, 50, .int .i64 cv), (18, 51, .bool true), (19, 52, .bool true), (20, 53, .bool true)]) (fun LL gg z wx => Aside0 (Below WX.heap.size WX wx)) () (zz [(33, u33), (34, u34), (35, u35), (36, u36), (37, u37), (38, u38), (39, u39), (40, u40), (41, u41), (42, u42), (43, u43), (44, u44), (45, u45), (46, u46), (47, u47), (48, u48), (49, u49), (50, u50), (51, u51), (52, u52), (53, u53)]) rfl rfl ⟨below_drew (Below.refl _ _)⟩ ?_ ?_
        ·
         refine Steps.cons ?_ (Steps.cons ?_ (Steps.cons ?_ (Steps.cons ?_ (Steps.cons ?_ (Steps.cons ?_ (Steps.cons ?_ (Steps.cons ?_ (Steps.cons ?_ (Steps.cons ?_ (Steps.cons ?_ (Steps.cons ?_ (Steps.cons ?_ (Steps.cons ?_ (Steps.cons ?_ (Steps.cons ?_ (Steps.cons ?_ (Steps.cons ?_ (Steps.cons ?_ (Steps.cons ?_ (Steps.cons ?_ (Steps.nil)))))))))))))))))))))
         ·
          refine V0 0 (h := fun LL gg z wx hl hLk  K hK => ?_)
          obtain ⟨hb⟩ := hl
          have q0_TX : wx.cell? ⟨w.heap.size, 0, none⟩ = some (.slice A0_0 l0_0.length c0_0) := (blk_cell (blk_below TX.out hb.out) 0).trans rfl
          have q1_TX : wx.cell? ⟨w.heap.size, 1, none⟩ = some (.slice (some ad) n c0_1) := (blk_cell (blk_below TX.out hb.out) 1).trans rfl
          have q2_TX : wx.cell? ⟨w.heap.size, 2, none⟩ = some (.int .i64 a0_2) := (blk_cell (blk_below TX.out hb.out) 2).trans rfl
          have q3_TX : wx.cell? ⟨w.heap.size, 3, none⟩ = some (.bool a0_3) := (blk_cell (blk_below TX.out hb.out) 3).trans rfl
          dsimp only [FA]
          refine wantd (by rfl) ?_
          go_simp
          exact hK.out
         ·
          refine V0 1 (h := fun LL gg z wx hl hLk  K hK => ?_)
          obtain ⟨hb⟩ := hl
          have q0_HX4 : wx.cell? ⟨wr.heap.size, 0, none⟩ = some (.slice A3 X.f0.length c3) := (blk_cell (blk_below HX4.out hb.out) 0).trans rfl
          have q1_HX4 : wx.cell? ⟨wr.heap.size, 1, none⟩ = some (.slice A4 X.f1.length c4) := (blk_cell (blk_below HX4.out hb.out) 1).trans rfl
          dsimp only [FA]
          refine wantd (by rfl) ?_
          go_simp
          exact hK.out
         ·
          refine CD 2 (fun _ => rfl) (fun _ => rfl) fun LL gg z wx hl hLk hd hI K hK => ?_
          obtain ⟨hb⟩ := hl
          have e0 := hI.at 0 rfl (hd 0 rfl)
          have e1 := hI.at 1 rfl (hd 1 rfl)
          dsimp only [FA]
          refine wantd (by rfl) ?_
          go_simp
          refine (FRW.out wx hb.out).mono ?_
          rintro e w' ⟨rfl, hb1⟩
          exact hK gg _ _ (sm2 e0 e1) rfl rfl ⟨below_step hb.out hb1⟩
         ·
          exact V1 3 2
         ·
          exact V1 4 3
         ·
          exact V1 5 4
         ·
          refine V2 6 4 5 (h := fun LL gg z wx hl hLk eg e5 K hK => ?_)
          obtain ⟨hb⟩ := hl
          have hp9 := HPOS.out.1
          have hp8 : ((0 : Int) < (i : Int)) = True := eq_true (by omega)
          dsimp only [FA]
          refine wantd (by rw [eg]; rfl) ?_
          go_simp
          exact hK.out
         ·
          exact V2 7 4 6
         ·
          exact V1 8 7
         ·
          refine V2 9 7 8 (h := fun LL gg z wx hl hLk eg e8 K hK => ?_)
          obtain ⟨hb⟩ := hl
          have q1_TX : wx.cell? ⟨w.heap.size, 1, none⟩ = some (.slice (some ad) n c0_1) := (blk_cell (blk_below TX.out hb.out) 1).trans rfl
          dsimp only [FA]
          refine wantd (by rw [eg]; rfl) ?_
          go_simp
          exact hK.out
         ·
          exact V1 10 7
         ·
          refine V2 11 7 10 (h := fun LL gg z wx hl hLk eg e10 K hK => ?_)
          obtain ⟨hb⟩ := hl
          have hw := HPW.out
          dsimp only [FA]
          refine wantd (by rw [eg]; rfl) ?_
          go_simp
          exact hK.out
         ·
          exact V3 12 7 9 11
         ·
          exact V2 13 7 12
         ·
          refine V2 14 7 13 (h := fun LL gg z wx hl hLk eg e13 K hK => ?_)
          obtain ⟨hb⟩ := hl
          have hy := cell_keep hb.out HY0.out
          dsimp only [FA]
          refine wantd (by rw [eg]; rfl) ?_
          go_simp
          exact hK.out
         ·
          exact V1 15 7
         ·
          refine V2 16 7 15 (h := fun LL gg z wx hl hLk eg e15 K hK => ?_)
          obtain ⟨hb⟩ := hl
          have q0_HX4 : wx.cell? ⟨wr.heap.size, 0, none⟩ = some (.slice A3 X.f0.length c3) := (blk_cell (blk_below HX4.out hb.out) 0).trans rfl
          dsimp only [FA]
          refine wantd (by rw [eg]; rfl) ?_
          go_simp
          exact hK.out
         ·
          refine CD 17 (fun _ => rfl) (fun _ => rfl) fun LL gg z wx hl hLk hd hI K hK => ?_
          obtain ⟨hb⟩ := hl
          have e14 := hI.at 14 rfl (hd 14 rfl)
          have e16 := hI.at 16 rfl (hd 16 rfl)
          dsimp only [FA]
          have eg := hI.at 7 rfl (hd 7 rfl)
          refine wantd (by rw [eg]; rfl) ?_
          go_simp
          refine (FCM.out wx hb.out).mono ?_
          rintro e w' ⟨rfl, hb0⟩
          have hb1 := hb0.below
          exact hK gg _ _ (sm3 eg e14 e16) rfl rfl ⟨below_step hb.out hb1⟩
         ·
          refine V2 18 7 17 (h := fun LL gg z wx hl hLk eg e17 K hK => ?_)
          obtain ⟨hb⟩ := hl
          have hg := HG.out
          dsimp only [FA]
          refine wantd (by rw [eg]; rfl) ?_
          go_simp
          exact hK.out
         ·
          exact V3 19 4 7 18
         ·
          exact V2 20 4 19
        ·
         intro LL gg z wc hall hI hl
         obtain ⟨hb⟩ := hl
         have e20 := hI.at 20 rfl (hall 20 (by decide))
         dsimp only [FA] at ⊢
         rw [e20]
         have HBC := hb
         clear hI hb e20 hall
         have HBE := Aside0.mk (below_step HBX.out HBC.out)
         go_wp2_with fail
         go_ret
         exact ⟨by rw [HD.out, HTP.out, HFI.out]; rfl, HBE.out⟩
       ·
        have HG : Aside0 ((0 ≤ cv) = False) := ⟨eq_false hge⟩
        have HOK : Aside0 ((rowB l0_0 (l0_1.getD i z44) && (i == 0 || decide (cmpL (l0_1.getD (i - 1) z44).f0 (l0_1.getD i z44).f0 < 0))) = true) := ⟨by rw [HXD.out, HYD.out, HRB.out, HPOS.out.2, ← HCV.out, decide_eq_true (Int.not_le.1 hge)]; rfl⟩
        clear hge
        refine wp_reg 21 rfl rfl (by kernel_rfl) (fun z => .agg #[.slice A0_0 l0_0.length c0_0, .slice (some ad) n c0_1, .int .i64 a0_2, .bool a0_3] :: .pointer (some ⟨w.heap.size, 0, none⟩) :: u2 :: .int .i64 (i : Int) :: .pointer (some ⟨wr.heap.size, 0, none⟩) :: undef :: undef :: undef :: undef :: .pointer (some ⟨w.heap.size, 0, none⟩) :: .slice A0_0 l0_0.length c0_0 :: .bool true :: .bool false :: .bool false :: .pointer (some ⟨w.heap.size, 1, none⟩) :: .slice (some ad) n c0_1 :: .int .i64 (n : Int) :: .bool false :: .bool false :: .bool false :: .pointer (some ⟨w.heap.size, 2, none⟩) :: .int .i64 a0_2 :: .bool true :: .bool false :: .bool false :: .pointer (some ⟨w.heap.size, 1, none⟩) :: .slice (some ad) n c0_1 :: .int .i64 (n : Int) :: .int .i64 (i : Int) :: .bool true :: .int .i64 (i : Int) :: .pointer (some (ad.add (i * 2))) :: .agg #[.slice A3 X.f0.length c3, .slice A4 X.f1.length c4] :: z 33 :: z 34 :: z 35 :: z 36 :: z 37 :: z 38 :: z 39 :: z 40 :: z 41 :: z 42 :: z 43 :: z 44 :: z 45 :: z 46 :: z 47 :: z 48 :: z 49 :: z 50 :: z 51 :: z 52 :: z 53 :: u54 :: undef :: undef :: undef :: undef :: undef :: undef :: undef :: undef :: undef :: undef :: undef :: undef :: undef :: undef :: undef :: undef :: undef :: undef :: []) (fun (gg : Unit) => [(0, 33, .agg #[.slice A0_0 l0_0.length c0_0, .slice (some ad) n c0_1, .int .i64 a0_2, .bool a0_3]), (1, 34, .agg #[.slice A3 X.f0.length c3, .slice A4 X.f1.length c4]), (2, 35, .bool true), (3, 36, .bool false), (4, 37, .bool false), (5, 38, .int .i64 (i : Int)), (6, 39, .bool true), (7, 40, .bool true), (8, 41, .pointer (some ⟨w.heap.size, 1, none⟩)), (9, 42, .slice (some ad) n c0_1), (10, 43, .int .i64 (i : Int)), (11, 44, .int .i64 (p : Int)), (12, 45, .pointer (some (ad.add (p * 2)))), (13, 46, .pointer (some (ad.add (p * 2)))), (14, 47, .slice A5 Y.f0.length c5), (15, 48, .pointer (some ⟨wr.heap.size, 0, none⟩)), (16, 49, .slice A3 X.f0.length c3), (17, 50, .int .i64 cv), (18, 51, .bool false), (19, 52, .bool false), (20, 53, .bool false)]) (fun LL gg z wx => Aside0 (Below WX.heap.size WX wx)) () (zz [(33, u33), (34, u34), (35, u35), (36, u36), (37, u37), (38, u38), (39, u39), (40, u40), (41, u41), (42, u42), (43, u43), (44, u44), (45, u45), (46, u46), (47, u47), (48, u48), (49, u49), (50, u50), (51, u51), (52, u52), (53, u53)]) rfl rfl ⟨below_drew (Below.refl _ _)⟩ ?_ ?_
        ·
         refine Steps.cons ?_ (Steps.cons ?_ (Steps.cons ?_ (Steps.cons ?_ (Steps.cons ?_ (Steps.cons ?_ (Steps.cons ?_ (Steps.cons ?_ (Steps.cons ?_ (Steps.cons ?_ (Steps.cons ?_ (Steps.cons ?_ (Steps.cons ?_ (Steps.cons ?_ (Steps.cons ?_ (Steps.cons ?_ (Steps.cons ?_ (Steps.cons ?_ (Steps.cons ?_ (Steps.cons ?_ (Steps.cons ?_ (Steps.nil)))))))))))))))))))))
         ·
          refine V0 0 (h := fun LL gg z wx hl hLk  K hK => ?_)
          obtain ⟨hb⟩ := hl
          have q0_TX : wx.cell? ⟨w.heap.size, 0, none⟩ = some (.slice A0_0 l0_0.length c0_0) := (blk_cell (blk_below TX.out hb.out) 0).trans rfl
          have q1_TX : wx.cell? ⟨w.heap.size, 1, none⟩ = some (.slice (some ad) n c0_1) := (blk_cell (blk_below TX.out hb.out) 1).trans rfl
          have q2_TX : wx.cell? ⟨w.heap.size, 2, none⟩ = some (.int .i64 a0_2) := (blk_cell (blk_below TX.out hb.out) 2).trans rfl
          have q3_TX : wx.cell? ⟨w.heap.size, 3, none⟩ = some (.bool a0_3) := (blk_cell (blk_below TX.out hb.out) 3).trans rfl
          dsimp only [FA]
          refine wantd (by rfl) ?_
          go_simp
          exact hK.out
         ·
          refine V0 1 (h := fun LL gg z wx hl hLk  K hK => ?_)
          obtain ⟨hb⟩ := hl
          have q0_HX4 : wx.cell? ⟨wr.heap.size, 0, none⟩ = some (.slice A3 X.f0.length c3) := (blk_cell (blk_below HX4.out hb.out) 0).trans rfl
          have q1_HX4 : wx.cell? ⟨wr.heap.size, 1, none⟩ = some (.slice A4 X.f1.length c4) := (blk_cell (blk_below HX4.out hb.out) 1).trans rfl
          dsimp only [FA]
          refine wantd (by rfl) ?_
          go_simp
          exact hK.out
         ·
          refine CD 2 (fun _ => rfl) (fun _ => rfl) fun LL gg z wx hl hLk hd hI K hK => ?_
          obtain ⟨hb⟩ := hl
          have e0 := hI.at 0 rfl (hd 0 rfl)
          have e1 := hI.at 1 rfl (hd 1 rfl)
          dsimp only [FA]
          refine wantd (by rfl) ?_
          go_simp
          refine (FRW.out wx hb.out).mono ?_
          rintro e w' ⟨rfl, hb1⟩
          exact hK gg _ _ (sm2 e0 e1) rfl rfl ⟨below_step hb.out hb1⟩
         ·
          exact V1 3 2
         ·
          exact V1 4 3
         ·
          exact V1 5 4
         ·
          refine V2 6 4 5 (h := fun LL gg z wx hl hLk eg e5 K hK => ?_)
          obtain ⟨hb⟩ := hl
          have hp9 := HPOS.out.1
          have hp8 : ((0 : Int) < (i : Int)) = True := eq_true (by omega)
          dsimp only [FA]
          refine wantd (by rw [eg]; rfl) ?_
          go_simp
          exact hK.out
         ·
          exact V2 7 4 6
         ·
          exact V1 8 7
         ·
          refine V2 9 7 8 (h := fun LL gg z wx hl hLk eg e8 K hK => ?_)
          obtain ⟨hb⟩ := hl
          have q1_TX : wx.cell? ⟨w.heap.size, 1, none⟩ = some (.slice (some ad) n c0_1) := (blk_cell (blk_below TX.out hb.out) 1).trans rfl
          dsimp only [FA]
          refine wantd (by rw [eg]; rfl) ?_
          go_simp
          exact hK.out
         ·
          exact V1 10 7
         ·
          refine V2 11 7 10 (h := fun LL gg z wx hl hLk eg e10 K hK => ?_)
          obtain ⟨hb⟩ := hl
          have hw := HPW.out
          dsimp only [FA]
          refine wantd (by rw [eg]; rfl) ?_
          go_simp
          exact hK.out
         ·
          exact V3 12 7 9 11
         ·
          exact V2 13 7 12
         ·
          refine V2 14 7 13 (h := fun LL gg z wx hl hLk eg e13 K hK => ?_)
          obtain ⟨hb⟩ := hl
          have hy := cell_keep hb.out HY0.out
          dsimp only [FA]
          refine wantd (by rw [eg]; rfl) ?_
          go_simp
          exact hK.out
         ·
          exact V1 15 7
         ·
          refine V2 16 7 15 (h := fun LL gg z wx hl hLk eg e15 K hK => ?_)
          obtain ⟨hb⟩ := hl
          have q0_HX4 : wx.cell? ⟨wr.heap.size, 0, none⟩ = some (.slice A3 X.f0.length c3) := (blk_cell (blk_below HX4.out hb.out) 0).trans rfl
          dsimp only [FA]
          refine wantd (by rw [eg]; rfl) ?_
          go_simp
          exact hK.out
         ·
          refine CD 17 (fun _ => rfl) (fun _ => rfl) fun LL gg z wx hl hLk hd hI K hK => ?_
          obtain ⟨hb⟩ := hl
          have e14 := hI.at 14 rfl (hd 14 rfl)
          have e16 := hI.at 16 rfl (hd 16 rfl)
          dsimp only [FA]
          have eg := hI.at 7 rfl (hd 7 rfl)
          refine wantd (by rw [eg]; rfl) ?_
          go_simp
          refine (FCM.out wx hb.out).mono ?_
          rintro e w' ⟨rfl, hb0⟩
          have hb1 := hb0.below
          exact hK gg _ _ (sm3 eg e14 e16) rfl rfl ⟨below_step hb.out hb1⟩
         ·
          refine V2 18 7 17 (h := fun LL gg z wx hl hLk eg e17 K hK => ?_)
          obtain ⟨hb⟩ := hl
          have hg := HG.out
          dsimp only [FA]
          refine wantd (by rw [eg]; rfl) ?_
          go_simp
          exact hK.out
         ·
          exact V3 19 4 7 18
         ·
          exact V2 20 4 19
        ·
         intro LL gg z wc hall hI hl
         obtain ⟨hb⟩ := hl
         have e20 := hI.at 20 rfl (hall 20 (by decide))
         dsimp only [FA] at ⊢
         rw [e20]
         have HBC := hb
         clear hI hb e20 hall
         have HBE := Aside0.mk (below_step HBX2.out HBC.out)
         go_wp2_with fail
         go_roundw
         case rel =>
          refine ⟨i + 1, by rw [HIW.out], ⟨by have := HI.out; omega, fun j hj => ?_⟩, HBE⟩
          rcases Nat.lt_succ_iff_lt_or_eq.1 hj with h | rfl
          ·
           exact HA.out.2 j h
          ·
           exact HOK.out
         case measure => rw [HIW.out]; simp only [intOf]; have := HI.out; omega
    ·
     have r1 := eq_false hlt
     have r2 : (i < n) = False := eq_false (by omega)
     have hin : i = n := by have := HA.out.1; omega
     have hall := mayR_all (l := l0_0) (rows := l0_1) (fun j hj => HA.out.2 j (by rw [← HNE.out] at hj; omega))
     have HMR := Aside0.mk hall.1
     have HRS := Aside0.mk hall.2.1
     have H13 := Aside0.mk hall.2.2
     have HBW := Aside0.mk (below_step HB2.out HBR.out)
     have T5 := Aside0.mk (blk_below T2.out HBR.out)
     clear hlt hall q3 HA HB2 HBR T2 hin
     generalize wr = w5 at *
     have q4 : w5.cell? ⟨w.heap.size, 1, none⟩ = some (.slice A0_1 n c0_1) := (blk_cell T5.out 1).trans rfl
     go_wp2_with fail
     go_loopw [58] (fun v wq => ∃ i : Nat, v = .int .i64 (i : Int) ∧ Aside0 (i ≤ n ∧ ∀ j < i, (rowFor l0_1 ((l0_1.getD j z44).f0.take 1)).isSome = true) ∧ Aside0 (Below w5.heap.size w5 wq)) (fun v _ => n - (intOf v).toNat)
     case atStart => exact ⟨0, rfl, ⟨Nat.zero_le _, by omega⟩, ⟨Below.refl _ _⟩⟩
     case round =>
      clear q4 r1 r2
      obtain ⟨j, rfl, HA, HBR⟩ := hrel
      by_cases hlt : (j : Int) < (n : Int)
      ·
       have r1 := eq_true hlt
       have r2 : (j < n) = True := eq_true (by omega)
       have r0 : ((0 : Int) ≤ (j : Int)) = True := eq_true (by omega)
       have HI : Aside0 (j < n) := ⟨by omega⟩
       obtain ⟨ad, A3, c3, A4, c4, e, hx0, hx1, k3, g3, k4, g4⟩ := at_T44 HR.out.2.2.1 (j : Int) (by omega) (by rw [← HNE.out]; exact hlt)
       cases e
       simp only [Int.toNat_natCast] at hx0 hx1
       have HBW2 := Aside0.mk (below_step HBW.out HBR.out)
       replace hx0 := cell_keep HBW2.out hx0
       replace hx1 := cell_keep HBW2.out hx1
       obtain ⟨X, hX⟩ : ∃ X, X = rd_T44 l0_1 (j : Int) := ⟨_, rfl⟩
       rw [← hX] at hx0 hx1 k3 g3 k4 g4
       have HXD : Aside0 (l0_1.getD j z44 = X) := ⟨by rw [hX]; unfold rd_T44; rw [Int.toNat_natCast]⟩
       have hXL : 1 ≤ X.f0.length ∧ X.f0.length ≤ 3 := H13.out X (by rw [← HXD.out, List.getD_eq_getElem?_getD, List.getElem?_eq_getElem (by rw [← HNE.out]; exact HI.out)]; exact List.getElem_mem _)
       have HXL := Aside0.mk hXL
       obtain ⟨a3, e3, _⟩ := Kd.at_int g3 0 (by omega) (by omega)
       subst e3
       have HV := Aside0.mk (show RowV w X (some a3) c3 A4 c4 from ⟨k3, g3, k4, g4⟩)
       have HIW := Aside0.mk (show wrap64 ((j : Int) + 1) = ((j + 1 : Nat) : Int) by have := HN.out; have := HI.out; unfold wrap64; omega)
       clear hlt hX k3 g3 k4 g4 hXL
       go_wp2_with fail
       obtain ⟨WX, hWX⟩ : ∃ WX, WX = wr.alloc (.cells #[.slice (some a3) X.f0.length c3, .slice A4 X.f1.length c4] 44) := ⟨_, rfl⟩
       rw [← hWX]
       have hBX : Below wr.heap.size wr WX := by rw [hWX]; exact below_alloc (Below.refl _ _) _
       have HX4 : Aside0 (WX.heap[wr.heap.size]? = some (.cells #[.slice (some a3) X.f0.length c3, .slice A4 X.f1.length c4] 44 (0, 0))) := ⟨by rw [hWX]; simpa using heap_alloc_new wr _⟩
       have TX := Aside0.mk (blk_below T5.out (below_step HBR.out hBX))
       have HBX := Aside0.mk (below_step HBW2.out hBX)
       have HBX2 := Aside0.mk (below_step HBR.out hBX)
       have htl : (X.f0.take 1).length = 1 := by rw [List.length_take]; have := HXL.out; omega
       obtain ⟨A5, c5, A6, c6, _, hpl⟩ := row_place (some ad) l0_1 (X.f0.take 1) w HR.out.2.2.1 HRS.out
       have FFD := Aside0.mk (fun (W' : World) (hb : Below WX.heap.size WX W') => findr_any A0_0 c0_0 l0_0.length a0_2 a0_3 (some ad) c0_1 l0_1 (some a3) c3 (X.f0.take 1) w W' (below_step HBX.out hb) HR.out.2.2.1 (by have := HN.out; have := HNE.out; omega) (fun x hx => by have := (H13.out x hx).2; omega) (Kd.C_take (Kd.C_below HV.out.2.1 (below_step HBX.out hb)) HXL.out.1) (by rw [htl]; have := HV.out.1; have := HXL.out; omega) HRS.out A5 c5 A6 c6 hpl)
       rw [htl, ← HNE.out] at FFD
       obtain ⟨Y, hY⟩ : ∃ Y, Y = (rowFor l0_1 (X.f0.take 1)).getD z44 := ⟨_, rfl⟩
       rw [← hY] at FFD
       have HC3 : Aside0 (((1 : Int) ≤ (c3 : Int)) = True ∧ (1 ≤ c3) = True) := ⟨eq_true (by have := HV.out.1; have := HXL.out; omega), eq_true (by have := HV.out.1; have := HXL.out; omega)⟩
       clear hWX hBX hx0 hx1 r0 r1 r2 htl hpl hY
       cases hib : (rowFor l0_1 (X.f0.take 1)).isSome with
       | false =>
         rw [hib] at FFD
         have HFI : Aside0 (mayF l0_1 = false) := ⟨mayF_not (i := j) (by rw [← HNE.out]; exact HI.out) (by rw [HXD.out]; exact hib)⟩
         clear hib
         refine wp_reg 11 rfl rfl (by kernel_rfl) (fun z => .agg #[.slice A0_0 l0_0.length c0_0, .slice (some ad) n c0_1, .int .i64 a0_2, .bool a0_3] :: .pointer (some ⟨w.heap.size, 0, none⟩) :: u2 :: u3 :: u4 :: undef :: .pointer (some ⟨wr.heap.size, 0, none⟩) :: z 7 :: z 8 :: .pointer (some ⟨w.heap.size, 0, none⟩) :: .slice A0_0 l0_0.length c0_0 :: .bool true :: .bool false :: .bool false :: .pointer (some ⟨w.heap.size, 1, none⟩) :: .slice (some ad) n c0_1 :: .int .i64 (n : Int) :: .bool false :: .bool false :: .bool false :: .pointer (some ⟨w.heap.size, 2, none⟩) :: .int .i64 a0_2 :: .bool true :: .bool false :: .bool false :: .pointer (some ⟨w.heap.size, 1, none⟩) :: .slice (some ad) n c0_1 :: .int .i64 (n : Int) :: .int .i64 (i : Int) :: .bool false :: u30 :: u31 :: u32 :: u33 :: u34 :: u35 :: u36 :: u37 :: u38 :: u39 :: u40 :: u41 :: u42 :: u43 :: u44 :: u45 :: u46 :: u47 :: u48 :: u49 :: u50 :: u51 :: u52 :: u53 :: u54 :: .pointer (some ⟨w.heap.size, 1, none⟩) :: .slice (some ad) n c0_1 :: .int .i64 (n : Int) :: .int .i64 (j : Int) :: .bool true :: .pointer (some (ad.add (j * 2))) :: .agg #[.slice (some a3) X.f0.length c3, .slice A4 X.f1.length c4] :: z 62 :: z 63 :: z 64 :: z 65 :: z 66 :: z 67 :: z 68 :: z 69 :: u70 :: u71 :: u72 :: []) (fun (gg : Nat) => [(0, 63, .agg #[.slice A0_0 l0_0.length c0_0, .slice (some ad) n c0_1, .int .i64 a0_2, .bool a0_3]), (1, 64, .pointer (some ⟨wr.heap.size, 0, none⟩)), (2, 65, .slice (some a3) X.f0.length c3), (3, 66, .slice (some a3) 1 c3), (4, 67, .tuple #[.agg #[.slice A5 Y.f0.length c5, .slice A6 Y.f1.length c6], .bool false]), (5, 62, .tuple #[.agg #[.slice A5 Y.f0.length c5, .slice A6 Y.f1.length c6], .bool false]), (6, 68, .agg #[.slice A5 Y.f0.length c5, .slice A6 Y.f1.length c6]), (7, 69, .bool false), (8, 7, .pointer (some ⟨gg, 0, none⟩)), (10, 8, .bool false)]) (fun LL gg z wx => Aside0 (Below WX.heap.size WX wx) ∧ Aside0 (LL 8 = true → RowAt WX.heap.size wx gg (LL 9) #[.slice A5 Y.f0.length c5, .slice A6 Y.f1.length c6] #[.slice none 0 0, .slice none 0 0] 44) ∧ Aside0 (LL 9 = true → LL 6 = true ∧ LL 8 = true)) 0 (zz [(7, u7), (8, u8), (62, u62), (63, u63), (64, u64), (65, u65), (66, u66), (67, u67), (68, u68), (69, u69)]) rfl rfl ⟨⟨below_drew (Below.refl _ _)⟩, ⟨fun h => absurd h (by decide)⟩, ⟨fun h => absurd h (by decide)⟩⟩ ?_ ?_
         ·
          refine Steps.cons ?_ (Steps.cons ?_ (Steps.cons ?_ (Steps.cons ?_ (Steps.cons ?_ (Steps.cons ?_ (Steps.cons ?_ (Steps.cons ?_ (Steps.cons ?_ (Steps.cons ?_ (Steps.cons ?_ (Steps.nil)))))))))))
          ·
           refine V0 0 (h := fun LL gg z wx hl hLk  K hK => ?_)
           obtain ⟨⟨hb, h9, z10⟩⟩ := hl
           have q0_TX : wx.cell? ⟨w.heap.size, 0, none⟩ = some (.slice A0_0 l0_0.length c0_0) := (blk_cell (blk_below TX.out hb.out) 0).trans rfl
           have q1_TX : wx.cell? ⟨w.heap.size, 1, none⟩ = some (.slice (some ad) n c0_1) := (blk_cell (blk_below TX.out hb.out) 1).trans rfl
           have q2_TX : wx.cell? ⟨w.heap.size, 2, none⟩ = some (.int .i64 a0_2) := (blk_cell (blk_below TX.out hb.out) 2).trans rfl
           have q3_TX : wx.cell? ⟨w.heap.size, 3, none⟩ = some (.bool a0_3) := (blk_cell (blk_below TX.out hb.out) 3).trans rfl
           dsimp only [FA]
           refine wantd (by rfl) ?_
           go_simp
           exact hK.out
          ·
           exact V0 1
          ·
           refine V1 2 1 (h := fun LL gg z wx hl hLk e1 K hK => ?_)
           obtain ⟨⟨hb, h9, z10⟩⟩ := hl
           have q0_X : wx.cell? ⟨wr.heap.size, 0, none⟩ = some (.slice (some a3) X.f0.length c3) := (blk_cell (blk_below HX4.out hb.out) 0).trans rfl
           dsimp only [FA]
           refine wantd (by rfl) ?_
           go_simp
           exact hK.out
          ·
           refine V1 3 2 (h := fun LL gg z wx hl hLk e2 K hK => ?_)
           obtain ⟨⟨hb, h9, z10⟩⟩ := hl
           have hs1 := HC3.out.1
           have hs2 := HC3.out.2
           dsimp only [FA]
           refine wantd (by rfl) ?_
           go_simp
           exact hK.out
          ·
           refine CD 4 (fun _ => rfl) (fun _ => rfl) fun LL gg z wx hl hLk hd hI K hK => ?_
           obtain ⟨⟨hb, h9, z10⟩⟩ := hl
           have e0 := hI.at 0 rfl (hd 0 rfl)
           have e3 := hI.at 3 rfl (hd 3 rfl)
           dsimp only [FA]
           refine wantd (by rfl) ?_
           go_simp
           refine (FFD.out wx hb.out).mono ?_
           rintro e w' ⟨rfl, hb1⟩
           exact hK gg _ _ (sm2 e0 e3) rfl rfl ⟨⟨below_step hb.out hb1⟩, ⟨fun h => (h9.out h).below hb1⟩, z10⟩
          ·
           exact V1 5 4
          ·
           exact V1 6 5 (hT := fun _ => rfl) (hR := fun LL gg z wx hLk hd ⟨hb, h9, z10⟩ => ⟨hb, h9, ⟨fun h => ⟨upd_old (z10.out h).1, upd_old (z10.out h).2⟩⟩⟩)
          ·
           exact V1 7 5
          ·
           refine CD 8 (fun _ => rfl) (fun _ => rfl) fun LL gg z wx hl hLk hd hI K hK => ?_
           obtain ⟨⟨hb, h9, z10⟩⟩ := hl
           dsimp only [FA]
           refine wantd (by rfl) ?_
           go_simp
           exact hK wx.heap.size _ _ rfl rfl rfl ⟨⟨below_alloc hb.out _⟩, ⟨fun _ => RowAt.new _ _ _ (flag_off (fun h => (z10.out h).2) hLk) hb.out.size⟩, ⟨fun h => ⟨upd_old (z10.out h).1, upd_old (z10.out h).2⟩⟩⟩
          ·
           refine CS (fun _ => rfl) fun LL gg z wx hl hLk hd hI K hK => ?_
           obtain ⟨⟨hb, h9, z10⟩⟩ := hl
           have e8 := hI.at 8 rfl (hd 8 rfl)
           have e6 := hI.at 6 rfl (hd 6 rfl)
           have r := h9.out (hd 8 rfl)
           have rv := r.void hLk
           have f0 := blk_frozen rv 0
           have f1 := blk_frozen rv 1
           have c0 := blk_cell rv 0
           have c1 := blk_cell rv 1
           dsimp only [FA]
           refine wantd (by rfl) ?_
           go_simp
           exact hK _ _ (sm2 e8 e6) ⟨⟨below_set (below_set hb.out r.1) r.1⟩, ⟨fun _ => ⟨r.1, blk_put2 rv _ _⟩⟩, ⟨fun _ => ⟨hd 6 rfl, hd 8 rfl⟩⟩⟩
          ·
           exact V1 9 7
         ·
          intro LL g7 z wc hall hI hl
          obtain ⟨⟨hb, h9, z10⟩⟩ := hl
          have e10 := hI.at 9 rfl (hall 10 (by decide))
          dsimp only [FA] at ⊢
          rw [e10]
          have HBC := hb
          clear hI hb h9 z10 e10 hall
          have HBE := Aside0.mk (below_step HBX.out HBC.out)
          go_wp2_with fail
          go_ret
          exact ⟨by rw [HD.out, HTP.out, HMR.out, HFI.out]; rfl, HBE.out⟩
       | true =>
         rw [hib] at FFD
         have HOK : Aside0 ((rowFor l0_1 ((l0_1.getD j z44).f0.take 1)).isSome = true) := ⟨by rw [HXD.out]; exact hib⟩
         clear hib
         refine wp_reg 11 rfl rfl (by kernel_rfl) (fun z => .agg #[.slice A0_0 l0_0.length c0_0, .slice (some ad) n c0_1, .int .i64 a0_2, .bool a0_3] :: .pointer (some ⟨w.heap.size, 0, none⟩) :: u2 :: u3 :: u4 :: undef :: .pointer (some ⟨wr.heap.size, 0, none⟩) :: z 7 :: z 8 :: .pointer (some ⟨w.heap.size, 0, none⟩) :: .slice A0_0 l0_0.length c0_0 :: .bool true :: .bool false :: .bool false :: .pointer (some ⟨w.heap.size, 1, none⟩) :: .slice (some ad) n c0_1 :: .int .i64 (n : Int) :: .bool false :: .bool false :: .bool false :: .pointer (some ⟨w.heap.size, 2, none⟩) :: .int .i64 a0_2 :: .bool true :: .bool false :: .bool false :: .pointer (some ⟨w.heap.size, 1, none⟩) :: .slice (some ad) n c0_1 :: .int .i64 (n : Int) :: .int .i64 (i : Int) :: .bool false :: u30 :: u31 :: u32 :: u33 :: u34 :: u35 :: u36 :: u37 :: u38 :: u39 :: u40 :: u41 :: u42 :: u43 :: u44 :: u45 :: u46 :: u47 :: u48 :: u49 :: u50 :: u51 :: u52 :: u53 :: u54 :: .pointer (some ⟨w.heap.size, 1, none⟩) :: .slice (some ad) n c0_1 :: .int .i64 (n : Int) :: .int .i64 (j : Int) :: .bool true :: .pointer (some (ad.add (j * 2))) :: .agg #[.slice (some a3) X.f0.length c3, .slice A4 X.f1.length c4] :: z 62 :: z 63 :: z 64 :: z 65 :: z 66 :: z 67 :: z 68 :: z 69 :: u70 :: u71 :: u72 :: []) (fun (gg : Nat) => [(0, 63, .agg #[.slice A0_0 l0_0.length c0_0, .slice (some ad) n c0_1, .int .i64 a0_2, .bool a0_3]), (1, 64, .pointer (some ⟨wr.heap.size, 0, none⟩)), (2, 65, .slice (some a3) X.f0.length c3), (3, 66, .slice (some a3) 1 c3), (4, 67, .tuple #[.agg #[.slice A5 Y.f0.length c5, .slice A6 Y.f1.length c6], .bool true]), (5, 62, .tuple #[.agg #[.slice A5 Y.f0.length c5, .slice A6 Y.f1.length c6], .bool true]), (6, 68, .agg #[.slice A5 Y.f0.length c5, .slice A6 Y.f1.length c6]), (7, 69, .bool true), (8, 7, .pointer (some ⟨gg, 0, none⟩)), (10, 8, .bool true)]) (fun LL gg z wx => Aside0 (Below WX.heap.size WX wx) ∧ Aside0 (LL 8 = true → RowAt WX.heap.size wx gg (LL 9) #[.slice A5 Y.f0.length c5, .slice A6 Y.f1.length c6] #[.slice none 0 0, .slice none 0 0] 44) ∧ Aside0 (LL 9 = true → LL 6 = true ∧ LL 8 = true)) 0 (zz [(7, u7), (8, u8), (62, u62), (63, u63), (64, u64), (65, u65), (66, u66), (67, u67), (68, u68), (69, u69)]) rfl rfl ⟨⟨below_drew (Below.refl _ _)⟩, ⟨fun h => absurd h (by decide)⟩, ⟨fun h => absurd h (by decide)⟩⟩ ?_ ?_
         ·
          refine Steps.cons ?_ (Steps.cons ?_ (Steps.cons ?_ (Steps.cons ?_ (Steps.cons ?_ (Steps.cons ?_ (Steps.cons ?_ (Steps.cons ?_ (Steps.cons ?_ (Steps.cons ?_ (Steps.cons ?_ (Steps.nil)))))))))))
          ·
           refine V0 0 (h := fun LL gg z wx hl hLk  K hK => ?_)
           obtain ⟨⟨hb, h9, z10⟩⟩ := hl
           have q0_TX : wx.cell? ⟨w.heap.size, 0, none⟩ = some (.slice A0_0 l0_0.length c0_0) := (blk_cell (blk_below TX.out hb.out) 0).trans rfl
           have q1_TX : wx.cell? ⟨w.heap.size, 1, none⟩ = some (.slice (some ad) n c0_1) := (blk_cell (blk_below TX.out hb.out) 1).trans rfl
           have q2_TX : wx.cell? ⟨w.heap.size, 2, none⟩ = some (.int .i64 a0_2) := (blk_cell (blk_below TX.out hb.out) 2).trans rfl
           have q3_TX : wx.cell? ⟨w.heap.size, 3, none⟩ = some (.bool a0_3) := (blk_cell (blk_below TX.out hb.out) 3).trans rfl
           dsimp only [FA]
           refine wantd (by rfl) ?_
           go_simp
           exact hK.out
          ·
           exact V0 1
          ·
           refine V1 2 1 (h := fun LL gg z wx hl hLk e1 K hK => ?_)
           obtain ⟨⟨hb, h9, z10⟩⟩ := hl
           have q0_X : wx.cell? ⟨wr.heap.size, 0, none⟩ = some (.slice (some a3) X.f0.length c3) := (blk_cell (blk_below HX4.out hb.out) 0).trans rfl
           dsimp only [FA]
           refine wantd (by rfl) ?_
           go_simp
           exact hK.out
          ·
           refine V1 3 2 (h := fun LL gg z wx hl hLk e2 K hK => ?_)
           obtain ⟨⟨hb, h9, z10⟩⟩ := hl
           have hs1 := HC3.out.1
           have hs2 := HC3.out.2
           dsimp only [FA]
           refine wantd (by rfl) ?_
           go_simp
           exact hK.out
          ·
           refine CD 4 (fun _ => rfl) (fun _ => rfl) fun LL gg z wx hl hLk hd hI K hK => ?_
           obtain ⟨⟨hb, h9, z10⟩⟩ := hl
           have e0 := hI.at 0 rfl (hd 0 rfl)
           have e3 := hI.at 3 rfl (hd 3 rfl)
           dsimp only [FA]
           refine wantd (by rfl) ?_
           go_simp
           refine (FFD.out wx hb.out).mono ?_
           rintro e w' ⟨rfl, hb1⟩
           exact hK gg _ _ (sm2 e0 e3) rfl rfl ⟨⟨below_step hb.out hb1⟩, ⟨fun h => (h9.out h).below hb1⟩, z10⟩
          ·
           exact V1 5 4
          ·
           exact V1 6 5 (hT := fun _ => rfl) (hR := fun LL gg z wx hLk hd ⟨hb, h9, z10⟩ => ⟨hb, h9, ⟨fun h => ⟨upd_old (z10.out h).1, upd_old (z10.out h).2⟩⟩⟩)
          ·
           exact V1 7 5
          ·
           refine CD 8 (fun _ => rfl) (fun _ => rfl) fun LL gg z wx hl hLk hd hI K hK => ?_
           obtain ⟨⟨hb, h9, z10⟩⟩ := hl
           dsimp only [FA]
           refine wantd (by rfl) ?_
           go_simp
           exact hK wx.heap.size _ _ rfl rfl rfl ⟨⟨below_alloc hb.out _⟩, ⟨fun _ => RowAt.new _ _ _ (flag_off (fun h => (z10.out h).2) hLk) hb.out.size⟩, ⟨fun h => ⟨upd_old (z10.out h).1, upd_old (z10.out h).2⟩⟩⟩
          ·
           refine CS (fun _ => rfl) fun LL gg z wx hl hLk hd hI K hK => ?_
           obtain ⟨⟨hb, h9, z10⟩⟩ := hl
           have e8 := hI.at 8 rfl (hd 8 rfl)
           have e6 := hI.at 6 rfl (hd 6 rfl)
           have r := h9.out (hd 8 rfl)
           have rv := r.void hLk
           have f0 := blk_frozen rv 0
           have f1 := blk_frozen rv 1
           have c0 := blk_cell rv 0
           have c1 := blk_cell rv 1
           dsimp only [FA]
           refine wantd (by rfl) ?_
           go_simp
           exact hK _ _ (sm2 e8 e6) ⟨⟨below_set (below_set hb.out r.1) r.1⟩, ⟨fun _ => ⟨r.1, blk_put2 rv _ _⟩⟩, ⟨fun _ => ⟨hd 6 rfl, hd 8 rfl⟩⟩⟩
          ·
           exact V1 9 7
         ·
          intro LL g7 z wc hall hI hl
          obtain ⟨⟨hb, h9, z10⟩⟩ := hl
          have e10 := hI.at 9 rfl (hall 10 (by decide))
          dsimp only [FA] at ⊢
          rw [e10]
          have HBC := hb
          clear hI hb h9 z10 e10 hall
          have HBE := Aside0.mk (below_step HBX2.out HBC.out)
          go_wp2_with fail
          go_roundw
          case rel =>
           refine ⟨j + 1, by rw [HIW.out], ⟨by have := HI.out; omega, fun q hq => ?_⟩, HBE⟩
           rcases Nat.lt_succ_iff_lt_or_eq.1 hq with h | rfl
           ·
            exact HA.out.2 q h
           ·
            exact HOK.out
          case measure => rw [HIW.out]; simp only [intOf]; have := HI.out; omega
      ·
       have r1 := eq_false hlt
       have r2 : (j < n) = False := eq_false (by omega)
       have HMF : Aside0 (mayF l0_1 = true) := ⟨by unfold mayF; rw [List.all_eq_true]; exact fun q hq => HA.out.2 q (by have := List.mem_range.1 hq; have := HNE.out; have := HA.out.1; omega)⟩
       have HBE := Aside0.mk (below_step HBW.out HBR.out)
       clear hlt
       go_wp2_with fail
       go_ret
       exact ⟨by rw [HD.out, HTP.out, HMR.out, HMF.out]; rfl, HBE.out⟩
-- weigh.Elements: under way (the contract is empty yet). weigh.longest is walked here.

end Go.Proofs.Ytfagobhhhljajaa.PWeighParts

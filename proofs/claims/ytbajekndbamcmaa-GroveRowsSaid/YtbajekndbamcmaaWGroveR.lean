/- The law of what is put in any order, by hand. No condition. -/
import Derived.Test.YtbajekndbamcmaaWGroveRP
import Derived.Test.YtbajekndbamcmaaWGrove4II
import Derived.Test.YtbajekndbamcmaaWBitLen
namespace Go.Proofs.YtbajekndbamcmaaW.GroveR
open Go.RowKit Go.Proofs.YtbajekndbamcmaaW.PrintWords Go.Proofs.YtbajekndbamcmaaW.PrintLast Go.Proofs.YtbajekndbamcmaaW.PrintMore Go.Proofs.YtbajekndbamcmaaW.PrintReg Go.Proofs.YtbajekndbamcmaaW.PrintTree Go.Proofs.YtbajekndbamcmaaW.GroveA
set_option linter.unusedVariables false
set_option linter.unusedSimpArgs false
theorem ent1 (args : Array Value) (W : World) : (callFunc 40 args).run Try.prog W = .ok (.enter 40 args) W := ent_of Try.func40 (by decide) rfl args W
theorem ent2 (args : Array Value) (W : World) : (callFunc 41 args).run Try.prog W = .ok (.enter 41 args) W := ent_of Try.func41 (by decide) rfl args W
set_option maxHeartbeats 4000000 in
theorem cmpR (x y : Int) (W : World) (hx : Few x) (hy : Few y) : Calls Try.prog 40 #[GroveII.kv x, GroveII.kv y] W fun e w' => e = .returned (.int .i64 (sub x y)) ∧ Below W.heap.size W w' := by
  have hw : IntKind.i64.wrap (x - y) = x - y := by rw [i64_w]; unfold Few at *; unfold wrap64; omega
  go_enter Try.func40, Try.ntmps40
  go_wp2
  go_ret
  exact ⟨rfl, Below.refl _ _⟩
theorem f_at (f : Nat) (h : f ≤ 65535) : wrap64 (f : Int) = (f : Int) := by unfold wrap64; omega
theorem a_at (f : Nat) (h : f ≤ 65535) : (f : Int).tmod 1024 = ((f % 1024 : Nat) : Int) := by
  rw [Int.tmod_eq_emod_of_nonneg (by omega)]
  omega
/-- Five cells. -/
structure Five (g12 g13 g14 b8 b10 : Nat) (A s : Int) (σ : Int × Int) (W : World) : Prop where
  h12 : W.heap[g12]? = some (.cells #[.int .i64 σ.1] 3 (0, 0))
  h13 : W.heap[g13]? = some (.cells #[.int .i64 σ.2] 3 (0, 0))
  h14 : W.heap[g14]? = some (.cells #[.int .i64 A] 3 (0, 0))
  h8 : W.heap[b8]? = some (.cells #[.int .i64 s] 3 (0, 0))
  h10 : W.heap[b10]? = some (.cells #[.int .i64 1024] 3 (0, 0))
set_option maxHeartbeats 4000000 in
set_option maxRecDepth 100000 in
theorem see_calls (g12 g13 g14 b8 b10 : Nat) (A s : Int) (ne : g12 ≠ g13 ∧ (g14 ≠ g12 ∧ g14 ≠ g13) ∧ (b8 ≠ g12 ∧ b8 ≠ g13) ∧ b10 ≠ g12 ∧ b10 ≠ g13) (σ : Int × Int) (x v : Int) (W : World) (h : Five g12 g13 g14 b8 b10 A s σ W) :
    Calls Try.prog 41 #[.int .i64 x, .int .i64 v, .pointer (some ⟨g12, 0, none⟩), .pointer (some ⟨g14, 0, none⟩), .pointer (some ⟨b8, 0, none⟩), .pointer (some ⟨b10, 0, none⟩), .pointer (some ⟨g13, 0, none⟩)] W fun e w' => e = .returned (.bool (seeR A s σ x v).2) ∧ Five g12 g13 g14 b8 b10 A s (seeR A s σ x v).1 w' ∧ On (fun q => q = g12 ∨ q = g13) W w' := by
  obtain ⟨la, many⟩ := σ
  have c12 : W.cell? ⟨g12, 0, none⟩ = some (.int .i64 la) := (blk_cell h.h12 0).trans rfl
  have c13 : W.cell? ⟨g13, 0, none⟩ = some (.int .i64 many) := (blk_cell h.h13 0).trans rfl
  have c14 : W.cell? ⟨g14, 0, none⟩ = some (.int .i64 A) := (blk_cell h.h14 0).trans rfl
  have c8 : W.cell? ⟨b8, 0, none⟩ = some (.int .i64 s) := (blk_cell h.h8 0).trans rfl
  have c10 : W.cell? ⟨b10, 0, none⟩ = some (.int .i64 1024) := (blk_cell h.h10 0).trans rfl
  have HH := Aside0.mk h
  have NE := Aside0.mk ne
  by_cases bad : x ≤ la ∨ x < A ∨ x ≠ (wrap64 (v * s)).tmod 1024
  · have f13 := blk_frozen h.h13 0
    have k13 : (W.setCell ⟨g13, 0, none⟩ (.int .i64 (-10000))).heap[g13]? = some (.cells #[.int .i64 (-10000)] 3 (0, 0)) := blk_put h.h13 0 _ rfl
    have k12 : (W.setCell ⟨g13, 0, none⟩ (.int .i64 (-10000))).heap[g12]? = some (.cells #[.int .i64 la] 3 (0, 0)) := blk_far h.h12 (p := ⟨g13, 0, none⟩) ne.1 _
    have f12 := blk_frozen k12 0
    have d12 : (W.setCell ⟨g13, 0, none⟩ (.int .i64 (-10000))).cell? ⟨g12, 0, none⟩ = some (.int .i64 la) := (blk_cell k12 0).trans rfl
    have m12 : ((W.setCell ⟨g13, 0, none⟩ (.int .i64 (-10000))).setCell ⟨g12, 0, none⟩ (.int .i64 x)).heap[g12]? = some (.cells #[.int .i64 x] 3 (0, 0)) := blk_put k12 0 _ rfl
    have m13 : ((W.setCell ⟨g13, 0, none⟩ (.int .i64 (-10000))).setCell ⟨g12, 0, none⟩ (.int .i64 x)).heap[g13]? = some (.cells #[.int .i64 (-10000)] 3 (0, 0)) := blk_far k13 (p := ⟨g12, 0, none⟩) ne.1.symm _
    have d13 : ((W.setCell ⟨g13, 0, none⟩ (.int .i64 (-10000))).setCell ⟨g12, 0, none⟩ (.int .i64 x)).cell? ⟨g13, 0, none⟩ = some (.int .i64 (-10000)) := (blk_cell m13 0).trans rfl
    have g13' := blk_frozen m13 0
    have o3 : On (fun q => q = g12 ∨ q = g13) W (((W.setCell ⟨g13, 0, none⟩ (.int .i64 (-10000))).setCell ⟨g12, 0, none⟩ (.int .i64 x)).setCell ⟨g13, 0, none⟩ (.int .i64 (-9999))) := On.set (On.set (On.set (On.refl _ _) (p := ⟨g13, 0, none⟩) (.inr rfl) _) (p := ⟨g12, 0, none⟩) (.inl rfl) _) (p := ⟨g13, 0, none⟩) (.inr rfl) _
    have e : seeR A s (la, many) x v = ((x, -9999), true) := by unfold seeR; rw [if_pos bad, show wrap64 (-10000 + 1) = -9999 by unfold wrap64; omega]
    have F : Five g12 g13 g14 b8 b10 A s (x, -9999) (((W.setCell ⟨g13, 0, none⟩ (.int .i64 (-10000))).setCell ⟨g12, 0, none⟩ (.int .i64 x)).setCell ⟨g13, 0, none⟩ (.int .i64 (-9999))) :=
      ⟨blk_far m12 (p := ⟨g13, 0, none⟩) ne.1 _, blk_put m13 0 _ rfl, o3.blk h.h14 (by have := ne; omega), o3.blk h.h8 (by have := ne; omega), o3.blk h.h10 (by have := ne; omega)⟩
    have R := Aside0.mk (And.intro F o3)
    rw [e]
    clear h k13 k12 m12 m13 o3 F e ne
    have BAD := Aside0.mk bad
    clear bad
    by_cases c1 : x ≤ la
    · have c1t : (x ≤ la) = True := eq_true c1
      go_enter Try.func41, Try.ntmps41
      go_wp2
      go_ret
      exact ⟨rfl, R.out⟩
    · have c1f : (x ≤ la) = False := eq_false c1
      by_cases c2 : x < A
      · have c2t : (x < A) = True := eq_true c2
        go_enter Try.func41, Try.ntmps41
        go_wp2
        go_ret
        exact ⟨rfl, R.out⟩
      · have c2f : (x < A) = False := eq_false c2
        have c3 : (x != (wrap64 (v * s)).tmod 1024) = true := by
          rcases BAD.out with h | h | h
          · exact absurd h c1
          · exact absurd h c2
          · exact bne_iff_ne.2 h
        go_enter Try.func41, Try.ntmps41
        go_wp2
        go_ret
        exact ⟨rfl, R.out⟩
  · have f12 := blk_frozen h.h12 0
    have m12 : (W.setCell ⟨g12, 0, none⟩ (.int .i64 x)).heap[g12]? = some (.cells #[.int .i64 x] 3 (0, 0)) := blk_put h.h12 0 _ rfl
    have m13 : (W.setCell ⟨g12, 0, none⟩ (.int .i64 x)).heap[g13]? = some (.cells #[.int .i64 many] 3 (0, 0)) := blk_far h.h13 (p := ⟨g12, 0, none⟩) ne.1.symm _
    have d13 : (W.setCell ⟨g12, 0, none⟩ (.int .i64 x)).cell? ⟨g13, 0, none⟩ = some (.int .i64 many) := (blk_cell m13 0).trans rfl
    have g13' := blk_frozen m13 0
    have o3 : On (fun q => q = g12 ∨ q = g13) W ((W.setCell ⟨g12, 0, none⟩ (.int .i64 x)).setCell ⟨g13, 0, none⟩ (.int .i64 (wrap64 (many + 1)))) := On.set (On.set (On.refl _ _) (p := ⟨g12, 0, none⟩) (.inl rfl) _) (p := ⟨g13, 0, none⟩) (.inr rfl) _
    have e : seeR A s (la, many) x v = ((x, wrap64 (many + 1)), true) := by unfold seeR; rw [if_neg bad]
    have F : Five g12 g13 g14 b8 b10 A s (x, wrap64 (many + 1)) ((W.setCell ⟨g12, 0, none⟩ (.int .i64 x)).setCell ⟨g13, 0, none⟩ (.int .i64 (wrap64 (many + 1)))) :=
      ⟨blk_far m12 (p := ⟨g13, 0, none⟩) ne.1 _, blk_put m13 0 _ rfl, o3.blk h.h14 (by have := ne; omega), o3.blk h.h8 (by have := ne; omega), o3.blk h.h10 (by have := ne; omega)⟩
    have R := Aside0.mk (And.intro F o3)
    rw [e]
    have c1f : (x ≤ la) = False := eq_false (fun h => bad (.inl h))
    have c2f : (x < A) = False := eq_false (fun h => bad (.inr (.inl h)))
    have c3 : (x != (wrap64 (v * s)).tmod 1024) = false := by
      rw [bne_eq_false_iff_eq]
      exact Classical.byContradiction fun h => bad (.inr (.inr h))
    clear h m12 m13 o3 F e ne bad
    go_enter Try.func41, Try.ntmps41
    go_wp2
    go_ret
    exact ⟨rfl, R.out⟩
theorem p_at (p : Nat) (h : p ≤ 600 * 127) : wrap64 (p : Int) = (p : Int) := by unfold wrap64; omega
theorem x_at (p : Nat) : (p : Int).tmod 1024 = ((p % 1024 : Nat) : Int) := by
  rw [Int.tmod_eq_emod_of_nonneg (by omega)]
  omega
theorem j_at (j : Nat) (h : j ≤ 1000) : wrap64 ((j : Int) + 1) = ((j + 1 : Nat) : Int) := by unfold wrap64; omega
theorem i_at (i m : Nat) (hi : i = 2 * m) (h : i ≤ 1000) : wrap64 ((i : Int) + 2) = ((2 * (m + 1) : Nat) : Int) := by unfold wrap64; omega
theorem u_at (k : Nat) (h : k ≤ 1000) : (k : Int) % 18446744073709551616 = (k : Int) := by omega
theorem half_at (k : Nat) (h : k ≤ 1000) : wrap64 ((k : Int) / 2) = ((k / 2 : Nat) : Int) := by unfold wrap64; omega
theorem k_bound (n : Nat) : 1 ≤ 1 + n % 600 ∧ 1 + n % 600 ≤ 600 := by omega
theorem s_bound (n : Nat) : 1 + 2 * (n % 64) ≤ 127 := by omega
set_option maxHeartbeats 4000000 in
set_option maxRecDepth 1000000 in
theorem rows_calls (n step frm : Nat) (hn : n ≤ 65535) (hs : step ≤ 255) (hm : frm ≤ 65535) (w : World) : Calls Try.prog 9 #[.int .u16 (n : Int), .int .u8 (step : Int), .int .u16 (frm : Int)] w fun e w' => e = .returned (.bool true) ∧ Below w.heap.size w w' := by
  obtain ⟨K, hK⟩ : ∃ K : Nat, K = 1 + n % 600 := ⟨_, rfl⟩
  obtain ⟨t, ht256, ht⟩ := odd_inv (step % 64) (by omega)
  obtain ⟨s, hss⟩ : ∃ s : Nat, s = 1 + 2 * (step % 64) := ⟨_, rfl⟩
  rw [← hss] at ht
  have HT := Aside0.mk ht
  have hS : (1 + 2 * ((step : Int) % 64)) = (s : Int) := by omega
  have hk : wrap64 (1 + (wrap64 (n : Int)).tmod 600) = (K : Int) := by
    rw [show wrap64 (n : Int) = (n : Int) by unfold wrap64; omega, Int.tmod_eq_emod_of_nonneg (by omega)]
    unfold wrap64; omega
  have HS : Aside0 (s ≤ 127) := ⟨by rw [hss]; exact s_bound step⟩
  have HK : Aside0 (1 ≤ K ∧ K ≤ 600) := ⟨by rw [hK]; exact k_bound n⟩
  have HF := Aside0.mk hm
  clear hn hs hm hK ht256 ht hss
  go_enter Try.func9, Try.ntmps9
  go_wp2_with fail
  refine (awake_calls w).mono ?_
  rintro e w1 ⟨rfl, hb⟩
  have B1 := Aside0.mk hb
  clear hb
  go_wp2_with fail
  try rw [hS]
  try rw [hk]
  clear hS hk
  obtain ⟨w2, hw2⟩ : ∃ W, W = w1.alloc (Obj.cells #[.int .i64 (s : Int)] 3) := ⟨_, rfl⟩
  have h2 : w2.heap[w1.heap.size]? = some (.cells #[.int .i64 (s : Int)] 3 (0, 0)) := by rw [hw2]; exact blk_new _ _
  have hb2 : Below w1.heap.size w1 w2 := by rw [hw2]; exact below_alloc (Below.refl _ _) _
  rw [← hw2]
  have H2 := Aside0.mk h2
  have B2 := Aside0.mk (below_step B1.out hb2)
  clear hw2 h2 hb2
  refine (GroveII.New_calls sub Few 40 (fun q => q < w2.heap.size) w2 (fun _ h => h)).mono ?_
  rintro e w3 ⟨rfl, hg, hb⟩
  have G3 := Aside0.mk hg
  have B3 := Aside0.mk (below_step B2.out hb)
  have H3 := Aside0.mk (blk_below H2.out hb)
  have S3 := Aside0.mk hb.size
  have hnq := fun wx => run_eql_ptr_nil (P := Try.prog) wx 63 100 ⟨w2.heap.size, 0, none⟩ Try.underlying63
  clear hg hb
  go_wp2_with fail
  clear hnq
  obtain ⟨w4, hw4⟩ : ∃ W, W = w3.alloc (Obj.cells #[.int .i64 1024] 3) := ⟨_, rfl⟩
  have h4 : w4.heap[w3.heap.size]? = some (.cells #[.int .i64 1024] 3 (0, 0)) := by rw [hw4]; exact blk_new _ _
  have hb4 : Below w3.heap.size w3 w4 := by rw [hw4]; exact below_alloc (Below.refl _ _) _
  rw [← hw4]
  have G4 := Aside0.mk ((G3.out.more (av' := fun q => q < w2.heap.size ∨ q = w3.heap.size) (fun q h => h.elim .inl (fun e => .inr (by omega)))).below hb4)
  have H4 := Aside0.mk (And.intro (blk_below H3.out hb4) h4)
  have B4 := Aside0.mk (below_step B3.out hb4)
  have S4 : Aside0 (w3.heap.size < w4.heap.size ∧ w1.heap.size < w2.heap.size) := ⟨⟨blk_lt h4, blk_lt H2.out⟩⟩
  clear hw4 h4 hb4
  go_loopw [11] (fun i wr => ∃ j : Nat, j ≤ K ∧ i = .int .i64 (j : Int) ∧ Aside0 (GroveII.Grv sub Few w2.heap.size 40 (fun q => q < w2.heap.size ∨ q = w3.heap.size) (rows (val t) (put_ t j)) wr) ∧ Aside0 (On (fun q => ¬ (q < w2.heap.size ∨ q = w3.heap.size)) w4 wr)) (fun i _ => K - (intOf i).toNat)
  case atStart => exact ⟨0, Nat.zero_le _, rfl, by rw [show put_ t 0 = [] from these_nil _ _ (fun q _ => by simp)]; exact G4, ⟨On.refl _ _⟩⟩
  case round =>
    obtain ⟨j, hj, rfl, HG, HO⟩ := hrel
    by_cases hlt : j < K
    · have hc1 : ((j : Int) < (K : Int)) = True := eq_true (by omega)
      have hc1n : (j < K) = True := eq_true (by omega)
      have hj6 : j < 600 := by have := HK.out.2; omega
      obtain ⟨x, hx⟩ : ∃ x : Nat, x = j * s % 1024 := ⟨_, rfl⟩
      have hkx := key_at j s (by omega) (by have := HS.out; omega)
      rw [← hx] at hkx
      have hpn := put_next (s := s) (t := t) (j := j) HT.out (by omega)
      rw [← hx] at hpn
      have hx1 : x < 1024 := by rw [hx]; exact Nat.mod_lt _ (by omega)
      have ck8 : wr.cell? ⟨w1.heap.size, 0, none⟩ = some (.int .i64 (s : Int)) := (blk_cell (HO.out.blk H4.out.1 (fun h => h (.inl S4.out.2))) 0).trans rfl
      have ck10 : wr.cell? ⟨w3.heap.size, 0, none⟩ = some (.int .i64 1024) := (blk_cell (HO.out.blk H4.out.2 (fun h => h (.inr rfl))) 0).trans rfl
      have HLT := Aside0.mk hlt
      have HPN := Aside0.mk hpn
      have HX := Aside0.mk (And.intro hx1 hj6)
      clear hj hlt hpn hx hx1 hj6
      go_wp2_with fail
      try rw [hkx]
      refine (GroveII.Put_calls 40 ent1 sub Few cmpR ordr_sub w2.heap.size (fun q => q < w2.heap.size ∨ q = w3.heap.size) _ (x : Int) (j : Int) (by have := HX.out.1; unfold Few; omega) wr HG.out (fun q h => h.elim (fun h => by have := S3.out; have := S4.out.1; have := HO.out.size; omega) (fun h => by have := S4.out.1; have := HO.out.size; omega)) (by rw [rows_len, put_len HT.out j (by have := HX.out.2; omega)]; have := HX.out.2; omega)).mono ?_
      rintro e w5 ⟨rfl, hg, ho⟩
      rw [HPN.out] at hg ⊢
      have G5 := Aside0.mk hg
      have O5 := Aside0.mk (HO.out.trans ho)
      have hw : wrap64 ((j : Int) + 1) = ((j + 1 : Nat) : Int) := by have := HX.out.2; unfold wrap64; omega
      have HW := Aside0.mk hw
      clear hg ho HG hw ck8 ck10 hkx
      go_wp2_with fail
      go_roundw
      case rel => exact ⟨j + 1, HLT.out, by rw [HW.out], G5, O5⟩
      case measure => have := HLT.out; rw [HW.out]; simp only [intOf]; omega
    · have hc1 : ((K : Int) < (K : Int)) = False := eq_false (by omega)
      have hc1n : (K < K) = False := eq_false (by omega)
      obtain rfl : K = j := by omega
      clear hlt hj
      obtain ⟨A, hA⟩ : ∃ A : Nat, A = frm % 1024 := ⟨_, rfl⟩
      have HFW : Aside0 (IntKind.i64.wrap (frm : Int) = (frm : Int)) := ⟨by rw [i64_w]; exact f_at frm HF.out⟩
      have HA : Aside0 ((frm : Int).tmod 1024 = (A : Int)) := ⟨by rw [hA]; exact a_at frm HF.out⟩
      have HA1 : Aside0 (A < 1024) := ⟨by rw [hA]; exact Nat.mod_lt _ (by omega)⟩
      have C10 : Aside0 (wr.cell? ⟨w3.heap.size, 0, none⟩ = some (.int .i64 1024)) := ⟨(blk_cell (HO.out.blk H4.out.2 (fun h => h (.inr rfl))) 0).trans rfl⟩
      have H10 := Aside0.mk (HO.out.blk H4.out.2 (fun h => h (.inr rfl)))
      have H8 := Aside0.mk (HO.out.blk H4.out.1 (fun h => h (.inl S4.out.2)))
      clear hA hc1 hc1n
      go_wp2_with fail
      refine wp_region_steps 10 rfl rfl (by kernel_rfl) (fun LL a wx => ∃ g12 : Nat, ∃ g13 : Nat, ∃ g14 : Nat, ∃ y : Nat → Value, Aside0 (a = { tmps := List.toArray (.int .u16 (n : Int) :: .int .u8 (step : Int) :: .int .u16 (frm : Int) :: undef :: undef :: undef :: u6 :: .int .i64 (K : Int) :: .pointer (some ⟨w1.heap.size, 0, none⟩) :: .pointer (some ⟨w2.heap.size, 0, none⟩) :: .pointer (some ⟨w3.heap.size, 0, none⟩) :: .int .i64 (K : Int) :: y 12 :: y 13 :: y 14 :: undef :: undef :: undef :: undef :: undef :: undef :: undef :: .bool true :: .bool false :: .int .u16 (n : Int) :: .int .i64 (wrap64 (n : Int)) :: .int .i64 ((wrap64 (n : Int)).tmod 600) :: .int .i64 (K : Int) :: .int .u8 (step : Int) :: .int .u8 ((step : Int) % 64) :: .int .i64 ((step : Int) % 64) :: .int .i64 (2 * ((step : Int) % 64)) :: .int .i64 (s : Int) :: .pointer (some ⟨w2.heap.size, 0, none⟩) :: .pointer (some ⟨w2.heap.size, 0, none⟩) :: .bool false :: .int .i64 (K : Int) :: .int .i64 (K : Int) :: .bool false :: u39 :: u40 :: u41 :: u42 :: u43 :: u44 :: u45 :: u46 :: u47 :: u48 :: y 49 :: y 50 :: y 51 :: y 52 :: undef :: undef :: undef :: undef :: undef :: undef :: undef :: undef :: undef :: undef :: undef :: undef :: undef :: undef :: undef :: undef :: undef :: undef :: undef :: undef :: undef :: undef :: undef :: undef :: undef :: undef :: undef :: undef :: undef :: undef :: undef :: undef :: undef :: undef :: undef :: undef :: undef :: undef :: undef :: undef :: undef :: undef :: undef :: undef :: undef :: undef :: undef :: undef :: undef :: undef :: undef :: undef :: undef :: undef :: undef :: undef :: undef :: undef :: undef :: undef :: undef :: undef :: undef :: undef :: undef :: undef :: undef :: undef :: undef :: undef :: undef :: undef :: undef :: undef :: undef :: undef :: undef :: undef :: []), defers := [] } ∧ Tab LL y [(0, 49, .int .u16 (frm : Int)), (1, 50, .int .i64 (frm : Int)), (2, 51, .int .i64 1024), (3, 52, .int .i64 (A : Int)), (4, 12, .pointer (some ⟨g12, 0, none⟩)), (5, 13, .pointer (some ⟨g13, 0, none⟩)), (6, 14, .pointer (some ⟨g14, 0, none⟩))] ∧ Aside0 (Below wr.heap.size wr wx) ∧ Aside0 (LL 4 = true → RowAt wr.heap.size wx g12 (LL 7) #[.int .i64 (-1)] #[.int .i64 0] 3) ∧ Aside0 (LL 5 = true → RowAt wr.heap.size wx g13 (LL 8) #[.int .i64 0] #[.int .i64 0] 3) ∧ Aside0 (LL 6 = true → RowAt wr.heap.size wx g14 (LL 9) #[.int .i64 (A : Int)] #[.int .i64 0] 3) ∧ Aside0 ((LL 7 = true → LL 4 = true) ∧ (LL 8 = true → LL 5 = true) ∧ (LL 9 = true → LL 6 = true)) ∧ Aside0 ((LL 4 = true → LL 5 = true → g12 ≠ g13) ∧ (LL 4 = true → LL 6 = true → g12 ≠ g14) ∧ (LL 5 = true → LL 6 = true → g13 ≠ g14)))) ?_ ?_ ?_
      · exact ⟨0, 0, 0, fun _ => undef, ⟨rfl, Tab.start 10 rfl rfl, ⟨below_drew (Below.refl _ _)⟩, ⟨fun h => absurd h (by decide)⟩, ⟨fun h => absurd h (by decide)⟩, ⟨fun h => absurd h (by decide)⟩, ⟨⟨fun h => absurd h (by decide), fun h => absurd h (by decide), fun h => absurd h (by decide)⟩⟩, ⟨⟨fun h => absurd h (by decide), fun h => absurd h (by decide), fun h => absurd h (by decide)⟩⟩⟩⟩
      · refine Steps.cons ?_ (Steps.cons ?_ (Steps.cons ?_ (Steps.cons ?_ (Steps.cons ?_ (Steps.cons ?_ (Steps.cons ?_ (Steps.cons ?_ (Steps.cons ?_ (Steps.cons ?_ (Steps.nil))))))))))
        · intro LL a wx hI hLk hd K' hK
          obtain ⟨g12, g13, g14, y, hI⟩ := hI
          obtain rfl := hI.out.1
          rw [if_pos (by rfl)]
          go_simp
          exact hK.out _ _ ⟨g12, g13, g14, (put1 y 49 (.int .u16 (frm : Int))), ⟨rfl, hI.out.2.1.upd 0 rfl rfl rfl rfl, hI.out.2.2.1, hI.out.2.2.2.1, hI.out.2.2.2.2.1, hI.out.2.2.2.2.2.1, hI.out.2.2.2.2.2.2.1, hI.out.2.2.2.2.2.2.2⟩⟩
        · intro LL a wx hI hLk hd K' hK
          obtain ⟨g12, g13, g14, y, hI⟩ := hI
          obtain rfl := hI.out.1
          have e0 := hI.out.2.1.at 0 rfl (hd 0 rfl)
          have hw := HFW.out
          rw [if_pos (by rfl)]
          go_simp
          exact hK.out _ _ ⟨g12, g13, g14, (put1 (put1 y 49 (.int .u16 (frm : Int))) 50 (.int .i64 (frm : Int))), ⟨rfl, (hI.out.2.1.same (s := 49) (v := .int .u16 (frm : Int)) e0).upd 1 rfl rfl rfl rfl, hI.out.2.2.1, hI.out.2.2.2.1, hI.out.2.2.2.2.1, hI.out.2.2.2.2.2.1, hI.out.2.2.2.2.2.2.1, hI.out.2.2.2.2.2.2.2⟩⟩
        · intro LL a wx hI hLk hd K' hK
          obtain ⟨g12, g13, g14, y, hI⟩ := hI
          obtain rfl := hI.out.1
          have hb := hI.out.2.2.1
          have ck := cell_keep hb.out C10.out
          rw [if_pos (by rfl)]
          go_simp
          exact hK.out _ _ ⟨g12, g13, g14, (put1 y 51 (.int .i64 1024)), ⟨rfl, hI.out.2.1.upd 2 rfl rfl rfl rfl, hI.out.2.2.1, hI.out.2.2.2.1, hI.out.2.2.2.2.1, hI.out.2.2.2.2.2.1, hI.out.2.2.2.2.2.2.1, hI.out.2.2.2.2.2.2.2⟩⟩
        · intro LL a wx hI hLk hd K' hK
          obtain ⟨g12, g13, g14, y, hI⟩ := hI
          obtain rfl := hI.out.1
          have e1 := hI.out.2.1.at 1 rfl (hd 1 rfl)
          have e2 := hI.out.2.1.at 2 rfl (hd 2 rfl)
          have hA := HA.out
          rw [if_pos (by rfl)]
          go_simp
          exact hK.out _ _ ⟨g12, g13, g14, (put1 (put1 (put1 y 50 (.int .i64 (frm : Int))) 51 (.int .i64 1024)) 52 (.int .i64 (A : Int))), ⟨rfl, ((hI.out.2.1.same (s := 50) (v := .int .i64 (frm : Int)) e1).same (s := 51) (v := .int .i64 1024) e2).upd 3 rfl rfl rfl rfl, hI.out.2.2.1, hI.out.2.2.2.1, hI.out.2.2.2.2.1, hI.out.2.2.2.2.2.1, hI.out.2.2.2.2.2.2.1, hI.out.2.2.2.2.2.2.2⟩⟩
        · intro LL a wx hI hLk hd K' hK
          obtain ⟨g12, g13, g14, y, hI⟩ := hI
          obtain rfl := hI.out.1
          have hb := hI.out.2.2.1
          have h13 := hI.out.2.2.2.2.1
          have h14 := hI.out.2.2.2.2.2.1
          have hz := hI.out.2.2.2.2.2.2.1
          have hne := hI.out.2.2.2.2.2.2.2
          rw [if_pos (by rfl)]
          go_simp
          exact hK.out _ _ ⟨wx.heap.size, g13, g14, (put1 y 12 (.pointer (some ⟨wx.heap.size, 0, none⟩))), ⟨rfl, hI.out.2.1.upd 4 rfl rfl rfl rfl, ⟨below_alloc hb.out _⟩, ⟨fun _ => RowAt.new _ _ _ (flag_off hz.out.1 hLk) hb.out.size⟩, ⟨fun h => (h13.out h).alloc _⟩, ⟨fun h => (h14.out h).alloc _⟩, ⟨⟨fun _ => rfl, hz.out.2⟩⟩, ⟨⟨fun _ h => Nat.ne_of_gt (h13.out h).lt, fun _ h => Nat.ne_of_gt (h14.out h).lt, hne.out.2.2⟩⟩⟩⟩
        · intro LL a wx hI hLk hd K' hK
          obtain ⟨g12, g13, g14, y, hI⟩ := hI
          obtain rfl := hI.out.1
          have hb := hI.out.2.2.1
          have h12 := hI.out.2.2.2.1
          have h14 := hI.out.2.2.2.2.2.1
          have hz := hI.out.2.2.2.2.2.2.1
          have hne := hI.out.2.2.2.2.2.2.2
          rw [if_pos (by rfl)]
          go_simp
          exact hK.out _ _ ⟨g12, wx.heap.size, g14, (put1 y 13 (.pointer (some ⟨wx.heap.size, 0, none⟩))), ⟨rfl, hI.out.2.1.upd 5 rfl rfl rfl rfl, ⟨below_alloc hb.out _⟩, ⟨fun h => (h12.out h).alloc _⟩, ⟨fun _ => RowAt.new _ _ _ (flag_off hz.out.2.1 hLk) hb.out.size⟩, ⟨fun h => (h14.out h).alloc _⟩, ⟨⟨hz.out.1, fun _ => rfl, hz.out.2.2⟩⟩, ⟨⟨fun h _ => Nat.ne_of_lt (h12.out h).lt, hne.out.2.1, fun _ h => Nat.ne_of_gt (h14.out h).lt⟩⟩⟩⟩
        · intro LL a wx hI hLk hd K' hK
          obtain ⟨g12, g13, g14, y, hI⟩ := hI
          obtain rfl := hI.out.1
          have hb := hI.out.2.2.1
          have h12 := hI.out.2.2.2.1
          have h13 := hI.out.2.2.2.2.1
          have hz := hI.out.2.2.2.2.2.2.1
          have hne := hI.out.2.2.2.2.2.2.2
          rw [if_pos (by rfl)]
          go_simp
          exact hK.out _ _ ⟨g12, g13, wx.heap.size, (put1 y 14 (.pointer (some ⟨wx.heap.size, 0, none⟩))), ⟨rfl, hI.out.2.1.upd 6 rfl rfl rfl rfl, ⟨below_alloc hb.out _⟩, ⟨fun h => (h12.out h).alloc _⟩, ⟨fun h => (h13.out h).alloc _⟩, ⟨fun _ => RowAt.new _ _ _ (flag_off hz.out.2.2 hLk) hb.out.size⟩, ⟨⟨hz.out.1, hz.out.2.1, fun _ => rfl⟩⟩, ⟨⟨hne.out.1, fun h _ => Nat.ne_of_lt (h12.out h).lt, fun h _ => Nat.ne_of_lt (h13.out h).lt⟩⟩⟩⟩
        · intro LL a wx hI hLk hd K' hK
          obtain ⟨g12, g13, g14, y, hI⟩ := hI
          obtain rfl := hI.out.1
          have e4 := hI.out.2.1.at 4 rfl (hd 4 rfl)
          have hb := hI.out.2.2.1
          have h12 := hI.out.2.2.2.1
          have h13 := hI.out.2.2.2.2.1
          have h14 := hI.out.2.2.2.2.2.1
          have hz := hI.out.2.2.2.2.2.2.1
          have hne := hI.out.2.2.2.2.2.2.2
          have rr := h12.out (hd 4 rfl)
          have zz := rr.void hLk
          have ck : wx.cell? ⟨g12, 0, none⟩ = some (.int .i64 0) := (blk_cell zz 0).trans rfl
          have fz := blk_frozen zz 0
          rw [if_pos (by rfl)]
          go_simp
          exact hK.out _ _ ⟨g12, g13, g14, (put1 y 12 (.pointer (some ⟨g12, 0, none⟩))), ⟨rfl, (hI.out.2.1.same (s := 12) (v := .pointer (some ⟨g12, 0, none⟩)) e4).none 7 rfl, ⟨below_set hb.out rr.1⟩, ⟨fun _ => ⟨rr.1, blk_put zz 0 _ rfl⟩⟩, ⟨fun h => (h13.out h).far (p := ⟨g12, 0, none⟩) (hne.out.1 (hd 4 rfl) h) _⟩, ⟨fun h => (h14.out h).far (p := ⟨g12, 0, none⟩) (hne.out.2.1 (hd 4 rfl) h) _⟩, ⟨⟨fun _ => hd 4 rfl, hz.out.2⟩⟩, hI.out.2.2.2.2.2.2.2⟩⟩
        · intro LL a wx hI hLk hd K' hK
          obtain ⟨g12, g13, g14, y, hI⟩ := hI
          obtain rfl := hI.out.1
          have e5 := hI.out.2.1.at 5 rfl (hd 5 rfl)
          have hb := hI.out.2.2.1
          have h12 := hI.out.2.2.2.1
          have h13 := hI.out.2.2.2.2.1
          have h14 := hI.out.2.2.2.2.2.1
          have hz := hI.out.2.2.2.2.2.2.1
          have hne := hI.out.2.2.2.2.2.2.2
          have rr := h13.out (hd 5 rfl)
          have zz := rr.void hLk
          have ck : wx.cell? ⟨g13, 0, none⟩ = some (.int .i64 0) := (blk_cell zz 0).trans rfl
          have fz := blk_frozen zz 0
          rw [if_pos (by rfl)]
          go_simp
          exact hK.out _ _ ⟨g12, g13, g14, (put1 y 13 (.pointer (some ⟨g13, 0, none⟩))), ⟨rfl, (hI.out.2.1.same (s := 13) (v := .pointer (some ⟨g13, 0, none⟩)) e5).none 8 rfl, ⟨below_set hb.out rr.1⟩, ⟨fun h => (h12.out h).far (p := ⟨g13, 0, none⟩) ((hne.out.1 h (hd 5 rfl)).symm) _⟩, ⟨fun _ => ⟨rr.1, blk_put zz 0 _ rfl⟩⟩, ⟨fun h => (h14.out h).far (p := ⟨g13, 0, none⟩) (hne.out.2.2 (hd 5 rfl) h) _⟩, ⟨⟨hz.out.1, fun _ => hd 5 rfl, hz.out.2.2⟩⟩, hI.out.2.2.2.2.2.2.2⟩⟩
        · intro LL a wx hI hLk hd K' hK
          obtain ⟨g12, g13, g14, y, hI⟩ := hI
          obtain rfl := hI.out.1
          have e6 := hI.out.2.1.at 6 rfl (hd 6 rfl)
          have e3 := hI.out.2.1.at 3 rfl (hd 3 rfl)
          have hb := hI.out.2.2.1
          have h12 := hI.out.2.2.2.1
          have h13 := hI.out.2.2.2.2.1
          have h14 := hI.out.2.2.2.2.2.1
          have hz := hI.out.2.2.2.2.2.2.1
          have hne := hI.out.2.2.2.2.2.2.2
          have rr := h14.out (hd 6 rfl)
          have zz := rr.void hLk
          have ck : wx.cell? ⟨g14, 0, none⟩ = some (.int .i64 0) := (blk_cell zz 0).trans rfl
          have fz := blk_frozen zz 0
          rw [if_pos (by rfl)]
          go_simp
          exact hK.out _ _ ⟨g12, g13, g14, (put1 (put1 y 14 (.pointer (some ⟨g14, 0, none⟩))) 52 (.int .i64 (A : Int))), ⟨rfl, ((hI.out.2.1.same (s := 14) (v := .pointer (some ⟨g14, 0, none⟩)) e6).same (s := 52) (v := .int .i64 (A : Int)) e3).none 9 rfl, ⟨below_set hb.out rr.1⟩, ⟨fun h => (h12.out h).far (p := ⟨g14, 0, none⟩) ((hne.out.2.1 h (hd 6 rfl)).symm) _⟩, ⟨fun h => (h13.out h).far (p := ⟨g14, 0, none⟩) ((hne.out.2.2 h (hd 6 rfl)).symm) _⟩, ⟨fun _ => ⟨rr.1, blk_put zz 0 _ rfl⟩⟩, ⟨⟨hz.out.1, hz.out.2.1, fun _ => hd 6 rfl⟩⟩, hI.out.2.2.2.2.2.2.2⟩⟩
      · intro LL a wq hall hI
        obtain ⟨g12, g13, g14, y, hI⟩ := hI
        obtain rfl := hI.out.1
        have hb := hI.out.2.2.1
        have h12 := hI.out.2.2.2.1
        have h13 := hI.out.2.2.2.2.1
        have h14 := hI.out.2.2.2.2.2.1
        have hz := hI.out.2.2.2.2.2.2.1
        have hne := hI.out.2.2.2.2.2.2.2
        have e4 := hI.out.2.1.at 4 rfl (hall 4 (by decide))
        have e5 := hI.out.2.1.at 5 rfl (hall 5 (by decide))
        have e6 := hI.out.2.1.at 6 rfl (hall 6 (by decide))
        rw [e4, e5, e6]
        have R12 := Aside0.mk (And.intro (h12.out (hall 4 (by decide))).1 ((h12.out (hall 4 (by decide))).full (hall 7 (by decide))))
        have R13 := Aside0.mk (And.intro (h13.out (hall 5 (by decide))).1 ((h13.out (hall 5 (by decide))).full (hall 8 (by decide))))
        have R14 := Aside0.mk (And.intro (h14.out (hall 6 (by decide))).1 ((h14.out (hall 6 (by decide))).full (hall 9 (by decide))))
        have NE := Aside0.mk (And.intro (hne.out.1 (hall 4 (by decide)) (hall 5 (by decide))) (And.intro (hne.out.2.1 (hall 4 (by decide)) (hall 6 (by decide))) (hne.out.2.2 (hall 5 (by decide)) (hall 6 (by decide)))))
        have HB := hb
        clear hI hb h12 h13 h14 hz hne e4 e5 e6 hall
        have F0 : Aside0 (Five g12 g13 g14 w1.heap.size w3.heap.size (A : Int) (s : Int) (-1, 0) wq) := ⟨⟨R12.out.2, R13.out.2, R14.out.2, blk_below H8.out HB.out, blk_below H10.out HB.out⟩⟩
        have SZ : Aside0 (w1.heap.size < wr.heap.size ∧ w3.heap.size < wr.heap.size ∧ w2.heap.size ≤ wr.heap.size) := ⟨⟨blk_lt H8.out, blk_lt H10.out, by have := S3.out; have := S4.out.1; have := HO.out.size; omega⟩⟩
        have Gq := Aside0.mk ((HG.out.more (av' := fun q => q < w2.heap.size ∨ q = w3.heap.size ∨ q = g12 ∨ q = g13 ∨ q = g14) (fun q h => by
          have := R12.out.1; have := R13.out.1; have := R14.out.1
          rcases h with h | h | h | h | h
          · exact .inl (.inl h)
          · exact .inl (.inr h)
          · right; omega
          · right; omega
          · right; omega)).below HB.out)
        have Oq := Aside0.mk (HO.out.trans (On.of_below HB.out))
        have NF : Aside0 (g12 ≠ g13 ∧ (g14 ≠ g12 ∧ g14 ≠ g13) ∧ (w1.heap.size ≠ g12 ∧ w1.heap.size ≠ g13) ∧ w3.heap.size ≠ g12 ∧ w3.heap.size ≠ g13) := ⟨by have := R12.out.1; have := R13.out.1; have := SZ.out; have := NE.out; omega⟩
        have ck14 : wq.cell? ⟨g14, 0, none⟩ = some (.int .i64 (A : Int)) := (blk_cell R14.out.2 0).trans rfl
        have HQ := Aside0.mk HB.out.size
        clear HG HO
        go_wp2_with fail
        clear ck14
        refine (GroveII.Walk_calls 40 ent1 sub Few cmpR ordr_sub w2.heap.size (fun q => q < w2.heap.size ∨ q = w3.heap.size ∨ q = g12 ∨ q = g13 ∨ q = g14) (fun q => q = g12 ∨ q = g13) (fun q h => h.elim (fun h => .inr (.inr (.inl h))) (fun h => .inr (.inr (.inr (.inl h))))) _ (A : Int) (by have := HA1.out; unfold Few; omega) 41 ent2 #[.pointer (some ⟨g12, 0, none⟩), .pointer (some ⟨g14, 0, none⟩), .pointer (some ⟨w1.heap.size, 0, none⟩), .pointer (some ⟨w3.heap.size, 0, none⟩), .pointer (some ⟨g13, 0, none⟩)]
          (fun σ W => Five g12 g13 g14 w1.heap.size w3.heap.size (A : Int) (s : Int) σ W) (seeR (A : Int) (s : Int)) (fun _ _ => True) (fun _ => 0) 600 (fun _ _ _ _ => by omega)
          (fun σ W W' h hb => ⟨blk_below h.h12 hb, blk_below h.h13 hb, blk_below h.h14 hb, blk_below h.h8 hb, blk_below h.h10 hb⟩)
          (fun σ k v W _ _ h => see_calls g12 g13 g14 _ _ _ _ NF.out σ k v W h) (fun _ _ => trivial) (-1, 0) (by rw [rows_len, put_len HT.out K (by have := HK.out.2; omega)]; have := HK.out.2; omega) wq Gq.out F0.out).mono ?_
        rintro e w5 ⟨rfl, h5, hg5, ho5⟩
        rw [from_rows] at h5
        have hfl := from_len (a := A) HT.out K (by have := HK.out.2; omega)
        have hcl := cnt_le s A K
        have hk6 := HK.out.2
        obtain ⟨la', hgo⟩ := goL_rows HT.out (by have := HS.out; omega) (A : Int) (these 1024 (fun q => decide (q * t % 1024 < K) && decide (A ≤ q))) (-1) 0 (these_asc _ _) (fun q hq => by
          have h1 := List.mem_filter.1 hq
          have h2 := List.mem_range.1 h1.1
          have h3 := h1.2
          rw [Bool.and_eq_true] at h3
          have h4 := of_decide_eq_true h3.2
          exact ⟨by omega, by omega, h2⟩) (by omega) (by rw [hfl]; omega)
        rw [hgo, hfl, Int.zero_add] at h5
        have F5 := Aside0.mk h5
        have G5 := Aside0.mk hg5
        have O5 := Aside0.mk (Oq.out.then ho5 (fun q h => by
          have := R12.out.1; have := R13.out.1; have := SZ.out; have := HQ.out
          rcases h with h | h
          · left; omega
          · left; omega))
        clear h5 hg5 ho5 hfl hcl hk6 hgo F0 Gq
        go_wp2_with fail
        go_loopw [15, 16] (fun wt i wr => ∃ j : Nat, j ≤ K ∧ i = .int .i64 (j : Int) ∧ wt = .int .i64 (cnt s A j : Int) ∧ Aside0 (Below w5.heap.size w5 wr)) (fun _ i _ => K - (intOf i).toNat)
        case atStart => exact ⟨0, Nat.zero_le _, rfl, rfl, ⟨Below.refl _ _⟩⟩
        case round =>
          obtain ⟨j, hj, rfl, rfl, HB5⟩ := hrel
          by_cases hlt : j < K
          · have hc1 : ((j : Int) < (K : Int)) = True := eq_true (by omega)
            have hc1n : (j < K) = True := eq_true (by omega)
            have HLT := Aside0.mk hlt
            clear hlt hj
            obtain ⟨p, hp⟩ : ∃ p : Nat, p = j * s := ⟨_, rfl⟩
            obtain ⟨x, hx⟩ : ∃ x : Nat, x = p % 1024 := ⟨_, rfl⟩
            have hpb : p ≤ 600 * 127 := by rw [hp]; exact Nat.mul_le_mul (by have := HLT.out; have := HK.out.2; omega) HS.out
            have HPW : Aside0 (IntKind.i64.wrap ((j : Int) * (s : Int)) = (p : Int)) := ⟨by rw [i64_w, show (j : Int) * (s : Int) = ((j * s : Nat) : Int) by simp, ← hp]; exact p_at p hpb⟩
            have HXW : Aside0 ((p : Int).tmod 1024 = (x : Int)) := ⟨by rw [hx]; exact x_at p⟩
            have C8 : Aside0 (w5.cell? ⟨w1.heap.size, 0, none⟩ = some (.int .i64 (s : Int))) := ⟨(blk_cell F5.out.h8 0).trans rfl⟩
            have CX : Aside0 (w5.cell? ⟨w3.heap.size, 0, none⟩ = some (.int .i64 1024)) := ⟨(blk_cell F5.out.h10 0).trans rfl⟩
            have C14 : Aside0 (w5.cell? ⟨g14, 0, none⟩ = some (.int .i64 (A : Int))) := ⟨(blk_cell F5.out.h14 0).trans rfl⟩
            have HC : Aside0 (cnt s A (j + 1) = cnt s A j + if A ≤ x then 1 else 0) := ⟨by rw [hx, hp]; rfl⟩
            have HCL : Aside0 (cnt s A j ≤ j) := ⟨cnt_le s A j⟩
            have HW : Aside0 (wrap64 ((j : Int) + 1) = ((j + 1 : Nat) : Int)) := ⟨by have := HLT.out; have := HK.out.2; exact j_at j (by omega)⟩
            clear hp hx hpb
            go_wp2_with fail
            by_cases cA : A ≤ x
            · have HGE : Aside0 (((A : Int) ≤ (x : Int)) = True) := ⟨eq_true (by omega)⟩
              have HWC : Aside0 (wrap64 ((cnt s A j : Int) + 1) = ((cnt s A (j + 1) : Nat) : Int)) := ⟨by rw [HC.out, if_pos cA]; exact j_at _ (by have := HCL.out; have := HLT.out; have := HK.out.2; omega)⟩
              clear cA
              refine wp_region_steps 7 rfl rfl (by kernel_rfl) (fun LL a wx => ∃ z : Nat → Value, Aside0 (a = { tmps := List.toArray (.int .u16 (n : Int) :: .int .u8 (step : Int) :: .int .u16 (frm : Int) :: undef :: undef :: undef :: u6 :: .int .i64 (K : Int) :: .pointer (some ⟨w1.heap.size, 0, none⟩) :: .pointer (some ⟨w2.heap.size, 0, none⟩) :: .pointer (some ⟨w3.heap.size, 0, none⟩) :: .int .i64 (K : Int) :: .pointer (some ⟨g12, 0, none⟩) :: .pointer (some ⟨g13, 0, none⟩) :: .pointer (some ⟨g14, 0, none⟩) :: .int .i64 ((cnt s A j : Nat) : Int) :: .int .i64 (j : Int) :: undef :: undef :: undef :: undef :: undef :: .bool true :: .bool false :: .int .u16 (n : Int) :: .int .i64 (wrap64 (n : Int)) :: .int .i64 ((wrap64 (n : Int)).tmod 600) :: .int .i64 (K : Int) :: .int .u8 (step : Int) :: .int .u8 ((step : Int) % 64) :: .int .i64 ((step : Int) % 64) :: .int .i64 (2 * ((step : Int) % 64)) :: .int .i64 (s : Int) :: .pointer (some ⟨w2.heap.size, 0, none⟩) :: .pointer (some ⟨w2.heap.size, 0, none⟩) :: .bool false :: .int .i64 (K : Int) :: .int .i64 (K : Int) :: .bool false :: u39 :: u40 :: u41 :: u42 :: u43 :: u44 :: u45 :: u46 :: u47 :: u48 :: y 49 :: y 50 :: y 51 :: y 52 :: .pointer (some ⟨w2.heap.size, 0, none⟩) :: .int .i64 (A : Int) :: .func (.func 41) #[] #[.pointer (some ⟨g12, 0, none⟩), .pointer (some ⟨g14, 0, none⟩), .pointer (some ⟨w1.heap.size, 0, none⟩), .pointer (some ⟨w3.heap.size, 0, none⟩), .pointer (some ⟨g13, 0, none⟩)] :: .tuple #[] :: .int .i64 (j : Int) :: .int .i64 (K : Int) :: .bool true :: u60 :: u61 :: z 62 :: z 63 :: z 64 :: z 65 :: z 66 :: z 67 :: z 68 :: u69 :: u70 :: undef :: undef :: undef :: undef :: undef :: undef :: undef :: undef :: undef :: undef :: undef :: undef :: undef :: undef :: undef :: undef :: undef :: undef :: undef :: undef :: undef :: undef :: undef :: undef :: undef :: undef :: undef :: undef :: undef :: undef :: undef :: undef :: undef :: undef :: undef :: undef :: undef :: undef :: undef :: undef :: undef :: undef :: undef :: undef :: undef :: undef :: undef :: undef :: undef :: undef :: undef :: undef :: undef :: undef :: undef :: undef :: undef :: undef :: undef :: undef :: []), defers := [] } ∧ Tab LL z [(0, 62, .int .i64 (j : Int)), (1, 63, .int .i64 (s : Int)), (2, 64, .int .i64 (p : Int)), (3, 65, .int .i64 1024), (4, 66, .int .i64 (x : Int)), (5, 67, .int .i64 (A : Int)), (6, 68, .bool true)] ∧ Aside0 (Below w5.heap.size w5 wx))) ?_ ?_ ?_
              · exact ⟨(put1 (put1 (put1 (put1 (put1 (put1 (put1 (fun _ => undef) 62 u62) 63 u63) 64 u64) 65 u65) 66 u66) 67 u67) 68 u68), ⟨rfl, Tab.start 7 rfl rfl, ⟨below_drew HB5.out⟩⟩⟩
              · refine Steps.cons ?_ (Steps.cons ?_ (Steps.cons ?_ (Steps.cons ?_ (Steps.cons ?_ (Steps.cons ?_ (Steps.cons ?_ (Steps.nil)))))))
                · intro LL a wx hI hLk hd K' hK
                  obtain ⟨z, hI⟩ := hI
                  obtain rfl := hI.out.1
                  rw [if_pos (by rfl)]
                  go_simp
                  exact hK.out _ _ ⟨(put1 z 62 (.int .i64 (j : Int))), ⟨rfl, hI.out.2.1.upd 0 rfl rfl rfl rfl, hI.out.2.2⟩⟩
                · intro LL a wx hI hLk hd K' hK
                  obtain ⟨z, hI⟩ := hI
                  obtain rfl := hI.out.1
                  have hb := hI.out.2.2
                  have ck := cell_keep hb.out C8.out
                  rw [if_pos (by rfl)]
                  go_simp
                  exact hK.out _ _ ⟨(put1 z 63 (.int .i64 (s : Int))), ⟨rfl, hI.out.2.1.upd 1 rfl rfl rfl rfl, hI.out.2.2⟩⟩
                · intro LL a wx hI hLk hd K' hK
                  obtain ⟨z, hI⟩ := hI
                  obtain rfl := hI.out.1
                  have e0 := hI.out.2.1.at 0 rfl (hd 0 rfl)
                  have e1 := hI.out.2.1.at 1 rfl (hd 1 rfl)
                  have hw := HPW.out
                  rw [if_pos (by rfl)]
                  go_simp
                  exact hK.out _ _ ⟨(put1 (put1 (put1 z 62 (.int .i64 (j : Int))) 63 (.int .i64 (s : Int))) 64 (.int .i64 (p : Int))), ⟨rfl, ((hI.out.2.1.same (s := 62) (v := .int .i64 (j : Int)) e0).same (s := 63) (v := .int .i64 (s : Int)) e1).upd 2 rfl rfl rfl rfl, hI.out.2.2⟩⟩
                · intro LL a wx hI hLk hd K' hK
                  obtain ⟨z, hI⟩ := hI
                  obtain rfl := hI.out.1
                  have hb := hI.out.2.2
                  have ck := cell_keep hb.out CX.out
                  rw [if_pos (by rfl)]
                  go_simp
                  exact hK.out _ _ ⟨(put1 z 65 (.int .i64 1024)), ⟨rfl, hI.out.2.1.upd 3 rfl rfl rfl rfl, hI.out.2.2⟩⟩
                · intro LL a wx hI hLk hd K' hK
                  obtain ⟨z, hI⟩ := hI
                  obtain rfl := hI.out.1
                  have e2 := hI.out.2.1.at 2 rfl (hd 2 rfl)
                  have e3 := hI.out.2.1.at 3 rfl (hd 3 rfl)
                  have hw := HXW.out
                  rw [if_pos (by rfl)]
                  go_simp
                  exact hK.out _ _ ⟨(put1 (put1 (put1 z 64 (.int .i64 (p : Int))) 65 (.int .i64 1024)) 66 (.int .i64 (x : Int))), ⟨rfl, ((hI.out.2.1.same (s := 64) (v := .int .i64 (p : Int)) e2).same (s := 65) (v := .int .i64 1024) e3).upd 4 rfl rfl rfl rfl, hI.out.2.2⟩⟩
                · intro LL a wx hI hLk hd K' hK
                  obtain ⟨z, hI⟩ := hI
                  obtain rfl := hI.out.1
                  have hb := hI.out.2.2
                  have ck := cell_keep hb.out C14.out
                  rw [if_pos (by rfl)]
                  go_simp
                  exact hK.out _ _ ⟨(put1 z 67 (.int .i64 (A : Int))), ⟨rfl, hI.out.2.1.upd 5 rfl rfl rfl rfl, hI.out.2.2⟩⟩
                · intro LL a wx hI hLk hd K' hK
                  obtain ⟨z, hI⟩ := hI
                  obtain rfl := hI.out.1
                  have e4 := hI.out.2.1.at 4 rfl (hd 4 rfl)
                  have e5 := hI.out.2.1.at 5 rfl (hd 5 rfl)
                  have hw := HGE.out
                  rw [if_pos (by rfl)]
                  go_simp
                  exact hK.out _ _ ⟨(put1 (put1 (put1 z 66 (.int .i64 (x : Int))) 67 (.int .i64 (A : Int))) 68 (.bool true)), ⟨rfl, ((hI.out.2.1.same (s := 66) (v := .int .i64 (x : Int)) e4).same (s := 67) (v := .int .i64 (A : Int)) e5).upd 6 rfl rfl rfl rfl, hI.out.2.2⟩⟩
              · intro LL a wq2 hall hI
                obtain ⟨z, hI⟩ := hI
                obtain rfl := hI.out.1
                have hb := hI.out.2.2
                have e6 := hI.out.2.1.at 6 rfl (hall 6 (by decide))
                rw [e6]
                have HB6 := hb
                clear hI hb e6 hall
                go_wp2_with fail
                refine ⟨?_, ?measure⟩
                refine ⟨_, _, _, _, _, _, _, _, _, _, _, _, _, _, _, _, ?rel, rfl⟩
                case rel => exact ⟨j + 1, HLT.out, by rw [HW.out], by rw [HWC.out], HB6⟩
                case measure => show K - (intOf (.int .i64 (wrap64 ((j : Int) + 1)))).toNat < K - (intOf (.int .i64 (j : Int))).toNat; have := HLT.out; rw [HW.out]; simp only [intOf]; omega
            · have HGE : Aside0 (((A : Int) ≤ (x : Int)) = False) := ⟨eq_false (by omega)⟩
              have HWC : Aside0 ((cnt s A j : Int) = ((cnt s A (j + 1) : Nat) : Int)) := ⟨by rw [HC.out, if_neg cA]; rfl⟩
              clear cA
              refine wp_region_steps 7 rfl rfl (by kernel_rfl) (fun LL a wx => ∃ z : Nat → Value, Aside0 (a = { tmps := List.toArray (.int .u16 (n : Int) :: .int .u8 (step : Int) :: .int .u16 (frm : Int) :: undef :: undef :: undef :: u6 :: .int .i64 (K : Int) :: .pointer (some ⟨w1.heap.size, 0, none⟩) :: .pointer (some ⟨w2.heap.size, 0, none⟩) :: .pointer (some ⟨w3.heap.size, 0, none⟩) :: .int .i64 (K : Int) :: .pointer (some ⟨g12, 0, none⟩) :: .pointer (some ⟨g13, 0, none⟩) :: .pointer (some ⟨g14, 0, none⟩) :: .int .i64 ((cnt s A j : Nat) : Int) :: .int .i64 (j : Int) :: undef :: undef :: undef :: undef :: undef :: .bool true :: .bool false :: .int .u16 (n : Int) :: .int .i64 (wrap64 (n : Int)) :: .int .i64 ((wrap64 (n : Int)).tmod 600) :: .int .i64 (K : Int) :: .int .u8 (step : Int) :: .int .u8 ((step : Int) % 64) :: .int .i64 ((step : Int) % 64) :: .int .i64 (2 * ((step : Int) % 64)) :: .int .i64 (s : Int) :: .pointer (some ⟨w2.heap.size, 0, none⟩) :: .pointer (some ⟨w2.heap.size, 0, none⟩) :: .bool false :: .int .i64 (K : Int) :: .int .i64 (K : Int) :: .bool false :: u39 :: u40 :: u41 :: u42 :: u43 :: u44 :: u45 :: u46 :: u47 :: u48 :: y 49 :: y 50 :: y 51 :: y 52 :: .pointer (some ⟨w2.heap.size, 0, none⟩) :: .int .i64 (A : Int) :: .func (.func 41) #[] #[.pointer (some ⟨g12, 0, none⟩), .pointer (some ⟨g14, 0, none⟩), .pointer (some ⟨w1.heap.size, 0, none⟩), .pointer (some ⟨w3.heap.size, 0, none⟩), .pointer (some ⟨g13, 0, none⟩)] :: .tuple #[] :: .int .i64 (j : Int) :: .int .i64 (K : Int) :: .bool true :: u60 :: u61 :: z 62 :: z 63 :: z 64 :: z 65 :: z 66 :: z 67 :: z 68 :: u69 :: u70 :: undef :: undef :: undef :: undef :: undef :: undef :: undef :: undef :: undef :: undef :: undef :: undef :: undef :: undef :: undef :: undef :: undef :: undef :: undef :: undef :: undef :: undef :: undef :: undef :: undef :: undef :: undef :: undef :: undef :: undef :: undef :: undef :: undef :: undef :: undef :: undef :: undef :: undef :: undef :: undef :: undef :: undef :: undef :: undef :: undef :: undef :: undef :: undef :: undef :: undef :: undef :: undef :: undef :: undef :: undef :: undef :: undef :: undef :: undef :: undef :: []), defers := [] } ∧ Tab LL z [(0, 62, .int .i64 (j : Int)), (1, 63, .int .i64 (s : Int)), (2, 64, .int .i64 (p : Int)), (3, 65, .int .i64 1024), (4, 66, .int .i64 (x : Int)), (5, 67, .int .i64 (A : Int)), (6, 68, .bool false)] ∧ Aside0 (Below w5.heap.size w5 wx))) ?_ ?_ ?_
              · exact ⟨(put1 (put1 (put1 (put1 (put1 (put1 (put1 (fun _ => undef) 62 u62) 63 u63) 64 u64) 65 u65) 66 u66) 67 u67) 68 u68), ⟨rfl, Tab.start 7 rfl rfl, ⟨below_drew HB5.out⟩⟩⟩
              · refine Steps.cons ?_ (Steps.cons ?_ (Steps.cons ?_ (Steps.cons ?_ (Steps.cons ?_ (Steps.cons ?_ (Steps.cons ?_ (Steps.nil)))))))
                · intro LL a wx hI hLk hd K' hK
                  obtain ⟨z, hI⟩ := hI
                  obtain rfl := hI.out.1
                  rw [if_pos (by rfl)]
                  go_simp
                  exact hK.out _ _ ⟨(put1 z 62 (.int .i64 (j : Int))), ⟨rfl, hI.out.2.1.upd 0 rfl rfl rfl rfl, hI.out.2.2⟩⟩
                · intro LL a wx hI hLk hd K' hK
                  obtain ⟨z, hI⟩ := hI
                  obtain rfl := hI.out.1
                  have hb := hI.out.2.2
                  have ck := cell_keep hb.out C8.out
                  rw [if_pos (by rfl)]
                  go_simp
                  exact hK.out _ _ ⟨(put1 z 63 (.int .i64 (s : Int))), ⟨rfl, hI.out.2.1.upd 1 rfl rfl rfl rfl, hI.out.2.2⟩⟩
                · intro LL a wx hI hLk hd K' hK
                  obtain ⟨z, hI⟩ := hI
                  obtain rfl := hI.out.1
                  have e0 := hI.out.2.1.at 0 rfl (hd 0 rfl)
                  have e1 := hI.out.2.1.at 1 rfl (hd 1 rfl)
                  have hw := HPW.out
                  rw [if_pos (by rfl)]
                  go_simp
                  exact hK.out _ _ ⟨(put1 (put1 (put1 z 62 (.int .i64 (j : Int))) 63 (.int .i64 (s : Int))) 64 (.int .i64 (p : Int))), ⟨rfl, ((hI.out.2.1.same (s := 62) (v := .int .i64 (j : Int)) e0).same (s := 63) (v := .int .i64 (s : Int)) e1).upd 2 rfl rfl rfl rfl, hI.out.2.2⟩⟩
                · intro LL a wx hI hLk hd K' hK
                  obtain ⟨z, hI⟩ := hI
                  obtain rfl := hI.out.1
                  have hb := hI.out.2.2
                  have ck := cell_keep hb.out CX.out
                  rw [if_pos (by rfl)]
                  go_simp
                  exact hK.out _ _ ⟨(put1 z 65 (.int .i64 1024)), ⟨rfl, hI.out.2.1.upd 3 rfl rfl rfl rfl, hI.out.2.2⟩⟩
                · intro LL a wx hI hLk hd K' hK
                  obtain ⟨z, hI⟩ := hI
                  obtain rfl := hI.out.1
                  have e2 := hI.out.2.1.at 2 rfl (hd 2 rfl)
                  have e3 := hI.out.2.1.at 3 rfl (hd 3 rfl)
                  have hw := HXW.out
                  rw [if_pos (by rfl)]
                  go_simp
                  exact hK.out _ _ ⟨(put1 (put1 (put1 z 64 (.int .i64 (p : Int))) 65 (.int .i64 1024)) 66 (.int .i64 (x : Int))), ⟨rfl, ((hI.out.2.1.same (s := 64) (v := .int .i64 (p : Int)) e2).same (s := 65) (v := .int .i64 1024) e3).upd 4 rfl rfl rfl rfl, hI.out.2.2⟩⟩
                · intro LL a wx hI hLk hd K' hK
                  obtain ⟨z, hI⟩ := hI
                  obtain rfl := hI.out.1
                  have hb := hI.out.2.2
                  have ck := cell_keep hb.out C14.out
                  rw [if_pos (by rfl)]
                  go_simp
                  exact hK.out _ _ ⟨(put1 z 67 (.int .i64 (A : Int))), ⟨rfl, hI.out.2.1.upd 5 rfl rfl rfl rfl, hI.out.2.2⟩⟩
                · intro LL a wx hI hLk hd K' hK
                  obtain ⟨z, hI⟩ := hI
                  obtain rfl := hI.out.1
                  have e4 := hI.out.2.1.at 4 rfl (hd 4 rfl)
                  have e5 := hI.out.2.1.at 5 rfl (hd 5 rfl)
                  have hw := HGE.out
                  rw [if_pos (by rfl)]
                  go_simp
                  exact hK.out _ _ ⟨(put1 (put1 (put1 z 66 (.int .i64 (x : Int))) 67 (.int .i64 (A : Int))) 68 (.bool false)), ⟨rfl, ((hI.out.2.1.same (s := 66) (v := .int .i64 (x : Int)) e4).same (s := 67) (v := .int .i64 (A : Int)) e5).upd 6 rfl rfl rfl rfl, hI.out.2.2⟩⟩
              · intro LL a wq2 hall hI
                obtain ⟨z, hI⟩ := hI
                obtain rfl := hI.out.1
                have hb := hI.out.2.2
                have e6 := hI.out.2.1.at 6 rfl (hall 6 (by decide))
                rw [e6]
                have HB6 := hb
                clear hI hb e6 hall
                go_wp2_with fail
                refine ⟨?_, ?measure⟩
                refine ⟨_, _, _, _, _, _, _, _, _, _, _, _, _, _, _, _, ?rel, rfl⟩
                case rel => exact ⟨j + 1, HLT.out, by rw [HW.out], by rw [HWC.out], HB6⟩
                case measure => show K - (intOf (.int .i64 (wrap64 ((j : Int) + 1)))).toNat < K - (intOf (.int .i64 (j : Int))).toNat; have := HLT.out; rw [HW.out]; simp only [intOf]; omega
          · have hc1 : ((K : Int) < (K : Int)) = False := eq_false (by omega)
            have hc1n : (K < K) = False := eq_false (by omega)
            obtain rfl : K = j := by omega
            clear hlt hj
            obtain ⟨w6, hw6⟩ : ∃ W, W = wr := ⟨_, rfl⟩
            rw [← hw6] at HB5 ⊢
            clear hw6
            have F6 : Aside0 (Five g12 g13 g14 w1.heap.size w3.heap.size (A : Int) (s : Int) (la', (cnt s A K : Int)) w6) := ⟨⟨blk_below F5.out.h12 HB5.out, blk_below F5.out.h13 HB5.out, blk_below F5.out.h14 HB5.out, blk_below F5.out.h8 HB5.out, blk_below F5.out.h10 HB5.out⟩⟩
            have G6 := Aside0.mk (G5.out.below HB5.out)
            have O6 := Aside0.mk (O5.out.trans (On.of_below HB5.out))
            have ck13 : w6.cell? ⟨g13, 0, none⟩ = some (.int .i64 (cnt s A K : Int)) := (blk_cell F6.out.h13 0).trans rfl
            clear G5 F5 HB5
            go_wp2_with fail
            clear ck13
            refine (GroveII.Depth_calls sub Few w2.heap.size 40 _ _ w6 G6.out).mono ?_
            rintro e w7 ⟨d, rfl, ⟨_, hd, _, _⟩, hb7⟩
            rw [rows_len, put_len HT.out K (by have := HK.out.2; omega)] at hd
            have HD := Aside0.mk hd
            have F7 : Aside0 (Five g12 g13 g14 w1.heap.size w3.heap.size (A : Int) (s : Int) (la', (cnt s A K : Int)) w7) := ⟨⟨blk_below F6.out.h12 hb7, blk_below F6.out.h13 hb7, blk_below F6.out.h14 hb7, blk_below F6.out.h8 hb7, blk_below F6.out.h10 hb7⟩⟩
            have G7 := Aside0.mk (G6.out.below hb7)
            have O7 := Aside0.mk (O6.out.trans (On.of_below hb7))
            have hmc : (K : Int) % 18446744073709551616 = (K : Int) := u_at K (by have := HK.out.2; omega)
            clear hd hb7 G6 F6
            go_wp2_with fail
            refine (BitLen.len_calls K (by have := HK.out.2; omega) w7).mono ?_
            rintro e w8 ⟨L, rfl, hL1, hL2, rfl⟩
            have hd2 : ((2 + 4 * (L : Int)) < d) = False := eq_false (by have := HD.out L hL1; omega)
            have hk1 : wrap64 (4 * (L : Int)) = 4 * (L : Int) := by clear HD hd2; unfold wrap64; omega
            have hk2 : wrap64 (2 + 4 * (L : Int)) = 2 + 4 * (L : Int) := by clear HD hd2 hk1; unfold wrap64; omega
            clear hL1 hL2 hmc
            go_wp2_with fail
            clear hd2 hk1 hk2
            go_loopw [17] (fun i wr => ∃ m : Nat, 2 * m ≤ K + 1 ∧ i = .int .i64 ((2 * m : Nat) : Int) ∧ Aside0 (GroveII.Grv sub Few w2.heap.size 40 (fun q => q < w2.heap.size ∨ q = w3.heap.size ∨ q = g12 ∨ q = g13 ∨ q = g14) (rows (val t) (rem t K m)) wr) ∧ Aside0 (On (fun q => ¬ (q < w2.heap.size ∨ q = w3.heap.size ∨ q = g12 ∨ q = g13 ∨ q = g14)) w8 wr)) (fun i _ => K + 2 - (intOf i).toNat)
            case atStart => exact ⟨0, by omega, rfl, by rw [rem_start]; exact G7, ⟨On.refl _ _⟩⟩
            case round =>
              obtain ⟨m, hm, rfl, HG, HO⟩ := hrel
              have SV : Aside0 (∀ q, (q < w2.heap.size ∨ q = w3.heap.size ∨ q = g12 ∨ q = g13 ∨ q = g14) → q < wr.heap.size) := ⟨fun q h => by
                have h1 := blk_lt F7.out.h12; have h2 := blk_lt F7.out.h13; have h3 := blk_lt F7.out.h14; have h4 := blk_lt F7.out.h10; have h5 := HO.out.size; have h6 := O7.out.size; have h7 := S3.out; have h8 := S4.out
                rcases h with h | h | h | h | h <;> omega⟩
              have HRL := Aside0.mk (rem_len HT.out (show K ≤ 1024 by have := HK.out.2; omega) m hm)
              obtain ⟨i, hi⟩ : ∃ i : Nat, i = 2 * m := ⟨_, rfl⟩
              by_cases hlt : 2 * m < K
              · have hc1 : ((i : Int) < (K : Int)) = True := eq_true (by omega)
                have hc1n : (i < K) = True := eq_true (by omega)
                obtain ⟨x, hx⟩ : ∃ x : Nat, x = 2 * m * s % 1024 := ⟨_, rfl⟩
                have hkx := key_at (2 * m) s (by have := HK.out.2; omega) (by have := HS.out; omega)
                have hrt := rem_take (t := t) HT.out (show K ≤ 1024 by have := HK.out.2; omega) hlt
                rw [← hx] at hkx hrt
                rw [← hi] at hkx hrt
                have HRT := Aside0.mk hrt
                have HX : Aside0 (x < 1024) := ⟨by rw [hx]; exact Nat.mod_lt _ (by omega)⟩
                have HLT : Aside0 (2 * m < K ∧ i = 2 * m) := ⟨⟨hlt, hi⟩⟩
                have HW : Aside0 (wrap64 ((i : Int) + 2) = ((2 * (m + 1) : Nat) : Int)) := ⟨by have := HK.out.2; exact i_at i m hi (by omega)⟩
                have ck8 : wr.cell? ⟨w1.heap.size, 0, none⟩ = some (.int .i64 (s : Int)) := (blk_cell (HO.out.blk F7.out.h8 (fun h => h (.inl S4.out.2))) 0).trans rfl
                have ck10 : wr.cell? ⟨w3.heap.size, 0, none⟩ = some (.int .i64 1024) := (blk_cell (HO.out.blk F7.out.h10 (fun h => h (.inr (.inl rfl)))) 0).trans rfl
                rw [← hi]
                clear hm hlt hrt hx hi
                go_wp2_with fail
                try rw [hkx]
                clear hkx ck8 ck10
                refine (GroveII.Take_calls 40 ent1 sub Few cmpR ordr_sub w2.heap.size (fun q => q < w2.heap.size ∨ q = w3.heap.size ∨ q = g12 ∨ q = g13 ∨ q = g14) _ (x : Int) (by have := HX.out; unfold Few; omega) wr HG.out SV.out (by rw [rows_len, HRL.out]; have := HK.out.2; omega)).mono ?_
                rintro e w9 ⟨rfl, hg, ho⟩
                rw [HRT.out] at hg ⊢
                have hg' : GroveII.Grv sub Few w2.heap.size 40 (fun q => q < w2.heap.size ∨ q = w3.heap.size ∨ q = g12 ∨ q = g13 ∨ q = g14) (rows (val t) (rem t K (m + 1))) w9 := hg
                have G9 := Aside0.mk hg'
                have O9 := Aside0.mk (HO.out.trans ho)
                rw [show ((some (i : Int)).getD 0) = (i : Int) from rfl, show (some (i : Int)).isSome = true from rfl]
                clear hg hg' ho HG
                go_wp2_with fail
                go_roundw
                case rel => exact ⟨m + 1, by have := HLT.out; omega, by rw [HW.out], G9, O9⟩
                case measure => have := HLT.out; rw [HW.out]; simp only [intOf]; omega
              · have hc1 : ((i : Int) < (K : Int)) = False := eq_false (by omega)
                have hc1n : (i < K) = False := eq_false (by omega)
                rw [← hi]
                have HM : Aside0 (2 * m ≤ K + 1 ∧ K ≤ 2 * m ∧ 0 < m) := ⟨⟨hm, by omega, by have := HK.out.1; omega⟩⟩
                clear hm hlt hi
                go_wp2_with fail
                refine (GroveII.Take_calls 40 ent1 sub Few cmpR ordr_sub w2.heap.size (fun q => q < w2.heap.size ∨ q = w3.heap.size ∨ q = g12 ∨ q = g13 ∨ q = g14) _ (0 : Int) (by unfold Few; omega) wr HG.out SV.out (by rw [rows_len, HRL.out]; have := HK.out.2; omega)).mono ?_
                rintro e w9 ⟨rfl, hg, ho⟩
                rw [rem_zero HM.out.2.2] at hg ⊢
                have hg' : GroveII.Grv sub Few w2.heap.size 40 (fun q => q < w2.heap.size ∨ q = w3.heap.size ∨ q = g12 ∨ q = g13 ∨ q = g14) (rows (val t) (rem t K m)) w9 := hg
                have G9 := Aside0.mk hg'
                have O9 := Aside0.mk (HO.out.trans ho)
                obtain ⟨pv, hcell⟩ := hg'.cell
                rw [rows_len, HRL.out, show K - m = K / 2 by have := HM.out; omega] at hcell
                have C9 := Aside0.mk hcell
                obtain ⟨Q, hQ⟩ : ∃ Q : Nat, Q = K / 2 := ⟨_, rfl⟩
                rw [← hQ] at C9
                have hq2 : wrap64 ((K : Int) / 2) = (Q : Int) := by rw [hQ]; exact half_at K (by have := HK.out.2; omega)
                have HQL : Aside0 (Q = K - m ∧ Q ≤ 600) := ⟨by have := HM.out; have := HK.out; omega⟩
                rw [show ((none : Option Int).getD 0) = 0 from rfl, show (none : Option Int).isSome = false from rfl]
                clear hg hg' ho HG hcell hQ
                go_wp2_with fail
                refine (GroveII.Len_calls w2.heap.size _ pv _ w9 C9.out).mono ?_
                rintro e w10 ⟨rfl, rfl⟩
                go_wp2_with fail
                refine (GroveII.Depth_calls sub Few w2.heap.size 40 _ _ w10 G9.out).mono ?_
                rintro e w11 ⟨d2, rfl, ⟨_, hd, _, _⟩, hb11⟩
                rw [rows_len, HRL.out, ← HQL.out.1] at hd
                have HD2 := Aside0.mk hd
                have O11 := Aside0.mk (O9.out.trans (On.of_below hb11))
                have hmc : (Q : Int) % 18446744073709551616 = (Q : Int) := u_at Q (by have := HQL.out.2; omega)
                clear hd hb11
                go_wp2_with fail
                try rw [hq2]
                try rw [hmc]
                refine (BitLen.len_calls Q (by have := HQL.out.2; omega) w11).mono ?_
                rintro e w12 ⟨L2, rfl, hL1, hL2, rfl⟩
                have hd2 : (d2 ≤ 2 + 4 * (L2 : Int)) = True := eq_true (HD2.out L2 hL1)
                have hk1 : wrap64 (4 * (L2 : Int)) = 4 * (L2 : Int) := by clear HD2 hd2; unfold wrap64; omega
                have hk2 : wrap64 (2 + 4 * (L2 : Int)) = 2 + 4 * (L2 : Int) := by clear HD2 hd2 hk1; unfold wrap64; omega
                clear hL1 hL2
                go_wp2
                go_ret
                exact ⟨rfl, ((On.of_below B4.out).trans ((O7.out.trans (O11.out.mono (fun q h hv => h (hv.elim .inl (fun e => .inr (.inl e)))))).mono (fun q (h : ¬ (q < w2.heap.size ∨ q = w3.heap.size)) => (show ¬ q < w.heap.size by have := B2.out.size; omega)))).to_below (Nat.le_refl _) (fun k h => by omega)⟩
end Go.Proofs.YtbajekndbamcmaaW.GroveR

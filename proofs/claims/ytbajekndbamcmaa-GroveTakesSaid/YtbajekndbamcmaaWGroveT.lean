/- The law of what is taken in any order, by hand. No condition. -/
import Derived.Test.YtbajekndbamcmaaWGroveA
import Derived.Test.YtbajekndbamcmaaWGrove4IU
import Derived.Test.YtbajekndbamcmaaWBitLen
namespace Go.Proofs.YtbajekndbamcmaaW.GroveT
open Go.RowKit Go.Proofs.YtbajekndbamcmaaW.PrintWords Go.Proofs.YtbajekndbamcmaaW.PrintLast Go.Proofs.YtbajekndbamcmaaW.PrintMore Go.Proofs.YtbajekndbamcmaaW.PrintReg Go.Proofs.YtbajekndbamcmaaW.PrintTree Go.Proofs.YtbajekndbamcmaaW.GroveA
set_option linter.unusedVariables false
set_option linter.unusedSimpArgs false
theorem ent1 (args : Array Value) (W : World) : (callFunc 44 args).run Try.prog W = .ok (.enter 44 args) W := ent_of Try.func44 (by decide) rfl args W
theorem ent2 (args : Array Value) (W : World) : (callFunc 50 args).run Try.prog W = .ok (.enter 50 args) W := ent_of Try.func50 (by decide) rfl args W
set_option maxHeartbeats 4000000 in
theorem cmpT (x y : Int) (W : World) (hx : Few x) (hy : Few y) : Calls Try.prog 44 #[GroveIU.kv x, GroveIU.kv y] W fun e w' => e = .returned (.int .i64 (sub x y)) ∧ Below W.heap.size W w' := by
  have hw : IntKind.i64.wrap (x - y) = x - y := by rw [i64_w]; unfold Few at *; unfold wrap64; omega
  go_enter Try.func44, Try.ntmps44
  go_wp2
  go_ret
  exact ⟨rfl, Below.refl _ _⟩
/-- A row of keys that are numbers. -/
def rows (f : Nat → Int) (l : List Nat) : List (Int × Int) := l.map (fun (j : Nat) => ((j : Int), f j))
def vl (mask : Int) (j : Nat) : Int := bits BinOp.xor .u8 ((j : Int) % 256) mask
theorem putL_rows (f : Nat → Int) (j : Nat) : putL sub (j : Int) (f j) (rows f (List.range j)) = (rows f (List.range (j + 1)), false) := by
  have h := putL_hi (cmp := sub) (j : Int) (f j) [] (rows f (List.range j)) (fun p hp => by
    obtain ⟨i, hi, rfl⟩ := List.mem_map.1 hp
    have := List.mem_range.1 hi
    simp only [sub]; omega)
  rw [List.append_nil] at h
  rw [h]
  simp [putL, rows, List.range_succ]
theorem takeL_rows (f : Nat → Int) (x : Nat) : ∀ (l : List Nat), l.Pairwise (· < ·) → takeL sub (x : Int) (rows f l) = (rows f (l.filter (fun q => q != x)), if x ∈ l then some (f x) else none)
  | [], _ => rfl
  | a :: l, h => by
    have h1 := List.pairwise_cons.1 h
    rw [show rows f (a :: l) = ((a : Int), f a) :: rows f l from rfl, takeL, takeL_rows f x l h1.2]
    have e0 : sub (x : Int) (a : Int) = (x : Int) - (a : Int) := rfl
    by_cases c1 : sub (x : Int) (a : Int) < 0
    · have hn : x ∉ a :: l := fun hm => by
        rcases List.mem_cons.1 hm with e | e
        · omega
        · have := h1.1 x e; omega
      rw [if_pos c1, if_neg hn, List.filter_eq_self.2 (fun q hq => by
        have : q ≠ x := fun e => hn (e ▸ hq)
        simpa using this)]
      rfl
    · rw [if_neg c1]
      by_cases c2 : 0 < sub (x : Int) (a : Int)
      · rw [if_pos c2, List.filter_cons_of_pos (by simp; omega)]
        have : (x ∈ a :: l) ↔ x ∈ l := by simp; omega
        simp only [this]
        rfl
      · obtain rfl : x = a := by omega
        rw [if_neg c2, List.filter_cons_of_neg (by simp), if_pos (by simp), List.filter_eq_self.2 (fun q hq => by
          have := h1.1 q hq
          simp; omega)]
/-- What is left when the first j were taken. -/
def left (K s j : Nat) : List Nat := (List.range K).filter (fun q => (List.range j).all (fun i => q != i * s % 256))
theorem left_next (K s j : Nat) : left K s (j + 1) = (left K s j).filter (fun q => q != j * s % 256) := by
  simp only [left, List.filter_filter, List.range_succ, List.all_append, List.all_cons, List.all_nil, Bool.and_true]
  congr 1
  funext q
  rw [Bool.and_comm]
theorem left_asc (K s j : Nat) : (left K s j).Pairwise (· < ·) := List.Pairwise.filter _ (List.pairwise_lt_range)
theorem odd_inv : ∀ a : Nat, a < 128 → ∃ t, t < 256 ∧ (1 + 2 * a) * t % 256 = 1 := by decide +kernel
theorem once {s t i j : Nat} (ht : s * t % 256 = 1) (hi : i < 256) (hj : j < 256) (h : i * s % 256 = j * s % 256) : i = j := by
  have e : ∀ q, q < 256 → q * s % 256 * t % 256 = q := fun q hq => by
    rw [Nat.mod_mul_mod, Nat.mul_assoc, ← Nat.mul_mod_mod, ht]
    omega
  rw [← e i hi, ← e j hj, h]
theorem mem_left {s t K j : Nat} (ht : s * t % 256 = 1) (hj : j < 256) : j * s % 256 ∈ left K s j ↔ j * s % 256 < K := by
  simp only [left, List.mem_filter, List.mem_range, List.all_eq_true, bne_iff_ne]
  exact ⟨fun h => h.1, fun h => ⟨h, fun i hi e => absurd (once ht hj (by omega) e) (by omega)⟩⟩
theorem left_end {s t K : Nat} (ht : s * t % 256 = 1) (hK : K ≤ 256) : left K s 256 = [] := by
  simp only [left, List.filter_eq_nil_iff, List.mem_range]
  intro q hq
  simp only [List.all_eq_true, List.mem_range, bne_iff_ne]
  intro h
  refine h (q * t % 256) (by omega) ?_
  rw [Nat.mod_mul_mod, Nat.mul_assoc, ← Nat.mul_mod_mod, Nat.mul_comm t s, ht]
  omega
theorem rows_len (f : Nat → Int) (l : List Nat) : (rows f l).length = l.length := by simp [rows]
theorem at_x (j s x : Nat) (hj : j < 256) (hs : s ≤ 255) (hx : x = j * s % 256) : (wrap64 ((j : Int) * (s : Int))).tmod 256 = (x : Int) := by
  have h1 : j * s ≤ 255 * 255 := Nat.mul_le_mul (by omega) hs
  have h2 : (j : Int) * (s : Int) = ((j * s : Nat) : Int) := by simp
  rw [h2, hx]
  generalize j * s = p at *
  have h3 : wrap64 (p : Int) = (p : Int) := by unfold wrap64; omega
  rw [h3, Int.tmod_eq_emod_of_nonneg (by omega)]
  omega
theorem left_len {s t K j : Nat} (ht : s * t % 256 = 1) (hj : j < 256) : (left K s (j + 1)).length = if j * s % 256 < K then (left K s j).length - 1 else (left K s j).length := by
  have h := takeL_len (cmp := sub) ((j * s % 256 : Nat) : Int) (rows (fun _ => 0) (left K s j))
  rw [takeL_rows _ _ _ (left_asc K s j), rows_len, rows_len, ← left_next] at h
  rw [h]
  by_cases c : j * s % 256 < K
  · rw [if_pos c, if_pos ((mem_left ht hj).2 c)]; rfl
  · rw [if_neg c, if_neg (fun h => c ((mem_left ht hj).1 h))]; rfl
theorem left_pos {s t K j : Nat} (ht : s * t % 256 = 1) (hj : j < 256) (h : j * s % 256 < K) : 1 ≤ (left K s j).length := List.length_pos_of_mem ((mem_left ht hj).2 h)
theorem left_le (K s j : Nat) : (left K s j).length ≤ K := by
  have := List.length_filter_le (fun q => (List.range j).all (fun i => q != i * s % 256)) (List.range K)
  rw [List.length_range] at this
  exact this
theorem left_start (K s : Nat) : left K s 0 = List.range K := by simp [left]
set_option maxHeartbeats 4000000 in
set_option maxRecDepth 100000 in
theorem takes_calls (n step : Nat) (mask : Int) (hn : n ≤ 255) (hs : step ≤ 255) (hm : 0 ≤ mask ∧ mask ≤ 255) (w : World) : Calls Try.prog 10 #[.int .u8 (n : Int), .int .u8 (step : Int), .int .u8 mask] w fun e w' => e = .returned (.bool true) ∧ Below w.heap.size w w' := by
  have HN := Aside0.mk (And.intro hn (And.intro hs hm))
  clear hn hs hm
  obtain ⟨K, hK⟩ : ∃ K : Nat, K = n + 1 := ⟨_, rfl⟩
  have w1n : Aside0 (wrap64 (1 + wrap64 (n : Int)) = (K : Int)) := ⟨by have := HN.out.1; unfold wrap64; omega⟩
  have HK : Aside0 (1 ≤ K ∧ K ≤ 256) := ⟨by have := HN.out.1; omega⟩
  clear hK
  go_enter Try.func10, Try.ntmps10
  go_wp2_with fail
  refine (awake_calls w).mono ?_
  rintro e w1 ⟨rfl, hb⟩
  have B1 := Aside0.mk hb
  clear hb
  go_wp2_with fail
  refine (GroveIU.New_calls sub Few 44 (fun q => q < w1.heap.size) w1 (fun _ h => h)).mono ?_
  rintro e w2 ⟨rfl, hg, hb⟩
  have G2 := Aside0.mk hg
  have B2 := Aside0.mk (below_step B1.out hb)
  have S2 := Aside0.mk hb.size
  have hnq := fun wx => run_eql_ptr_nil (P := Try.prog) wx 76 114 ⟨w1.heap.size, 0, none⟩ Try.underlying76
  clear hg hb
  go_wp2_with fail
  rw [w1n.out]
  clear hnq
  go_loopw [9] (fun i wr => ∃ j : Nat, j ≤ K ∧ i = .int .i64 (j : Int) ∧ Aside0 (GroveIU.Grv sub Few w1.heap.size 44 (fun q => q < w1.heap.size) (rows (vl mask) (List.range j)) wr) ∧ Aside0 (On (fun q => ¬ q < w1.heap.size) w2 wr)) (fun i _ => K - (intOf i).toNat)
  case atStart => exact ⟨0, Nat.zero_le _, rfl, ⟨G2.out⟩, ⟨On.refl _ _⟩⟩
  case round =>
    obtain ⟨j, hj, rfl, HG, HO⟩ := hrel
    by_cases hlt : j < K
    · have hc1 : ((j : Int) < (K : Int)) = True := eq_true (by omega)
      have hc1n : (j < K) = True := eq_true (by omega)
      have HLT := Aside0.mk hlt
      clear hj hlt
      go_wp2_with fail
      refine (GroveIU.Put_calls 44 ent1 sub Few cmpT ordr_sub w1.heap.size (fun q => q < w1.heap.size) _ (j : Int) (vl mask j) (by have := HLT.out; have := HK.out; unfold Few; omega) wr HG.out (fun q h => Nat.lt_of_lt_of_le (Nat.lt_of_lt_of_le h S2.out) HO.out.size) (by have := HLT.out; have := HK.out; simp [rows]; omega)).mono ?_
      rintro e w3 ⟨rfl, hg, ho⟩
      rw [putL_rows] at hg ⊢
      have G3 := Aside0.mk hg
      have O3 := Aside0.mk (HO.out.trans ho)
      have hw : wrap64 ((j : Int) + 1) = ((j + 1 : Nat) : Int) := by have := HLT.out; have := HK.out; unfold wrap64; omega
      have HW := Aside0.mk hw
      clear hg ho HG hw
      go_wp2_with fail
      go_roundw
      case rel => exact ⟨j + 1, HLT.out, by rw [HW.out], G3, O3⟩
      case measure => have := HLT.out; rw [HW.out]; simp only [intOf]; omega
    · have hc1 : ((K : Int) < (K : Int)) = False := eq_false (by omega)
      have hc1n : (K < K) = False := eq_false (by omega)
      obtain rfl : K = j := by omega
      clear hlt hj
      obtain ⟨t, ht256, ht⟩ := odd_inv (step % 128) (by omega)
      obtain ⟨s, hs⟩ : ∃ s : Nat, s = 1 + 2 * (step % 128) := ⟨_, rfl⟩
      rw [← hs] at ht
      have HT := Aside0.mk ht
      have hS : (1 + 2 * ((step : Int) % 128)) = (s : Int) := by omega
      have HS : Aside0 (s ≤ 255) := ⟨by omega⟩
      clear ht hs ht256
      go_wp2_with fail
      try rw [hS]
      clear hS hc1 hc1n
      go_loopw [11, 12] (fun lf i wr => ∃ j : Nat, j ≤ 256 ∧ i = .int .i64 (j : Int) ∧ lf = .int .i64 ((left K s j).length : Int) ∧ Aside0 (GroveIU.Grv sub Few w1.heap.size 44 (fun q => q < w1.heap.size) (rows (vl mask) (left K s j)) wr) ∧ Aside0 (On (fun q => ¬ q < w1.heap.size) w2 wr)) (fun _ i _ => 256 - (intOf i).toNat)
      case atStart => exact ⟨0, Nat.zero_le _, rfl, by rw [left_start, List.length_range], by rw [left_start]; exact HG, HO⟩
      case round =>
        clear HG HO
        obtain ⟨j, hj, rfl, rfl, HG, HO⟩ := hrel
        by_cases hlt : j < 256
        · have hc1 : ((j : Int) < 256) = True := eq_true (by omega)
          have HLT := Aside0.mk hlt
          clear hj
          obtain ⟨x, hx⟩ : ∃ x : Nat, x = j * s % 256 := ⟨_, rfl⟩
          have hxe := at_x j s x hlt HS.out hx
          have hM : (x ∈ left K s j) ↔ x < K := by rw [hx]; exact mem_left HT.out hlt
          have hL : (left K s j).filter (fun q => q != x) = left K s (j + 1) := by rw [left_next, hx]
          have hlen := left_len (K := K) HT.out hlt
          have hpos := left_pos (K := K) HT.out hlt
          rw [← hx] at hlen hpos
          have hle := left_le K s j
          have hle2 := left_le K s (j + 1)
          have X := Aside0.mk (And.intro hM (And.intro hL (And.intro hlen (And.intro hpos (And.intro hle (And.intro hle2 (show x < 256 by omega)))))))
          clear hx hM hL hlen hpos hle hle2 hlt
          go_wp2_with fail
          refine (GroveIU.Take_calls 44 ent1 sub Few cmpT ordr_sub w1.heap.size (fun q => q < w1.heap.size) _ (x : Int) (by have := X.out.2.2.2.2.2.2; unfold Few; omega) wr HG.out (fun q h => Nat.lt_of_lt_of_le (Nat.lt_of_lt_of_le h S2.out) HO.out.size) (by rw [rows_len]; have := X.out.2.2.2.2.1; have := HK.out; omega)).mono ?_
          rintro e w3 ⟨rfl, hg, ho⟩
          rw [takeL_rows _ x _ (left_asc K s j), X.out.2.1] at hg ⊢
          have hg' : GroveIU.Grv sub Few w1.heap.size 44 (fun q => q < w1.heap.size) (rows (vl mask) (left K s (j + 1))) w3 := hg
          have G3 := Aside0.mk hg'
          have O3 := Aside0.mk (HO.out.trans ho)
          obtain ⟨pv, hcell⟩ := hg'.cell
          rw [rows_len] at hcell
          have C3 := Aside0.mk hcell
          clear hg hg' ho HG hcell hxe
          obtain ⟨m, hm⟩ : ∃ m : Nat, m = (left K s (j + 1)).length := ⟨_, rfl⟩
          obtain ⟨m0, hm0⟩ : ∃ m : Nat, m = (left K s j).length := ⟨_, rfl⟩
          have M := Aside0.mk (And.intro hm hm0)
          have hw1 : wrap64 ((j : Int) + 1) = ((j + 1 : Nat) : Int) := by have := HLT.out; unfold wrap64; omega
          have HW := Aside0.mk hw1
          rw [← hm] at C3
          rw [← hm0]
          clear hm hm0 hc1 hw1
          by_cases c : x < K
          · have hw : wrap64 ((m0 : Int) - 1) = (m : Int) := by
              have h1 := X.out.2.2.1; rw [if_pos c] at h1
              have h2 := X.out.2.2.2.1 c
              have h3 := M.out; have h4 := X.out.2.2.2.2.1; have h5 := HK.out
              unfold wrap64; omega
            have hc : ((x : Int) < (K : Int)) = True := eq_true (by omega)
            have hcn : (x < K) = True := eq_true c
            rw [if_pos (X.out.1.2 c), show ((some (vl mask x)).getD 0) = bits BinOp.xor .u8 ((x : Int) % 256) mask from rfl, show (some (vl mask x)).isSome = true from rfl]
            clear c
            go_wp2_with fail
            rw [hw]
            refine (GroveIU.Len_calls w1.heap.size _ pv _ w3 C3.out).mono ?_
            rintro e w4 ⟨rfl, rfl⟩
            clear hw
            go_wp2_with fail
            refine (GroveIU.Depth_calls sub Few w1.heap.size 44 _ _ w4 G3.out).mono ?_
            rintro e w5 ⟨d, rfl, ⟨_, hd, _, _⟩, hb5⟩
            rw [rows_len, ← M.out.1] at hd
            have G5 := Aside0.mk (G3.out.below hb5)
            have O5 := Aside0.mk (O3.out.trans (On.of_below hb5))
            have HD := Aside0.mk hd
            have hmc : (m : Int) % 18446744073709551616 = (m : Int) := by have := M.out.1; have := X.out.2.2.2.2.2.1; have := HK.out; omega
            clear hd hb5 G3 O3
            go_wp2_with fail
            clear hmc
            refine (BitLen.len_calls m (by have := M.out.1; have := X.out.2.2.2.2.2.1; have := HK.out; omega) w5).mono ?_
            rintro e w6 ⟨L, rfl, hL1, hL2, rfl⟩
            have hd2 : ((2 + 4 * (L : Int)) < d) = False := eq_false (by have := HD.out L hL1; omega)
            have hk1 : wrap64 (4 * (L : Int)) = 4 * (L : Int) := by unfold wrap64; omega
            have hk2 : wrap64 (2 + 4 * (L : Int)) = 2 + 4 * (L : Int) := by unfold wrap64; omega
            clear hL1 hL2
            go_wp2_with fail
            go_roundw
            case rel => exact ⟨j + 1, HLT.out, by rw [HW.out], by rw [M.out.1], G5, O5⟩
            case measure => have := HLT.out; rw [HW.out]; simp only [intOf]; omega
          · have hw : (m0 : Int) = (m : Int) := by
              have h1 := X.out.2.2.1; rw [if_neg c] at h1
              have h3 := M.out; omega
            have hc : ((x : Int) < (K : Int)) = False := eq_false (by omega)
            have hcn : (x < K) = False := eq_false c
            rw [if_neg (fun h => c (X.out.1.1 h)), show ((none : Option Int).getD 0) = 0 from rfl, show (none : Option Int).isSome = false from rfl]
            clear c
            go_wp2_with fail
            refine (GroveIU.Len_calls w1.heap.size _ pv _ w3 C3.out).mono ?_
            rintro e w4 ⟨rfl, rfl⟩
            clear hw
            go_wp2_with fail
            refine (GroveIU.Depth_calls sub Few w1.heap.size 44 _ _ w4 G3.out).mono ?_
            rintro e w5 ⟨d, rfl, ⟨_, hd, _, _⟩, hb5⟩
            rw [rows_len, ← M.out.1] at hd
            have G5 := Aside0.mk (G3.out.below hb5)
            have O5 := Aside0.mk (O3.out.trans (On.of_below hb5))
            have HD := Aside0.mk hd
            have hmc : (m : Int) % 18446744073709551616 = (m : Int) := by have := M.out.1; have := X.out.2.2.2.2.2.1; have := HK.out; omega
            clear hd hb5 G3 O3
            go_wp2_with fail
            clear hmc
            refine (BitLen.len_calls m (by have := M.out.1; have := X.out.2.2.2.2.2.1; have := HK.out; omega) w5).mono ?_
            rintro e w6 ⟨L, rfl, hL1, hL2, rfl⟩
            have hd2 : ((2 + 4 * (L : Int)) < d) = False := eq_false (by have := HD.out L hL1; omega)
            have hk1 : wrap64 (4 * (L : Int)) = 4 * (L : Int) := by unfold wrap64; omega
            have hk2 : wrap64 (2 + 4 * (L : Int)) = 2 + 4 * (L : Int) := by unfold wrap64; omega
            clear hL1 hL2
            go_wp2_with fail
            go_roundw
            case rel => exact ⟨j + 1, HLT.out, by rw [HW.out], by rw [M.out.1], G5, O5⟩
            case measure => have := HLT.out; rw [HW.out]; simp only [intOf]; omega
        · have hc1 : ((256 : Int) < 256) = False := eq_false (by omega)
          obtain rfl : j = 256 := by omega
          clear hlt hj
          rw [left_end HT.out HK.out.2] at HG ⊢
          have hG0 : GroveIU.Grv sub Few w1.heap.size 44 (fun q => q < w1.heap.size) [] wr := HG.out
          have G6 := Aside0.mk hG0
          clear HG hG0
          go_wp2_with fail
          obtain ⟨w8, hw8⟩ : ∃ W, W = wr.alloc (Obj.cells #[.int .i64 0] 3) := ⟨_, rfl⟩
          have h8 : w8.heap[wr.heap.size]? = some (.cells #[.int .i64 0] 3 (0, 0)) := by rw [hw8]; exact blk_new _ _
          have hb8 : Below wr.heap.size wr w8 := by rw [hw8]; exact below_alloc (Below.refl _ _) _
          rw [← hw8]
          have G8 := Aside0.mk ((G6.out.more (av' := fun q => q < w1.heap.size ∨ q = wr.heap.size) (fun q h => h.elim .inl (fun e => .inr (by omega)))).below hb8)
          have O8 := Aside0.mk (HO.out.trans (On.of_below hb8))
          have H8 := Aside0.mk h8
          have S8 := Aside0.mk HO.out.size
          clear hw8 h8 hb8 HO
          refine (GroveIU.Walk_calls 44 ent1 sub Few cmpT ordr_sub w1.heap.size (fun q => q < w1.heap.size ∨ q = wr.heap.size) (fun q => q = wr.heap.size) (fun q h => .inr h) _ (-1) (by unfold Few; omega) 50 ent2 #[.pointer (some ⟨wr.heap.size, 0, none⟩)]
            (fun (_ : Unit) W => W.heap[wr.heap.size]? = some (.cells #[.int .i64 0] 3 (0, 0))) (fun s k v => (s, true)) (fun k v => False) (fun _ => 0) 0 (fun s k v h => h.elim) (fun s W W' h hb => blk_below h hb)
            (fun s k v W hv hm h => hv.elim) (by simp) () (by simp) w8 G8.out H8.out).mono ?_
          rintro e w9 ⟨rfl, h9, hg9, ho9⟩
          have c9 : w9.cell? ⟨wr.heap.size, 0, none⟩ = some (.int .i64 0) := (blk_cell h9 0).trans rfl
          have G9 := Aside0.mk hg9
          have O9 := Aside0.mk (O8.out.trans (ho9.mono (fun q e => by have := S8.out; have := S2.out; omega)))
          clear h9 hg9 ho9
          go_wp2_with fail
          refine (GroveIU.Depth_calls sub Few w1.heap.size 44 _ _ w9 G9.out).mono ?_
          rintro e w12 ⟨d, rfl, ⟨_, _, _, hd⟩, hb12⟩
          obtain rfl := hd rfl
          have O12 := Aside0.mk (O9.out.trans (On.of_below hb12))
          clear hd hb12
          go_wp2
          go_ret
          exact ⟨rfl, ((On.of_below B2.out).trans (O12.out.mono (fun q (h : ¬ q < w1.heap.size) => (show ¬ q < w.heap.size by have := B1.out.size; omega)))).to_below (Nat.le_refl _) (fun k h => by omega)⟩
end Go.Proofs.YtbajekndbamcmaaW.GroveT

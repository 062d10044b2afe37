-- printed by a program of this session (wip/tools), a turned form of the kit's print
import Derived.Test.YtfagobhhhljajaaWPeel
import Derived.Test.YtfagobhhhljajaaPWeighPartsx0
import Derived.Test.YtfagobhhhljajaaPWeighPartsx2
namespace Go.Proofs.Ytfagobhhhljajaa.PWeighParts
open Go.RowKit Go.Proofs.YtfagobhhhljajaaW.PrintWords Go.Proofs.YtfagobhhhljajaaW.PrintLast Go.Proofs.YtfagobhhhljajaaW.PrintMore
attribute [local go_sem] max2_int min2_int max_two min_two max_three min_three max_four min_four max2_str min2_str str_geq str_leq str_gtr   -- for this text's walks alone
set_option linter.unusedVariables false
set_option linter.unusedSimpArgs false

/-! ### lore_May: function 28 -/
def lore_May.f (l0 : List S42) : Option Bool := if (l0.length : Int) > 64 then some false else (lore_rises.f 1000 l0).bind fun t => some (t && l0.all (fun x => oneB l0 x.f1 x.f2))
theorem firstAt_all {α : Type} (p : α → Bool) (l : List α) : (decide (0 ≤ firstAt (fun x => !p x) l)) = !(l.all p) := by
 unfold firstAt
 cases h : l.findIdx? (fun x => !p x) with
 | none =>
  have : l.all p = true := by
   rw [List.all_eq_true]
   intro x hx
   have := List.findIdx?_eq_none_iff.1 h x hx
   simpa using this
  rw [this]; rfl
 | some i =>
  obtain ⟨hi, hp, _⟩ := List.findIdx?_eq_some_iff_getElem.1 h
  have : l.all p = false := by
   rw [List.all_eq_false]
   exact ⟨l[i], List.getElem_mem _, by simpa using hp⟩
  rw [this]; simp
set_option maxHeartbeats 2000000 in
set_option maxRecDepth 100000 in
theorem may1_any (A0 : Option Addr) (c0 : Nat) (l0 : List S42) (x y : Int) (v2 : Value) (A : Option Addr) (l2 : List Int) (n c : Nat) (hn : n = l2.length) (hv : v2 = .slice A n c) (g : Nat) (w : World) (hr : Kd.C k42 w A0 l0.length l0) (hc0 : l0.length ≤ c0) (hl : (l0.length : Int) ≤ 9223372036854775806)
  (hc : n ≤ c) (hr2 : Kd.C (Kd.int .i32) w A n l2) (h0 : w.cell? ⟨g, 0, none⟩ = some (.slice A0 l0.length c0)) :
  Calls Try.prog 47 #[.agg #[.int .i32 x, .int .i64 y, v2], .pointer (some ⟨g, 0, none⟩)] w
   fun e w' => e = .returned (.bool (!oneB l0 y l2)) ∧ Below w.heap.size w w' := by
 subst hv
 have hg := World.block_lt_of_cell? w _ h0
 have FF := Aside0.mk (fun W (hb : Below w.heap.size w W) => lore_one.calls A0 c0 l0 x y A c l2 (oneB l0 y l2) W (Kd.C_below hr hb) hc0 (by rw [← hn]; exact Kd.C_below hr2 hb) (by rw [← hn]; exact hc) (by unfold lore_one.f; rw [if_pos hl]))
 rw [← hn] at FF
 clear hr hc0 hl hc hr2 hn
 go_enter Try.func47, Try.ntmps47
 go_wp2_with fail
 obtain ⟨W, hW⟩ : ∃ W, W = w.alloc (.cells #[.int .i32 x, .int .i64 y, .slice A n c] 42) := ⟨_, rfl⟩
 try rw [← hW]
 have hB : Below w.heap.size w W := by subst hW; exact below_alloc (Below.refl _ _) _
 have b0 : W.heap[w.heap.size]? = some (.cells #[.int .i32 x, .int .i64 y, .slice A n c] 42 (0, 0)) := by subst hW; simpa using heap_alloc_new w _
 have g0 : W.cell? ⟨g, 0, none⟩ = some (.slice A0 l0.length c0) := (hB.cell (p := ⟨g, 0, none⟩) hg).trans h0
 have k0 : W.cell? ⟨w.heap.size, 0, none⟩ = some (.int .i32 x) := (blk_cell b0 0).trans rfl
 have k1 : W.cell? ⟨w.heap.size, 1, none⟩ = some (.int .i64 y) := (blk_cell b0 1).trans rfl
 have k2 : W.cell? ⟨w.heap.size, 2, none⟩ = some (.slice A n c) := (blk_cell b0 2).trans rfl
 have HB := Aside0.mk hB
 clear hW h0 b0 hB
 go_wp2_with fail
 refine (FF.out W HB.out).mono ?_
 rintro e w1 ⟨rfl, hb⟩
 have HB1 := Aside0.mk (below_step HB.out hb)
 clear hb
 go_wp2_with fail
 go_ret
 exact ⟨rfl, HB1.out⟩
set_option maxHeartbeats 2000000 in
set_option maxRecDepth 100000 in
theorem containsFunc_any (A0 : Option Addr) (c0 : Nat) (l0 : List S42) (fn : Nat) (caps : Array Value) (p : S42 → Bool) (w : World) (hr : Kd.C k42 w A0 l0.length l0) (hl : (l0.length : Int) ≤ 9223372036854775806)
  (hfc : ∀ args W, (callFunc fn args).run Try.prog W = .ok (.enter fn args) W)
  (HP : ∀ (x : S42) (A : Option Addr) (c : Nat) (W : World), x ∈ l0 → Below w.heap.size w W → x.f2.length ≤ c → Kd.C (Kd.int .i32) W A x.f2.length x.f2 → Calls Try.prog fn (#[.agg #[.int .i32 x.f0, .int .i64 x.f1, .slice A x.f2.length c]] ++ caps) W fun e w' => e = .returned (.bool (p x)) ∧ Below W.heap.size W w') :
  Calls Try.prog 46 #[.slice A0 l0.length c0, .func (.func fn) #[] caps] w
   fun r w' => r = .returned (.bool (decide (0 ≤ firstAt p l0))) ∧ Below w.heap.size w w' := by
 have FF := Aside0.mk (indexFunc_any A0 c0 l0 fn caps p w hr hl hfc HP)
 clear hr hl hfc HP
 go_enter Try.func46, Try.ntmps46
 go_wp2_with fail
 refine FF.out.mono ?_
 rintro e w1 ⟨rfl, hb⟩
 have HB := Aside0.mk hb
 clear hb FF
 go_wp2_with fail
 go_ret
 exact ⟨rfl, HB.out⟩
set_option maxHeartbeats 8000000 in
set_option maxRecDepth 100000 in
theorem lore_May.calls (A0 : Option Addr) (c0 : Nat) (l0 : List (S42)) (r : Bool) (w : World) (hr0 : Kd.C k42 w A0 l0.length l0) (hc0 : l0.length ≤ c0) (h : lore_May.f l0 = some r) :
  Calls Try.prog 28 #[.slice A0 l0.length c0] w fun e w' => e = .returned (.bool r) ∧ Below w.heap.size w w' := by
 have HR := Aside0.mk hr0
 have HC := Aside0.mk hc0
 have HH := Aside0.mk h
 have hmf := run_mf (P := Try.prog)
 obtain ⟨W, hW⟩ : ∃ W, W = w.alloc (.cells #[.slice A0 l0.length c0] 22) := ⟨_, rfl⟩
 have hB : Below w.heap.size w W := by subst hW; exact below_alloc (Below.refl _ _) _
 have b0 : W.heap[w.heap.size]? = some (.cells #[.slice A0 l0.length c0] 22 (0, 0)) := by subst hW; simpa using heap_alloc_new w _
 have k0 : W.cell? ⟨w.heap.size, 0, none⟩ = some (.slice A0 l0.length c0) := (blk_cell b0 0).trans rfl
 have HB := Aside0.mk hB
 have HK := Aside0.mk k0
 clear hr0 hc0 h hB b0
 by_cases hlen : (l0.length : Int) > 64
 ·
  have hr : r = false := by
   have h := HH.out
   unfold lore_May.f at h
   rw [if_pos hlen] at h
   exact (Option.some.inj h).symm
  subst hr
  have q1 : ((64 : Int) < (l0.length : Int)) = True := eq_true hlen
  have q2 : (64 < l0.length) = True := eq_true (by omega)
  clear hlen
  go_enter Try.func28, Try.ntmps28
  rw [hW] at k0
  go_wp2_with fail
  go_ret
  exact ⟨rfl, below_alloc (Below.refl _ _) _⟩
 ·
  have q1 : ((64 : Int) < (l0.length : Int)) = False := eq_false hlen
  have q2 : (64 < l0.length) = False := eq_false (by omega)
  have h := HH.out
  unfold lore_May.f at h
  rw [if_neg hlen] at h
  obtain ⟨t, h1, h2⟩ := Option.bind_eq_some_iff.mp h
  have h3 := Option.some.inj h2
  have FF := Aside0.mk (fun W' (hb : Below w.heap.size w W') => lore_rises.calls 1000 A0 c0 l0 t W' (Kd.C_below HR.out hb) HC.out h1)
  have HRES := Aside0.mk h3
  have hfc : ∀ args W, (callFunc 47 args).run Try.prog W = .ok (.enter 47 args) W := fun args W => rfl
  have FC := Aside0.mk (fun W' (hb : Below w.heap.size w W') (hk : W'.cell? ⟨w.heap.size, 0, none⟩ = some (.slice A0 l0.length c0)) => containsFunc_any A0 c0 l0 47 #[.pointer (some ⟨w.heap.size, 0, none⟩)] (fun x => !oneB l0 x.f1 x.f2) W' (Kd.C_below HR.out hb) (by omega) hfc (fun x A c W2 _ hb2 hc2 hr2 => may1_any A0 c0 l0 x.f0 x.f1 _ A x.f2 _ c rfl rfl w.heap.size W2 (Kd.C_below HR.out (below_step hb hb2)) HC.out (by omega) hc2 hr2 (cell_keep hb2 hk)))
  clear hlen h h1 h2 h3 hfc
  go_enter Try.func28, Try.ntmps28
  rw [hW] at k0
  go_wp2_with fail
  rw [← hW]
  refine (FF.out W HB.out).mono ?_
  rintro e w1 ⟨rfl, hb⟩
  have HB1 := Aside0.mk (below_step HB.out hb)
  have k1 := cell_keep hb HK.out
  have HK1 := Aside0.mk k1
  clear hb k0 hW
  cases t with
  | false =>
   go_wp2_with fail
   go_ret
   rw [Bool.false_and] at HRES
   exact ⟨by rw [← HRES.out]; rfl, HB1.out⟩
  | true =>
   go_wp2_with fail
   refine (FC.out w1 HB1.out HK1.out).mono ?_
   rintro e w2 ⟨rfl, hb⟩
   have HB2 := Aside0.mk (below_step HB1.out hb)
   clear hb
   rw [firstAt_all]
   go_wp2_with fail
   go_ret
   rw [Bool.true_and] at HRES
   exact ⟨by rw [← HRES.out]; first | rfl | (simp; done) | (simp; rfl), HB2.out⟩
-- lore.Apart: runes taken apart.

/-! ### weigh_rune: function 49 -/
/-- May a row have a rune? -/
def runeB (l : List S42) (r : Int) : Bool := mayB r && !(l.any (fun x => x.f0 == r && decide (0 < x.f2.length)))
def weigh_rune.f (l0_0 : List S42) (_ : List S44) (_ : Int) (_ : Bool) (a1 : Int) : Option Bool := if (l0_0.length : Int) ≤ 9223372036854775806 then some (runeB l0_0 a1) else none
theorem firstAt_any' {α : Type} (p : α → Bool) (l : List α) : decide (0 ≤ firstAt p l) = l.any p := by
 have h := firstAt_all (fun x => !p x) l
 simp only [Bool.not_not] at h
 rw [h, ← List.not_any_eq_all_not]
 simp
set_option maxHeartbeats 2000000 in
set_option maxRecDepth 100000 in
theorem rune1_any (x : Int) (y : Int) (v2 : Value) (A : Option Addr) (n c : Nat) (hv : v2 = .slice A n c) (g : Nat) (r : Int) (w : World) (h0 : w.cell? ⟨g, 0, none⟩ = some (.int .i32 r)) :
  Calls Try.prog 62 #[.agg #[.int .i32 x, .int .i64 y, v2], .pointer (some ⟨g, 0, none⟩)] w
   fun e w' => e = .returned (.bool (x == r && decide (0 < n))) ∧ Below w.heap.size w w' := by
 subst hv
 have hg := World.block_lt_of_cell? w _ h0
 have h0' : ∀ o, (w.alloc o).cell? ⟨g, 0, none⟩ = some (.int .i32 r) := fun o => ((below_alloc (Below.refl _ _) o).cell (p := ⟨g, 0, none⟩) hg).trans h0
 clear hg h0
 by_cases hx : x = r
 ·
  subst hx
  have b1 : (x == x) = true := by simp
  have b2 : decide (0 < (n : Int)) = decide (0 < n) := by congr 1; simp
  go_enter Try.func62, Try.ntmps62
  go_wp2
  go_ret
  exact ⟨by first | rfl | (simp; done) | (simp; rfl), below_alloc (Below.refl _ _) _⟩
 ·
  have b1 : (x == r) = false := by simpa using hx
  rw [b1]
  have b2 : (x = r) = False := eq_false hx
  clear hx
  go_enter Try.func62, Try.ntmps62
  go_wp2
  go_ret
  exact ⟨by first | rfl | (simp; done) | (simp; rfl), below_alloc (Below.refl _ _) _⟩
set_option maxHeartbeats 8000000 in
set_option maxRecDepth 100000 in
theorem weigh_rune.calls (A0_0 : Option Addr) (c0_0 : Nat) (l0_0 : List (S42)) (A0_1 : Option Addr) (c0_1 : Nat) (l0_1 : List (S44)) (a0_2 : Int) (a0_3 : Bool) (a1 : Int) (r : Bool) (w : World) (hr0_0 : Kd.C k42 w A0_0 l0_0.length l0_0) (hc0_0 : l0_0.length ≤ c0_0) (hr0_1 : Kd.C k44 w A0_1 l0_1.length l0_1) (hc0_1 : l0_1.length ≤ c0_1) (h : weigh_rune.f l0_0 l0_1 a0_2 a0_3 a1 = some r) :
  Calls Try.prog 49 #[.agg #[.slice A0_0 l0_0.length c0_0, .slice A0_1 l0_1.length c0_1, .int .i64 a0_2, .bool a0_3], .int .i32 a1] w fun e w' => e = .returned (.bool r) ∧ Below w.heap.size w w' := by
 unfold weigh_rune.f at h
 split at h
 case isFalse => cases h
 case isTrue hl =>
 obtain rfl := Option.some.inj h
 have hmf := run_mf (P := Try.prog)
 have hfc : ∀ args W, (callFunc 62 args).run Try.prog W = .ok (.enter 62 args) W := fun args W => rfl
 obtain ⟨W, hW⟩ : ∃ W, W = (w.alloc (.cells #[.slice A0_0 l0_0.length c0_0, .slice A0_1 l0_1.length c0_1, .int .i64 a0_2, .bool a0_3] 25)).alloc (.cells #[.int .i32 a1] 21) := ⟨_, rfl⟩
 have hB : Below w.heap.size w W := by subst hW; exact below_alloc (below_alloc (Below.refl _ _) _) _
 have g0 : W.heap[w.heap.size]? = some (.cells #[.slice A0_0 l0_0.length c0_0, .slice A0_1 l0_1.length c0_1, .int .i64 a0_2, .bool a0_3] 25 (0, 0)) := by subst hW; exact blk_alloc (by simpa using heap_alloc_new w _) _
 have g1 : W.heap[w.heap.size + 1]? = some (.cells #[.int .i32 a1] 21 (0, 0)) := by subst hW; simpa using heap_alloc_new (w.alloc _) _
 have k1 : W.cell? ⟨w.heap.size + 1, 0, none⟩ = some (.int .i32 a1) := (blk_cell g1 0).trans rfl
 have FF := Aside0.mk (fun W' (hb : Below W.heap.size W W') => containsFunc_any A0_0 c0_0 l0_0 62 #[.pointer (some ⟨w.heap.size + 1, 0, none⟩)] (fun x => x.f0 == a1 && decide (0 < x.f2.length)) W' (Kd.C_below hr0_0 (below_step hB hb)) hl hfc (fun x A c W2 _ hb2 _ _ => rune1_any x.f0 x.f1 _ A _ c rfl (w.heap.size + 1) a1 W2 (cell_keep hb2 (cell_keep hb k1))))
 have HB := Aside0.mk hB
 have G0 := Aside0.mk g0
 clear hr0_0 hc0_0 hr0_1 hc0_1 h hl hB g0 g1 hfc
 go_enter Try.func49, Try.ntmps49
 rw [hW] at k1
 go_wp2_with fail
 rw [← hW]
 refine (may_calls a1 W).mono ?_
 rintro e w1 ⟨rfl, hb⟩
 have HB1 := Aside0.mk (below_step HB.out hb.below)
 have HBW := Aside0.mk hb.below
 have k0 : w1.cell? ⟨w.heap.size, 0, none⟩ = some (.slice A0_0 l0_0.length c0_0) := (blk_cell (blk_below G0.out hb.below) 0).trans rfl
 clear hb k1 hW
 cases hm : mayB a1
 ·
  have HM := Aside0.mk hm
  clear hm
  go_wp2_with fail
  go_ret
  exact ⟨by unfold runeB; rw [HM.out]; rfl, HB1.out⟩
 ·
  have HM := Aside0.mk hm
  clear hm
  go_wp2_with fail
  refine (FF.out w1 HBW.out).mono ?_
  rintro e w2 ⟨rfl, hb⟩
  have HB2 := Aside0.mk (below_step HB1.out hb)
  clear hb
  rw [firstAt_any']
  go_wp2_with fail
  go_ret
  exact ⟨by unfold runeB; rw [HM.out]; first | rfl | (simp; done) | (simp; rfl), HB2.out⟩
-- slices.ContainsFunc at elements, by weigh.row's function: whether one may not be.

/-! ### weigh_element: function 52 -/
def weigh_element.f (a0_0 : Int) (a0_1 : Int) (a0_2 : Int) : Option (Bool) := (weigh_within.f a0_0 0 60000).bind fun t107 => (if t107 = true then ((weigh_within.f a0_1 0 200).bind fun t108 => (if t108 = true then ((weigh_within.f a0_2 0 200).bind fun t109 => (if t109 = true then (if a0_0 = 0 then (if a0_1 = 0 then (some true) else (some (decide (a0_2 > 0)))) else (if a0_1 > 0 then (if a0_1 = 0 then (some true) else (some (decide (a0_2 > 0)))) else (some false))) else (some false))) else (some false))) else (some false))
set_option maxHeartbeats 8000000 in
set_option maxRecDepth 100000 in
theorem weigh_element.calls (a0_0 : Int) (a0_1 : Int) (a0_2 : Int) (r : Bool) (w : World) (h : weigh_element.f a0_0 a0_1 a0_2 = some r) :
  Calls Try.prog 52 #[.agg #[.int .i64 a0_0, .int .i64 a0_1, .int .i64 a0_2]] w fun e w' => e = .returned (.bool r) ∧ Below w.heap.size w w' := by
 have hu39 := Try.underlying39
 have HB := Aside0.mk (Below.refl w.heap.size w)
 have H : ((weigh_within.f a0_0 0 60000).bind fun t107 => (if t107 = true then ((weigh_within.f a0_1 0 200).bind fun t108 => (if t108 = true then ((weigh_within.f a0_2 0 200).bind fun t109 => (if t109 = true then (if a0_0 = 0 then (if a0_1 = 0 then (some true) else (some (decide (a0_2 > 0)))) else (if a0_1 > 0 then (if a0_1 = 0 then (some true) else (some (decide (a0_2 > 0)))) else (some false))) else (some false))) else (some false))) else (some false))) = some r := h
 clear h
 replace H := Option.bind_eq_some_iff.mp H
 obtain ⟨t107, A20, H⟩ := H
 replace H : (if t107 = true then ((weigh_within.f a0_1 0 200).bind fun t108 => (if t108 = true then ((weigh_within.f a0_2 0 200).bind fun t109 => (if t109 = true then (if a0_0 = 0 then (if a0_1 = 0 then (some true) else (some (decide (a0_2 > 0)))) else (if a0_1 > 0 then (if a0_1 = 0 then (some true) else (some (decide (a0_2 > 0)))) else (some false))) else (some false))) else (some false))) else (some false)) = some r := H
 have A2 := Aside0.mk A20
 clear A20
 by_cases c3 : t107 = true
 ·
  subst c3
  have H1 : ((weigh_within.f a0_1 0 200).bind fun t108 => (if t108 = true then ((weigh_within.f a0_2 0 200).bind fun t109 => (if t109 = true then (if a0_0 = 0 then (if a0_1 = 0 then (some true) else (some (decide (a0_2 > 0)))) else (if a0_1 > 0 then (if a0_1 = 0 then (some true) else (some (decide (a0_2 > 0)))) else (some false))) else (some false))) else (some false))) = some r := by rw [if_pos rfl] at H; exact H
  clear H
  have H := H1
  clear H1
  replace H := Option.bind_eq_some_iff.mp H
  obtain ⟨t108, A40, H⟩ := H
  replace H : (if t108 = true then ((weigh_within.f a0_2 0 200).bind fun t109 => (if t109 = true then (if a0_0 = 0 then (if a0_1 = 0 then (some true) else (some (decide (a0_2 > 0)))) else (if a0_1 > 0 then (if a0_1 = 0 then (some true) else (some (decide (a0_2 > 0)))) else (some false))) else (some false))) else (some false)) = some r := H
  have A4 := Aside0.mk A40
  clear A40
  by_cases c5 : t108 = true
  ·
   subst c5
   have H1 : ((weigh_within.f a0_2 0 200).bind fun t109 => (if t109 = true then (if a0_0 = 0 then (if a0_1 = 0 then (some true) else (some (decide (a0_2 > 0)))) else (if a0_1 > 0 then (if a0_1 = 0 then (some true) else (some (decide (a0_2 > 0)))) else (some false))) else (some false))) = some r := by rw [if_pos rfl] at H; exact H
   clear H
   have H := H1
   clear H1
   replace H := Option.bind_eq_some_iff.mp H
   obtain ⟨t109, A60, H⟩ := H
   replace H : (if t109 = true then (if a0_0 = 0 then (if a0_1 = 0 then (some true) else (some (decide (a0_2 > 0)))) else (if a0_1 > 0 then (if a0_1 = 0 then (some true) else (some (decide (a0_2 > 0)))) else (some false))) else (some false)) = some r := H
   have A6 := Aside0.mk A60
   clear A60
   by_cases c7 : t109 = true
   ·
    subst c7
    have H1 : (if a0_0 = 0 then (if a0_1 = 0 then (some true) else (some (decide (a0_2 > 0)))) else (if a0_1 > 0 then (if a0_1 = 0 then (some true) else (some (decide (a0_2 > 0)))) else (some false))) = some r := by rw [if_pos rfl] at H; exact H
    clear H
    have H := H1
    clear H1
    by_cases c8 : a0_0 = 0
    ·
     rw [if_pos c8] at H
     have c8b0 : (a0_0 == 0) = true := beq_iff_eq.mpr c8
     have c8b1 : (a0_0 != 0) = false := bne_eq_false_iff_eq.mpr c8
     clear c8
     by_cases c9 : a0_1 = 0
     ·
      rw [if_pos c9] at H
      have c9b0 : (a0_1 == 0) = true := beq_iff_eq.mpr c9
      have c9b1 : (a0_1 != 0) = false := bne_eq_false_iff_eq.mpr c9
      clear c9
      obtain rfl := Option.some.inj H
      go_enter Try.func52, Try.ntmps52
      go_wp2_with (first | ((with_reducible refine gate_dst (N := 1) rfl ?_); refine box_event ?hg (N := 1) ?hd (cs := #[.int .i64 a0_0, .int .i64 a0_1, .int .i64 a0_2]) (t := 39) ?hr ?_; (case hd => rfl); (case hg => rfl); (case hr => first | (go_simp; done) | (go_simp; rfl)); intro gb106 hg w10 hbox hb; have BK106 := Aside0.mk (hbox); have GW106 := geL hg HB.out; have GE106 := geL hg HB.out; replace HB := Aside0.mk (below_step (pB HB.out) hb); clear hb hbox hg; have hcz11_0 : w10.cell? ⟨gb106, 0, none⟩ = some (.int .i64 a0_0) := blk_cell BK106.out 0; have hcz11_1 : w10.cell? ⟨gb106, 1, none⟩ = some (.int .i64 a0_1) := blk_cell BK106.out 1; have hcz11_2 : w10.cell? ⟨gb106, 2, none⟩ = some (.int .i64 a0_2) := blk_cell BK106.out 2; have hfz11_0 := blk_frozen BK106.out 0; have hfz11_1 := blk_frozen BK106.out 1; have hfz11_2 := blk_frozen BK106.out 2) | ((with_reducible refine gate_callee (f := 29) rfl ?_); refine goesL_ (some 5) rfl rfl Try.func29 (by kernel_rfl) rfl #[.int .i64 a0_0, .int .i64 0, .int .i64 60000] rfl (by (try simp only [List.map_toArray, List.map_cons, List.map_nil]); first | done | rfl | (simp only [List.length_drop, List.length_take]; done) | (simp only [List.length_drop, List.length_take]; rfl)) ?_; (with_reducible refine (weigh_within.calls a0_0 0 60000 true _ A2.out).mono ?_); rintro e w' ⟨rfl, ⟨nd, rfl⟩⟩; refine ⟨_, rfl, ?_⟩) | (go_at_call 29; (with_reducible refine (weigh_within.calls a0_1 0 200 true _ A4.out).mono ?_); rintro e w' ⟨rfl, ⟨nd, rfl⟩⟩) | (go_at_call 29; (with_reducible refine (weigh_within.calls a0_2 0 200 true _ A6.out).mono ?_); rintro e w' ⟨rfl, ⟨nd, rfl⟩⟩))
      go_ret
      exact ⟨by first | rfl | (simp [errW_none, errW_some] <;> rfl) | (simp [*, errW_none, errW_some] <;> rfl), by repeat (first | (with_reducible first | exact HB.out | apply below_alloc | apply pw_below_drewN | apply below_drew1 | refine below_set ?_ GE106.out) | exact HB.out)⟩
     ·
      rw [if_neg c9] at H
      have c9b0 : (a0_1 == 0) = false := beq_eq_false_iff_ne.mpr c9
      have c9b1 : (a0_1 != 0) = true := bne_iff_ne.mpr c9
      obtain rfl := Option.some.inj H
      go_enter Try.func52, Try.ntmps52
      go_wp2_with (first | ((with_reducible refine gate_dst (N := 1) rfl ?_); refine box_event ?hg (N := 1) ?hd (cs := #[.int .i64 a0_0, .int .i64 a0_1, .int .i64 a0_2]) (t := 39) ?hr ?_; (case hd => rfl); (case hg => rfl); (case hr => first | (go_simp; done) | (go_simp; rfl)); intro gb106 hg w12 hbox hb; have BK106 := Aside0.mk (hbox); have GW106 := geL hg HB.out; have GE106 := geL hg HB.out; replace HB := Aside0.mk (below_step (pB HB.out) hb); clear hb hbox hg; have hcz13_0 : w12.cell? ⟨gb106, 0, none⟩ = some (.int .i64 a0_0) := blk_cell BK106.out 0; have hcz13_1 : w12.cell? ⟨gb106, 1, none⟩ = some (.int .i64 a0_1) := blk_cell BK106.out 1; have hcz13_2 : w12.cell? ⟨gb106, 2, none⟩ = some (.int .i64 a0_2) := blk_cell BK106.out 2; have hfz13_0 := blk_frozen BK106.out 0; have hfz13_1 := blk_frozen BK106.out 1; have hfz13_2 := blk_frozen BK106.out 2) | ((with_reducible refine gate_callee (f := 29) rfl ?_); refine goesL_ (some 5) rfl rfl Try.func29 (by kernel_rfl) rfl #[.int .i64 a0_0, .int .i64 0, .int .i64 60000] rfl (by (try simp only [List.map_toArray, List.map_cons, List.map_nil]); first | done | rfl | (simp only [List.length_drop, List.length_take]; done) | (simp only [List.length_drop, List.length_take]; rfl)) ?_; (with_reducible refine (weigh_within.calls a0_0 0 60000 true _ A2.out).mono ?_); rintro e w' ⟨rfl, ⟨nd, rfl⟩⟩; refine ⟨_, rfl, ?_⟩) | (go_at_call 29; (with_reducible refine (weigh_within.calls a0_1 0 200 true _ A4.out).mono ?_); rintro e w' ⟨rfl, ⟨nd, rfl⟩⟩) | (go_at_call 29; (with_reducible refine (weigh_within.calls a0_2 0 200 true _ A6.out).mono ?_); rintro e w' ⟨rfl, ⟨nd, rfl⟩⟩))
      go_ret
      exact ⟨by first | rfl | (simp [errW_none, errW_some] <;> rfl) | (simp [*, errW_none, errW_some] <;> rfl), by repeat (first | (with_reducible first | exact HB.out | apply below_alloc | apply pw_below_drewN | apply below_drew1 | refine below_set ?_ GE106.out) | exact HB.out)⟩
    ·
     rw [if_neg c8] at H
     have c8b0 : (a0_0 == 0) = false := beq_eq_false_iff_ne.mpr c8
     have c8b1 : (a0_0 != 0) = true := bne_iff_ne.mpr c8
     by_cases c14 : a0_1 > 0
     ·
      rw [if_pos c14] at H
      have c14b0 : decide (0 < a0_1) = true := decide_eq_true c14
      clear c14
      by_cases c15 : a0_1 = 0
      ·
       rw [if_pos c15] at H
       have c15b0 : (a0_1 == 0) = true := beq_iff_eq.mpr c15
       have c15b1 : (a0_1 != 0) = false := bne_eq_false_iff_eq.mpr c15
       clear c15
       obtain rfl := Option.some.inj H
       go_enter Try.func52, Try.ntmps52
       go_wp2_with (first | ((with_reducible refine gate_dst (N := 1) rfl ?_); refine box_event ?hg (N := 1) ?hd (cs := #[.int .i64 a0_0, .int .i64 a0_1, .int .i64 a0_2]) (t := 39) ?hr ?_; (case hd => rfl); (case hg => rfl); (case hr => first | (go_simp; done) | (go_simp; rfl)); intro gb106 hg w16 hbox hb; have BK106 := Aside0.mk (hbox); have GW106 := geL hg HB.out; have GE106 := geL hg HB.out; replace HB := Aside0.mk (below_step (pB HB.out) hb); clear hb hbox hg; have hcz17_0 : w16.cell? ⟨gb106, 0, none⟩ = some (.int .i64 a0_0) := blk_cell BK106.out 0; have hcz17_1 : w16.cell? ⟨gb106, 1, none⟩ = some (.int .i64 a0_1) := blk_cell BK106.out 1; have hcz17_2 : w16.cell? ⟨gb106, 2, none⟩ = some (.int .i64 a0_2) := blk_cell BK106.out 2; have hfz17_0 := blk_frozen BK106.out 0; have hfz17_1 := blk_frozen BK106.out 1; have hfz17_2 := blk_frozen BK106.out 2) | ((with_reducible refine gate_callee (f := 29) rfl ?_); refine goesL_ (some 5) rfl rfl Try.func29 (by kernel_rfl) rfl #[.int .i64 a0_0, .int .i64 0, .int .i64 60000] rfl (by (try simp only [List.map_toArray, List.map_cons, List.map_nil]); first | done | rfl | (simp only [List.length_drop, List.length_take]; done) | (simp only [List.length_drop, List.length_take]; rfl)) ?_; (with_reducible refine (weigh_within.calls a0_0 0 60000 true _ A2.out).mono ?_); rintro e w' ⟨rfl, ⟨nd, rfl⟩⟩; refine ⟨_, rfl, ?_⟩) | (go_at_call 29; (with_reducible refine (weigh_within.calls a0_1 0 200 true _ A4.out).mono ?_); rintro e w' ⟨rfl, ⟨nd, rfl⟩⟩) | (go_at_call 29; (with_reducible refine (weigh_within.calls a0_2 0 200 true _ A6.out).mono ?_); rintro e w' ⟨rfl, ⟨nd, rfl⟩⟩))
       go_ret
       exact ⟨by first | rfl | (simp [errW_none, errW_some] <;> rfl) | (simp [*, errW_none, errW_some] <;> rfl), by repeat (first | (with_reducible first | exact HB.out | apply below_alloc | apply pw_below_drewN | apply below_drew1 | refine below_set ?_ GE106.out) | exact HB.out)⟩
      ·
       rw [if_neg c15] at H
       have c15b0 : (a0_1 == 0) = false := beq_eq_false_iff_ne.mpr c15
       have c15b1 : (a0_1 != 0) = true := bne_iff_ne.mpr c15
       obtain rfl := Option.some.inj H
       go_enter Try.func52, Try.ntmps52
       go_wp2_with (first | ((with_reducible refine gate_dst (N := 1) rfl ?_); refine box_event ?hg (N := 1) ?hd (cs := #[.int .i64 a0_0, .int .i64 a0_1, .int .i64 a0_2]) (t := 39) ?hr ?_; (case hd => rfl); (case hg => rfl); (case hr => first | (go_simp; done) | (go_simp; rfl)); intro gb106 hg w18 hbox hb; have BK106 := Aside0.mk (hbox); have GW106 := geL hg HB.out; have GE106 := geL hg HB.out; replace HB := Aside0.mk (below_step (pB HB.out) hb); clear hb hbox hg; have hcz19_0 : w18.cell? ⟨gb106, 0, none⟩ = some (.int .i64 a0_0) := blk_cell BK106.out 0; have hcz19_1 : w18.cell? ⟨gb106, 1, none⟩ = some (.int .i64 a0_1) := blk_cell BK106.out 1; have hcz19_2 : w18.cell? ⟨gb106, 2, none⟩ = some (.int .i64 a0_2) := blk_cell BK106.out 2; have hfz19_0 := blk_frozen BK106.out 0; have hfz19_1 := blk_frozen BK106.out 1; have hfz19_2 := blk_frozen BK106.out 2) | ((with_reducible refine gate_callee (f := 29) rfl ?_); refine goesL_ (some 5) rfl rfl Try.func29 (by kernel_rfl) rfl #[.int .i64 a0_0, .int .i64 0, .int .i64 60000] rfl (by (try simp only [List.map_toArray, List.map_cons, List.map_nil]); first | done | rfl | (simp only [List.length_drop, List.length_take]; done) | (simp only [List.length_drop, List.length_take]; rfl)) ?_; (with_reducible refine (weigh_within.calls a0_0 0 60000 true _ A2.out).mono ?_); rintro e w' ⟨rfl, ⟨nd, rfl⟩⟩; refine ⟨_, rfl, ?_⟩) | (go_at_call 29; (with_reducible refine (weigh_within.calls a0_1 0 200 true _ A4.out).mono ?_); rintro e w' ⟨rfl, ⟨nd, rfl⟩⟩) | (go_at_call 29; (with_reducible refine (weigh_within.calls a0_2 0 200 true _ A6.out).mono ?_); rintro e w' ⟨rfl, ⟨nd, rfl⟩⟩))
       go_ret
       exact ⟨by first | rfl | (simp [errW_none, errW_some] <;> rfl) | (simp [*, errW_none, errW_some] <;> rfl), by repeat (first | (with_reducible first | exact HB.out | apply below_alloc | apply pw_below_drewN | apply below_drew1 | refine below_set ?_ GE106.out) | exact HB.out)⟩
     ·
      rw [if_neg c14] at H
      have c14b0 : decide (0 < a0_1) = false := decide_eq_false c14
      clear c14
      obtain rfl := Option.some.inj H
      go_enter Try.func52, Try.ntmps52
      go_wp2_with (first | ((with_reducible refine gate_dst (N := 1) rfl ?_); refine box_event ?hg (N := 1) ?hd (cs := #[.int .i64 a0_0, .int .i64 a0_1, .int .i64 a0_2]) (t := 39) ?hr ?_; (case hd => rfl); (case hg => rfl); (case hr => first | (go_simp; done) | (go_simp; rfl)); intro gb106 hg w20 hbox hb; have BK106 := Aside0.mk (hbox); have GW106 := geL hg HB.out; have GE106 := geL hg HB.out; replace HB := Aside0.mk (below_step (pB HB.out) hb); clear hb hbox hg; have hcz21_0 : w20.cell? ⟨gb106, 0, none⟩ = some (.int .i64 a0_0) := blk_cell BK106.out 0; have hcz21_1 : w20.cell? ⟨gb106, 1, none⟩ = some (.int .i64 a0_1) := blk_cell BK106.out 1; have hcz21_2 : w20.cell? ⟨gb106, 2, none⟩ = some (.int .i64 a0_2) := blk_cell BK106.out 2; have hfz21_0 := blk_frozen BK106.out 0; have hfz21_1 := blk_frozen BK106.out 1; have hfz21_2 := blk_frozen BK106.out 2) | ((with_reducible refine gate_callee (f := 29) rfl ?_); refine goesL_ (some 5) rfl rfl Try.func29 (by kernel_rfl) rfl #[.int .i64 a0_0, .int .i64 0, .int .i64 60000] rfl (by (try simp only [List.map_toArray, List.map_cons, List.map_nil]); first | done | rfl | (simp only [List.length_drop, List.length_take]; done) | (simp only [List.length_drop, List.length_take]; rfl)) ?_; (with_reducible refine (weigh_within.calls a0_0 0 60000 true _ A2.out).mono ?_); rintro e w' ⟨rfl, ⟨nd, rfl⟩⟩; refine ⟨_, rfl, ?_⟩) | (go_at_call 29; (with_reducible refine (weigh_within.calls a0_1 0 200 true _ A4.out).mono ?_); rintro e w' ⟨rfl, ⟨nd, rfl⟩⟩) | (go_at_call 29; (with_reducible refine (weigh_within.calls a0_2 0 200 true _ A6.out).mono ?_); rintro e w' ⟨rfl, ⟨nd, rfl⟩⟩))
      go_ret
      exact ⟨by first | rfl | (simp [errW_none, errW_some] <;> rfl) | (simp [*, errW_none, errW_some] <;> rfl), by repeat (first | (with_reducible first | exact HB.out | apply below_alloc | apply pw_below_drewN | apply below_drew1 | refine below_set ?_ GE106.out) | exact HB.out)⟩
   ·
    replace c7 := Bool.eq_false_iff.mpr c7
    subst c7
    have H1 : (some false) = some r := by rw [if_neg (show ¬ (false = true) by decide)] at H; exact H
    clear H
    have H := H1
    clear H1
    obtain rfl := Option.some.inj H
    go_enter Try.func52, Try.ntmps52
    go_wp2_with (first | ((with_reducible refine gate_dst (N := 1) rfl ?_); refine box_event ?hg (N := 1) ?hd (cs := #[.int .i64 a0_0, .int .i64 a0_1, .int .i64 a0_2]) (t := 39) ?hr ?_; (case hd => rfl); (case hg => rfl); (case hr => first | (go_simp; done) | (go_simp; rfl)); intro gb106 hg w22 hbox hb; have BK106 := Aside0.mk (hbox); have GW106 := geL hg HB.out; have GE106 := geL hg HB.out; replace HB := Aside0.mk (below_step (pB HB.out) hb); clear hb hbox hg; have hcz23_0 : w22.cell? ⟨gb106, 0, none⟩ = some (.int .i64 a0_0) := blk_cell BK106.out 0; have hcz23_1 : w22.cell? ⟨gb106, 1, none⟩ = some (.int .i64 a0_1) := blk_cell BK106.out 1; have hcz23_2 : w22.cell? ⟨gb106, 2, none⟩ = some (.int .i64 a0_2) := blk_cell BK106.out 2; have hfz23_0 := blk_frozen BK106.out 0; have hfz23_1 := blk_frozen BK106.out 1; have hfz23_2 := blk_frozen BK106.out 2) | ((with_reducible refine gate_callee (f := 29) rfl ?_); refine goesL_ (some 5) rfl rfl Try.func29 (by kernel_rfl) rfl #[.int .i64 a0_0, .int .i64 0, .int .i64 60000] rfl (by (try simp only [List.map_toArray, List.map_cons, List.map_nil]); first | done | rfl | (simp only [List.length_drop, List.length_take]; done) | (simp only [List.length_drop, List.length_take]; rfl)) ?_; (with_reducible refine (weigh_within.calls a0_0 0 60000 true _ A2.out).mono ?_); rintro e w' ⟨rfl, ⟨nd, rfl⟩⟩; refine ⟨_, rfl, ?_⟩) | (go_at_call 29; (with_reducible refine (weigh_within.calls a0_1 0 200 true _ A4.out).mono ?_); rintro e w' ⟨rfl, ⟨nd, rfl⟩⟩) | (go_at_call 29; (with_reducible refine (weigh_within.calls a0_2 0 200 false _ A6.out).mono ?_); rintro e w' ⟨rfl, ⟨nd, rfl⟩⟩))
    go_ret
    exact ⟨by first | rfl | (simp [errW_none, errW_some] <;> rfl) | (simp [*, errW_none, errW_some] <;> rfl), by repeat (first | (with_reducible first | exact HB.out | apply below_alloc | apply pw_below_drewN | apply below_drew1 | refine below_set ?_ GE106.out) | exact HB.out)⟩
  ·
   replace c5 := Bool.eq_false_iff.mpr c5
   subst c5
   have H1 : (some false) = some r := by rw [if_neg (show ¬ (false = true) by decide)] at H; exact H
   clear H
   have H := H1
   clear H1
   obtain rfl := Option.some.inj H
   go_enter Try.func52, Try.ntmps52
   go_wp2_with (first | ((with_reducible refine gate_dst (N := 1) rfl ?_); refine box_event ?hg (N := 1) ?hd (cs := #[.int .i64 a0_0, .int .i64 a0_1, .int .i64 a0_2]) (t := 39) ?hr ?_; (case hd => rfl); (case hg => rfl); (case hr => first | (go_simp; done) | (go_simp; rfl)); intro gb106 hg w24 hbox hb; have BK106 := Aside0.mk (hbox); have GW106 := geL hg HB.out; have GE106 := geL hg HB.out; replace HB := Aside0.mk (below_step (pB HB.out) hb); clear hb hbox hg; have hcz25_0 : w24.cell? ⟨gb106, 0, none⟩ = some (.int .i64 a0_0) := blk_cell BK106.out 0; have hcz25_1 : w24.cell? ⟨gb106, 1, none⟩ = some (.int .i64 a0_1) := blk_cell BK106.out 1; have hcz25_2 : w24.cell? ⟨gb106, 2, none⟩ = some (.int .i64 a0_2) := blk_cell BK106.out 2; have hfz25_0 := blk_frozen BK106.out 0; have hfz25_1 := blk_frozen BK106.out 1; have hfz25_2 := blk_frozen BK106.out 2) | ((with_reducible refine gate_callee (f := 29) rfl ?_); refine goesL_ (some 5) rfl rfl Try.func29 (by kernel_rfl) rfl #[.int .i64 a0_0, .int .i64 0, .int .i64 60000] rfl (by (try simp only [List.map_toArray, List.map_cons, List.map_nil]); first | done | rfl | (simp only [List.length_drop, List.length_take]; done) | (simp only [List.length_drop, List.length_take]; rfl)) ?_; (with_reducible refine (weigh_within.calls a0_0 0 60000 true _ A2.out).mono ?_); rintro e w' ⟨rfl, ⟨nd, rfl⟩⟩; refine ⟨_, rfl, ?_⟩) | (go_at_call 29; (with_reducible refine (weigh_within.calls a0_1 0 200 false _ A4.out).mono ?_); rintro e w' ⟨rfl, ⟨nd, rfl⟩⟩))
   go_ret
   exact ⟨by first | rfl | (simp [errW_none, errW_some] <;> rfl) | (simp [*, errW_none, errW_some] <;> rfl), by repeat (first | (with_reducible first | exact HB.out | apply below_alloc | apply pw_below_drewN | apply below_drew1 | refine below_set ?_ GE106.out) | exact HB.out)⟩
 ·
  replace c3 := Bool.eq_false_iff.mpr c3
  subst c3
  have H1 : (some false) = some r := by rw [if_neg (show ¬ (false = true) by decide)] at H; exact H
  clear H
  have H := H1
  clear H1
  obtain rfl := Option.some.inj H
  go_enter Try.func52, Try.ntmps52
  go_wp2_with (first | ((with_reducible refine gate_dst (N := 1) rfl ?_); refine box_event ?hg (N := 1) ?hd (cs := #[.int .i64 a0_0, .int .i64 a0_1, .int .i64 a0_2]) (t := 39) ?hr ?_; (case hd => rfl); (case hg => rfl); (case hr => first | (go_simp; done) | (go_simp; rfl)); intro gb106 hg w26 hbox hb; have BK106 := Aside0.mk (hbox); have GW106 := geL hg HB.out; have GE106 := geL hg HB.out; replace HB := Aside0.mk (below_step (pB HB.out) hb); clear hb hbox hg; have hcz27_0 : w26.cell? ⟨gb106, 0, none⟩ = some (.int .i64 a0_0) := blk_cell BK106.out 0; have hcz27_1 : w26.cell? ⟨gb106, 1, none⟩ = some (.int .i64 a0_1) := blk_cell BK106.out 1; have hcz27_2 : w26.cell? ⟨gb106, 2, none⟩ = some (.int .i64 a0_2) := blk_cell BK106.out 2; have hfz27_0 := blk_frozen BK106.out 0; have hfz27_1 := blk_frozen BK106.out 1; have hfz27_2 := blk_frozen BK106.out 2) | ((with_reducible refine gate_callee (f := 29) rfl ?_); refine goesL_ (some 5) rfl rfl Try.func29 (by kernel_rfl) rfl #[.int .i64 a0_0, .int .i64 0, .int .i64 60000] rfl (by (try simp only [List.map_toArray, List.map_cons, List.map_nil]); first | done | rfl | (simp only [List.length_drop, List.length_take]; done) | (simp only [List.length_drop, List.length_take]; rfl)) ?_; (with_reducible refine (weigh_within.calls a0_0 0 60000 false _ A2.out).mono ?_); rintro e w' ⟨rfl, ⟨nd, rfl⟩⟩; refine ⟨_, rfl, ?_⟩))
  go_ret
  exact ⟨by first | rfl | (simp [errW_none, errW_some] <;> rfl) | (simp [*, errW_none, errW_some] <;> rfl), by repeat (first | (with_reducible first | exact HB.out | apply below_alloc | apply pw_below_drewN | apply below_drew1 | refine below_set ?_ GE106.out) | exact HB.out)⟩

/-! ### weigh_row_1: function 51 -/
def weigh_row_1.f (a0_0 : Int) (a0_1 : Int) (a0_2 : Int) : Option (Bool) := (weigh_element.f a0_0 a0_1 a0_2).bind fun t111 => (some (!t111))
set_option maxHeartbeats 8000000 in
set_option maxRecDepth 100000 in
theorem weigh_row_1.calls (a0_0 : Int) (a0_1 : Int) (a0_2 : Int) (r : Bool) (w : World) (h : weigh_row_1.f a0_0 a0_1 a0_2 = some r) :
  Calls Try.prog 51 #[.agg #[.int .i64 a0_0, .int .i64 a0_1, .int .i64 a0_2]] w fun e w' => e = .returned (.bool r) ∧ Below w.heap.size w w' := by
 have hu39 := Try.underlying39
 have HB := Aside0.mk (Below.refl w.heap.size w)
 have H : ((weigh_element.f a0_0 a0_1 a0_2).bind fun t111 => (some (!t111))) = some r := h
 clear h
 replace H := Option.bind_eq_some_iff.mp H
 obtain ⟨t111, A20, H⟩ := H
 replace H : (some (!t111)) = some r := H
 have A2 := Aside0.mk A20
 clear A20
 obtain rfl := Option.some.inj H
 go_enter Try.func51, Try.ntmps51
 go_wp2_with (first | ((with_reducible refine gate_dst (N := 1) rfl ?_); refine box_event ?hg (N := 1) ?hd (cs := #[.int .i64 a0_0, .int .i64 a0_1, .int .i64 a0_2]) (t := 39) ?hr ?_; (case hd => rfl); (case hg => rfl); (case hr => first | (go_simp; done) | (go_simp; rfl)); intro gb110 hg w3 hbox hb; have BK110 := Aside0.mk (hbox); have GW110 := geL hg HB.out; have GE110 := geL hg HB.out; replace HB := Aside0.mk (below_step (pB HB.out) hb); clear hb hbox hg; have hcz4_0 : w3.cell? ⟨gb110, 0, none⟩ = some (.int .i64 a0_0) := blk_cell BK110.out 0; have hcz4_1 : w3.cell? ⟨gb110, 1, none⟩ = some (.int .i64 a0_1) := blk_cell BK110.out 1; have hcz4_2 : w3.cell? ⟨gb110, 2, none⟩ = some (.int .i64 a0_2) := blk_cell BK110.out 2; have hfz4_0 := blk_frozen BK110.out 0; have hfz4_1 := blk_frozen BK110.out 1; have hfz4_2 := blk_frozen BK110.out 2) | ((with_reducible refine gate_callee (f := 52) rfl ?_); refine goesL_ (some 4) rfl rfl Try.func52 (by kernel_rfl) rfl #[.agg #[.int .i64 a0_0, .int .i64 a0_1, .int .i64 a0_2]] rfl (by (try simp only [List.map_toArray, List.map_cons, List.map_nil]); first | done | rfl | (simp only [List.length_drop, List.length_take]; done) | (simp only [List.length_drop, List.length_take]; rfl)) ?_; (with_reducible refine (weigh_element.calls a0_0 a0_1 a0_2 t111 _ A2.out).mono ?_); rintro e w5 ⟨rfl, hb⟩; refine ⟨_, rfl, ?_⟩; replace BK110 := Aside0.mk (blk_below (pb BK110.out) hb); replace HB := Aside0.mk (below_step (pB HB.out) hb); (try clear hb); (try clear hb2); (try clear hk); (try clear hi)))
 go_ret
 exact ⟨by first | rfl | (simp [errW_none, errW_some] <;> rfl) | (simp [*, errW_none, errW_some] <;> rfl), by repeat (first | (with_reducible first | exact HB.out | apply below_alloc | apply pw_below_drewN | apply below_drew1 | refine below_set ?_ GE110.out) | exact HB.out)⟩

/-! ### api_Element: function 50 -/
/-- May an element be? -/
def elemB (e : S39) : Bool := (weigh_element.f e.f0 e.f1 e.f2).getD false
def api_Element.f (l0 : List S39) : Option Bool := if (l0.length : Int) ≤ 9223372036854775806 then some (!(l0.all elemB)) else none
theorem within_ok (a b c : Int) : weigh_within.f a b c = some (decide (b ≤ a) && decide (a ≤ c)) := by
 unfold weigh_within.f
 by_cases h : a ≥ b
 ·
  rw [if_pos h, decide_eq_true (show b ≤ a from h), Bool.true_and]
 ·
  rw [if_neg h, decide_eq_false h, Bool.false_and]
theorem elem_ok (e : S39) : weigh_element.f e.f0 e.f1 e.f2 = some (elemB e) := by
 unfold elemB
 have h : ∃ b, weigh_element.f e.f0 e.f1 e.f2 = some b := by
  unfold weigh_element.f
  rw [within_ok, within_ok, within_ok]
  simp only [Option.bind_some]
  repeat' (first | exact ⟨_, rfl⟩ | split)
 obtain ⟨b, hb⟩ := h
 rw [hb]; rfl
theorem firstAt_not {α : Type} (p : α → Bool) (l : List α) : (decide (0 ≤ firstAt (fun x => !p x) l)) = !(l.all p) := by
 unfold firstAt
 cases h : l.findIdx? (fun x => !p x) with
 | none =>
  have : l.all p = true := by
   rw [List.all_eq_true]
   intro x hx
   have := List.findIdx?_eq_none_iff.1 h x hx
   simpa using this
  rw [this]; rfl
 | some i =>
  obtain ⟨hi, hp, _⟩ := List.findIdx?_eq_some_iff_getElem.1 h
  have : l.all p = false := by
   rw [List.all_eq_false]
   exact ⟨l[i], List.getElem_mem _, by simpa using hp⟩
  rw [this]; simp
theorem row1_any (e : S39) (w : World) : Calls Try.prog 51 #[.agg #[.int .i64 e.f0, .int .i64 e.f1, .int .i64 e.f2]] w fun r w' => r = .returned (.bool (!elemB e)) ∧ Below w.heap.size w w' :=
 weigh_row_1.calls e.f0 e.f1 e.f2 _ w (by unfold weigh_row_1.f; rw [elem_ok]; rfl)
set_option maxHeartbeats 2000000 in
set_option maxRecDepth 100000 in
theorem indexElem_any (A0 : Option Addr) (c0 : Nat) (l0 : List S39) (w : World) (hr : Kd.C k39 w A0 l0.length l0) (hl : (l0.length : Int) ≤ 9223372036854775806) :
  Calls Try.prog 63 #[.slice A0 l0.length c0, .func (.func 51) #[] #[]] w
   fun r w' => r = .returned (.int .i64 (firstAt (fun e => !elemB e) l0)) ∧ Below w.heap.size w w' := by
 have HR := Aside0.mk hr
 have HL := Aside0.mk hl
 clear hr hl
 go_enter Try.func63, Try.ntmps63
 go_wp2
 go_loopw [8] (fun i wr => ∃ k : Nat, i = .int .i64 k ∧ Aside0 (k ≤ l0.length) ∧ Aside0 (Below w.heap.size w wr) ∧ Aside0 (∀ j < k, (fun e => !elemB e) (l0.getD j z39) = false)) (fun i _ => l0.length - (intOf i).toNat)
 case atStart => exact ⟨0, rfl, ⟨by omega⟩, ⟨Below.refl _ _⟩, ⟨by omega⟩⟩
 case round =>
  obtain ⟨k, rfl, HK, HB, HA⟩ := hrel
  by_cases hlt : (k : Int) < (l0.length : Int)
  ·
   have hb0 : decide ((k : Int) < (l0.length : Int)) = true := decide_eq_true hlt
   have KL := Aside0.mk (show k < l0.length by omega)
   obtain ⟨ad, e, hx0, hx1, hx2⟩ := at_T39 HR.out k (by omega) hlt
   cases e
   simp only [Int.toNat_natCast] at hx0 hx1 hx2
   replace hx0 := cell_keep HB.out hx0
   replace hx1 := cell_keep HB.out hx1
   replace hx2 := cell_keep HB.out hx2
   have F := Aside0.mk (row1_any (rd_T39 l0 k) wr)
   have HW := Aside0.mk (show wrap64 ((k : Int) + 1) = ((k + 1 : Nat) : Int) by have := HL.out; unfold wrap64; omega)
   have p1 := eq_true (show 0 ≤ (k : Int) by omega)
   have q1 := eq_true hlt
   clear hlt
   cases hh : elemB (rd_T39 l0 k)
   ·
    rw [hh] at F
    have HH : Aside0 ((fun e => !elemB e) (l0.getD k z39) = true) := ⟨by show (!elemB (rd_T39 l0 k)) = true; rw [hh]; rfl⟩
    clear hh
    go_wp2_with fail
    refine F.out.mono ?_
    rintro z w1 ⟨rfl, hb⟩
    have HB1 := aside_step hb HB
    clear hb
    go_wp2_with fail
    go_ret
    exact ⟨ret_int (firstAt_at (d := z39) KL.out HH.out HA.out).symm, HB1.out⟩
   ·
    rw [hh] at F
    have HH : Aside0 ((fun e => !elemB e) (l0.getD k z39) = false) := ⟨by show (!elemB (rd_T39 l0 k)) = false; rw [hh]; rfl⟩
    clear hh
    go_wp2_with fail
    refine F.out.mono ?_
    rintro z w1 ⟨rfl, hb⟩
    have HB1 := aside_step hb HB
    clear hb
    go_wp2_with fail
    go_roundw
    case rel =>
     refine ⟨k + 1, by rw [HW.out], ⟨by have := KL.out; omega⟩, HB1, ⟨fun j hj => ?_⟩⟩
     rcases Nat.lt_succ_iff_lt_or_eq.1 hj with h | rfl
     ·
      exact HA.out j h
     ·
      exact HH.out
    case measure => have := KL.out; rw [HW.out]; simp [intOf]; omega
  ·
   obtain rfl : k = l0.length := by have := HK.out; omega
   clear hlt
   go_wp2
   go_ret
   exact ⟨ret_int (firstAt_none (d := z39) (fun j hj => HA.out j hj)).symm, HB.out⟩
set_option maxHeartbeats 8000000 in
set_option maxRecDepth 100000 in
theorem api_Element.calls (A0 : Option Addr) (c0 : Nat) (l0 : List (S39)) (r : Bool) (w : World) (hr0 : Kd.C k39 w A0 l0.length l0) (hc0 : l0.length ≤ c0) (h : api_Element.f l0 = some r) :
  Calls Try.prog 50 #[.slice A0 l0.length c0, .func (.func 51) #[] #[]] w fun e w' => e = .returned (.bool r) ∧ Below w.heap.size w w' := by
 unfold api_Element.f at h
 split at h
 case isFalse => cases h
 case isTrue hl =>
 obtain rfl := Option.some.inj h
 have FF := Aside0.mk (indexElem_any A0 c0 l0 w hr0 hl)
 clear hr0 hc0 h hl
 go_enter Try.func50, Try.ntmps50
 go_wp2_with fail
 refine FF.out.mono ?_
 rintro e w1 ⟨rfl, hb⟩
 have HB := Aside0.mk hb
 clear hb FF
 go_wp2_with fail
 go_ret
 rw [← firstAt_not]
 exact ⟨rfl, HB.out⟩
-- weigh.May: whether a table may be. weigh.find, weigh.search and slices.BinarySearchFunc are walked here.

/-! ### weigh_row: function 30 -/
mutual
def weigh_row.j0 : Nat → Bool → List (S42) → List (S44) → Int → Bool → List Int → List (S39) → Option (Bool)
 | 0, _, _, _, _, _, _, _ => none
 | k + 1, x17, x113000, x113001, x113002, x113003, x114000, x114001 => if x17 = true then (some false) else (weigh_row.l0 k x114000 (x114000.length : Int) 0 x113000 x113001 x113002 x113003 x114000 x114001)
def weigh_row.l0 : Nat → List Int → Int → Int → List (S42) → List (S44) → Int → Bool → List Int → List (S39) → Option (Bool)
 | 0, _, _, _, _, _, _, _, _, _ => none
 | k + 1, x19, x20, x21, x113000, x113001, x113002, x113003, x114000, x114001 => if x21 < x20 then (if 0 ≤ x21 then (if x21 < (x19.length : Int) then ((weigh_rune.f x113000 x113001 x113002 x113003 (rd x19 x21)).bind fun t116 => (if t116 = true then (weigh_row.l0 k x19 x20 (wrap64 (x21 + 1)) x113000 x113001 x113002 x113003 x114000 x114001) else (some false))) else (none)) else (none)) else ((api_Element.f x114001).bind fun t117 => (some (!t117)))
end
def weigh_row.f (k : Nat) (l0_0 : List (S42)) (l0_1 : List (S44)) (a0_2 : Int) (a0_3 : Bool) (l1_0 : List Int) (l1_1 : List (S39)) : Option (Bool) := (weigh_within.f (l1_0.length : Int) 1 3).bind fun t114 => (if t114 = true then (weigh_row.j0 k (decide ((l1_1.length : Int) > 4)) l0_0 l0_1 a0_2 a0_3 l1_0 l1_1) else (weigh_row.j0 k true l0_0 l0_1 a0_2 a0_3 l1_0 l1_1))
theorem weigh_row.mono_l : ∀ k, (∀ y0 y1 y2 y3 y4 y5 y6, LeO (weigh_row.j0 k y0 y1 y2 y3 y4 y5 y6) (weigh_row.j0 (k + 1) y0 y1 y2 y3 y4 y5 y6)) ∧ (∀ y0 y1 y2 y3 y4 y5 y6 y7 y8, LeO (weigh_row.l0 k y0 y1 y2 y3 y4 y5 y6 y7 y8) (weigh_row.l0 (k + 1) y0 y1 y2 y3 y4 y5 y6 y7 y8))
 | 0 => ⟨fun _ _ _ _ _ _ _ r h => by simp [weigh_row.j0] at h, fun _ _ _ _ _ _ _ _ _ r h => by simp [weigh_row.l0] at h⟩
 | k + 1 => by
  obtain ⟨ih0, ih1⟩ := weigh_row.mono_l k
  refine ⟨?_, ?_⟩
  ·
   intro y0 y1 y2 y3 y4 y5 y6
   unfold weigh_row.j0
   repeat' first
   | (with_reducible exact ih0 _ _ _ _ _ _ _)
   | (with_reducible exact ih1 _ _ _ _ _ _ _ _ _)
   | (with_reducible exact LeO.refl _)
   | (with_reducible exact LeO.none _)
   | (with_reducible refine LeO.ite ?_ ?_)
   | (with_reducible refine LeO.bind ?_ (fun _ => ?_))
   | exact ih0 _ _ _ _ _ _ _
   | exact ih1 _ _ _ _ _ _ _ _ _
   | exact LeO.none _
   | refine LeO.ite ?_ ?_
   | refine LeO.bind ?_ (fun _ => ?_)
  ·
   intro y0 y1 y2 y3 y4 y5 y6 y7 y8
   unfold weigh_row.l0
   repeat' first
   | (with_reducible exact ih0 _ _ _ _ _ _ _)
   | (with_reducible exact ih1 _ _ _ _ _ _ _ _ _)
   | (with_reducible exact LeO.refl _)
   | (with_reducible exact LeO.none _)
   | (with_reducible refine LeO.ite ?_ ?_)
   | (with_reducible refine LeO.bind ?_ (fun _ => ?_))
   | exact ih0 _ _ _ _ _ _ _
   | exact ih1 _ _ _ _ _ _ _ _ _
   | exact LeO.none _
   | refine LeO.ite ?_ ?_
   | refine LeO.bind ?_ (fun _ => ?_)
theorem weigh_row.mono : ∀ a0 a1 a2 a3 a4 a5 k, LeO (weigh_row.f k a0 a1 a2 a3 a4 a5) (weigh_row.f (k + 1) a0 a1 a2 a3 a4 a5) := by
 intro a0 a1 a2 a3 a4 a5 k
 obtain ⟨ih0, ih1⟩ := weigh_row.mono_l k
 unfold weigh_row.f
 repeat' first
   | (with_reducible exact ih0 _ _ _ _ _ _ _)
   | (with_reducible exact ih1 _ _ _ _ _ _ _ _ _)
   | (with_reducible exact LeO.refl _)
   | (with_reducible exact LeO.none _)
   | (with_reducible refine LeO.ite ?_ ?_)
   | (with_reducible refine LeO.bind ?_ (fun _ => ?_))
   | exact ih0 _ _ _ _ _ _ _
   | exact ih1 _ _ _ _ _ _ _ _ _
   | exact LeO.none _
   | refine LeO.ite ?_ ?_
   | refine LeO.bind ?_ (fun _ => ?_)
set_option maxHeartbeats 8000000 in
set_option maxRecDepth 100000 in
theorem weigh_row.calls (k : Nat) (A0_0 : Option Addr) (c0_0 : Nat) (l0_0 : List (S42)) (A0_1 : Option Addr) (c0_1 : Nat) (l0_1 : List (S44)) (a0_2 : Int) (a0_3 : Bool) (A1_0 : Option Addr) (c1_0 : Nat) (l1_0 : List Int) (A1_1 : Option Addr) (c1_1 : Nat) (l1_1 : List (S39)) (r : Bool) (w : World) (hr0_0 : Kd.C k42 w A0_0 l0_0.length l0_0) (hc0_0 : l0_0.length ≤ c0_0) (hr0_1 : Kd.C k44 w A0_1 l0_1.length l0_1) (hc0_1 : l0_1.length ≤ c0_1) (hr1_0 : Kd.C (Kd.int .i32) w A1_0 l1_0.length l1_0) (hc1_0 : l1_0.length ≤ c1_0) (hr1_1 : Kd.C k39 w A1_1 l1_1.length l1_1) (hc1_1 : l1_1.length ≤ c1_1) (h : weigh_row.f k l0_0 l0_1 a0_2 a0_3 l1_0 l1_1 = some r) :
  Calls Try.prog 30 #[.agg #[.slice A0_0 l0_0.length c0_0, .slice A0_1 l0_1.length c0_1, .int .i64 a0_2, .bool a0_3], .agg #[.slice A1_0 l1_0.length c1_0, .slice A1_1 l1_1.length c1_1]] w fun e w' => e = .returned (.bool r) ∧ Below w.heap.size w w' := by
 have hu25 := Try.underlying25
 have hu44 := Try.underlying44
 have HR0_0 := Aside0.mk hr0_0
 have HC0_0 := Aside0.mk hc0_0
 clear hr0_0 hc0_0
 have HR0_1 := Aside0.mk hr0_1
 have HC0_1 := Aside0.mk hc0_1
 clear hr0_1 hc0_1
 have HR1_0 := Aside0.mk hr1_0
 have HC1_0 := Aside0.mk hc1_0
 clear hr1_0 hc1_0
 have HR1_1 := Aside0.mk hr1_1
 have HC1_1 := Aside0.mk hc1_1
 clear hr1_1 hc1_1
 have HB := Aside0.mk (Below.refl w.heap.size w)
 have H : ((weigh_within.f (l1_0.length : Int) 1 3).bind fun t114 => (if t114 = true then (weigh_row.j0 k (decide ((l1_1.length : Int) > 4)) l0_0 l0_1 a0_2 a0_3 l1_0 l1_1) else (weigh_row.j0 k true l0_0 l0_1 a0_2 a0_3 l1_0 l1_1))) = some r := h
 clear h
 have HC3 := Aside0.mk H
 clear H
 go_enter Try.func30, Try.ntmps30
 go_upto_region 1 with (first | ((with_reducible refine gate_dst (N := 2) rfl ?_); (try (refine gate_guard (by rfl) ?_; dsimp only)); refine box_event ?hg (N := 2) ?hd (cs := #[.slice A0_0 l0_0.length c0_0, .slice A0_1 l0_1.length c0_1, .int .i64 a0_2, .bool a0_3]) (t := 25) ?hr ?_; (case hd => rfl); (case hg => rfl); (case hr => first | (go_simp; done) | (go_simp; rfl)); intro gb112 hg w4 hbox hb; have BK112 := Aside0.mk (hbox); have GW112 := geL hg HB.out; have GE112 := geL hg HB.out; replace HB := Aside0.mk (below_step (pB HB.out) hb); clear hb hbox hg) | ((with_reducible refine gate_dst (N := 3) rfl ?_); (try (refine gate_guard (by rfl) ?_; dsimp only)); refine box_event ?hg (N := 3) ?hd (cs := #[.slice A1_0 l1_0.length c1_0, .slice A1_1 l1_1.length c1_1]) (t := 44) ?hr ?_; (case hd => rfl); (case hg => rfl); (case hr => first | (go_simp; done) | (go_simp; rfl)); intro gb113 hg w5 hbox hb; have BK113 := Aside0.mk (hbox); have GW113 := geL hg HB.out; have GE113 := geL hg HB.out; have NB112_113 := neL hg BK112.out; have NB113_112 := neG hg BK112.out; replace BK112 := Aside0.mk (blk_below (pb BK112.out) hb); replace HB := Aside0.mk (below_step (pB HB.out) hb); clear hb hbox hg))
 (try simp only [Act.put, List.setIfInBounds_toArray, List.set_cons_zero, List.set_cons_succ])
 go_cut [17] (fun v17 wc => ∃ (kq : Nat) (x17_2 : Bool), v17 = .bool x17_2 ∧ Aside0 (weigh_row.j0 kq x17_2 l0_0 l0_1 a0_2 a0_3 l1_0 l1_1 = some r) ∧ Aside0 (kq ≤ k) ∧ Aside0 (wc.heap[gb112]? = some (.cells #[(.slice A0_0 l0_0.length c0_0), (.slice A0_1 l0_1.length c0_1), .int .i64 a0_2, .bool a0_3] 25 (0, 0))) ∧ Aside0 (wc.heap[gb113]? = some (.cells #[(.slice A1_0 l1_0.length c1_0), (.slice A1_1 l1_1.length c1_1)] 44 (0, 0))) ∧ Aside0 (Below w.heap.size w wc))
 case first =>
  have H := HC3.out
  clear HC3
  replace H := Option.bind_eq_some_iff.mp H
  obtain ⟨t114, A60, H⟩ := H
  replace H : (if t114 = true then (weigh_row.j0 k (decide ((l1_1.length : Int) > 4)) l0_0 l0_1 a0_2 a0_3 l1_0 l1_1) else (weigh_row.j0 k true l0_0 l0_1 a0_2 a0_3 l1_0 l1_1)) = some r := H
  have A6 := Aside0.mk A60
  clear A60
  by_cases c7 : t114 = true
  ·
   subst c7
   have H1 : (weigh_row.j0 k (decide ((l1_1.length : Int) > 4)) l0_0 l0_1 a0_2 a0_3 l1_0 l1_1) = some r := by rw [if_pos rfl] at H; exact H
   clear H
   have H := H1
   clear H1
   have H' := Aside0.mk H
   clear H
   have hnb8 := NB113_112.out
   have hnc8 := NB112_113.out
   have hcz9_0 : w5.cell? ⟨gb113, 0, none⟩ = some (.slice A1_0 l1_0.length c1_0) := blk_cell BK113.out 0
   have hcz9_1 : w5.cell? ⟨gb113, 1, none⟩ = some (.slice A1_1 l1_1.length c1_1) := blk_cell BK113.out 1
   have hfz9_0 := blk_frozen BK113.out 0
   have hfz9_1 := blk_frozen BK113.out 1
   go_wp2_with (first | ((with_reducible refine gate_callee (f := 29) rfl ?_); refine goesL_ (some 10) rfl rfl Try.func29 (by kernel_rfl) rfl #[.int .i64 (l1_0.length : Int), .int .i64 1, .int .i64 3] rfl (by (try simp only [List.map_toArray, List.map_cons, List.map_nil]); first | done | rfl | (simp only [List.length_drop, List.length_take]; done) | (simp only [List.length_drop, List.length_take]; rfl)) ?_; (with_reducible refine (weigh_within.calls (l1_0.length : Int) 1 3 true _ A6.out).mono ?_); rintro e w' ⟨rfl, ⟨nd, rfl⟩⟩; refine ⟨_, rfl, ?_⟩))
   go_meet
   case rel => exact ⟨_, (decide ((l1_1.length : Int) > 4)), (by first | rfl | (simp; done) | (simp [*]; done)), H', ⟨by first | omega | exact Nat.le_refl _⟩, ⟨by (with_reducible repeat (first | refine blk_drewN ?_ _ | refine blk_drew ?_ | refine blk_alloc ?_ _)); exact BK112.out⟩, ⟨by (with_reducible repeat (first | refine blk_drewN ?_ _ | refine blk_drew ?_ | refine blk_alloc ?_ _)); exact BK113.out⟩, ⟨by repeat (first | (with_reducible first | exact HB.out | apply below_alloc | apply pw_below_drewN | apply below_drew1 | refine below_set ?_ GE112.out | refine below_set ?_ GE113.out) | exact HB.out)⟩⟩
  ·
   replace c7 := Bool.eq_false_iff.mpr c7
   subst c7
   have H1 : (weigh_row.j0 k true l0_0 l0_1 a0_2 a0_3 l1_0 l1_1) = some r := by rw [if_neg (show ¬ (false = true) by decide)] at H; exact H
   clear H
   have H := H1
   clear H1
   have H' := Aside0.mk H
   clear H
   have hnb10 := NB113_112.out
   have hnc10 := NB112_113.out
   have hcz11_0 : w5.cell? ⟨gb113, 0, none⟩ = some (.slice A1_0 l1_0.length c1_0) := blk_cell BK113.out 0
   have hcz11_1 : w5.cell? ⟨gb113, 1, none⟩ = some (.slice A1_1 l1_1.length c1_1) := blk_cell BK113.out 1
   have hfz11_0 := blk_frozen BK113.out 0
   have hfz11_1 := blk_frozen BK113.out 1
   go_wp2_with (first | ((with_reducible refine gate_callee (f := 29) rfl ?_); refine goesL_ (some 10) rfl rfl Try.func29 (by kernel_rfl) rfl #[.int .i64 (l1_0.length : Int), .int .i64 1, .int .i64 3] rfl (by (try simp only [List.map_toArray, List.map_cons, List.map_nil]); first | done | rfl | (simp only [List.length_drop, List.length_take]; done) | (simp only [List.length_drop, List.length_take]; rfl)) ?_; (with_reducible refine (weigh_within.calls (l1_0.length : Int) 1 3 false _ A6.out).mono ?_); rintro e w' ⟨rfl, ⟨nd, rfl⟩⟩; refine ⟨_, rfl, ?_⟩))
   go_meet
   case rel => exact ⟨_, (true), (by first | rfl | (simp; done) | (simp [*]; done)), H', ⟨by first | omega | exact Nat.le_refl _⟩, ⟨by (with_reducible repeat (first | refine blk_drewN ?_ _ | refine blk_drew ?_ | refine blk_alloc ?_ _)); exact BK112.out⟩, ⟨by (with_reducible repeat (first | refine blk_drewN ?_ _ | refine blk_drew ?_ | refine blk_alloc ?_ _)); exact BK113.out⟩, ⟨by repeat (first | (with_reducible first | exact HB.out | apply below_alloc | apply pw_below_drewN | apply below_drew1 | refine below_set ?_ GE112.out | refine below_set ?_ GE113.out) | exact HB.out)⟩⟩
 case rest =>
  clear HC3
  try clear c1
  try clear c2
  try clear p2
  try clear c3
  try clear c7
  try clear c8
  try clear c10
  try clear hcz11_0
  try clear hcz11_1
  try clear hcz9_0
  try clear hcz9_1
  try clear hfz11_0
  try clear hfz11_1
  try clear hfz9_0
  try clear hfz9_1
  obtain ⟨kq, x17_2, rfl, HA, HJ2, BK112, BK113, HB⟩ := hcut
  cases kq with
  | zero => exact absurd HA.out (by simp [weigh_row.j0])
  | succ kj2 =>
   have H := HA.out
   clear HA
   simp only [weigh_row.j0] at H
   by_cases c12 : x17_2 = true
   ·
    subst c12
    have H1 : (some false) = some r := by rw [if_pos rfl] at H; exact H
    clear H
    have H := H1
    clear H1
    obtain rfl := Option.some.inj H
    go_wp2
    go_ret
    exact ⟨by first | rfl | (simp [errW_none, errW_some] <;> rfl) | (simp [*, errW_none, errW_some] <;> rfl), by repeat (first | (with_reducible first | exact HB.out | apply below_alloc | apply pw_below_drewN | apply below_drew1 | refine below_set ?_ GE112.out | refine below_set ?_ GE113.out) | exact HB.out)⟩
   ·
    replace c12 := Bool.eq_false_iff.mpr c12
    subst c12
    have H1 : (weigh_row.l0 kj2 l1_0 (l1_0.length : Int) 0 l0_0 l0_1 a0_2 a0_3 l1_0 l1_1) = some r := by rw [if_neg (show ¬ (false = true) by decide)] at H; exact H
    clear H
    have H := H1
    clear H1
    have H' := Aside0.mk H
    clear H
    have hnb13 := NB113_112.out
    have hnc13 := NB112_113.out
    have hcz14_0 : wc.cell? ⟨gb113, 0, none⟩ = some (.slice A1_0 l1_0.length c1_0) := blk_cell BK113.out 0
    have hcz14_1 : wc.cell? ⟨gb113, 1, none⟩ = some (.slice A1_1 l1_1.length c1_1) := blk_cell BK113.out 1
    have hfz14_0 := blk_frozen BK113.out 0
    have hfz14_1 := blk_frozen BK113.out 1
    go_wp2
    go_loopg [21] kj2 (fun kq v21 w' => ∃ (x21_2 : Int), v21 = .int .i64 x21_2 ∧ Aside0 (weigh_row.l0 kq l1_0 (l1_0.length : Int) x21_2 l0_0 l0_1 a0_2 a0_3 l1_0 l1_1 = some r) ∧ Aside0 (kq ≤ kj2) ∧ Aside0 (w'.heap[gb112]? = some (.cells #[(.slice A0_0 l0_0.length c0_0), (.slice A0_1 l0_1.length c0_1), .int .i64 a0_2, .bool a0_3] 25 (0, 0))) ∧ Aside0 (w'.heap[gb113]? = some (.cells #[(.slice A1_0 l1_0.length c1_0), (.slice A1_1 l1_1.length c1_1)] 44 (0, 0))) ∧ Aside0 (Below w.heap.size w w'))
    case atStart => exact ⟨(0), (by first | rfl | (simp; done) | (simp [*]; done)), H', ⟨Nat.le_refl _⟩, ⟨by (with_reducible repeat (first | refine blk_drewN ?_ _ | refine blk_drew ?_ | refine blk_alloc ?_ _)); exact BK112.out⟩, ⟨by (with_reducible repeat (first | refine blk_drewN ?_ _ | refine blk_drew ?_ | refine blk_alloc ?_ _)); exact BK113.out⟩, ⟨by repeat (first | (with_reducible first | exact HB.out | apply below_alloc | apply pw_below_drewN | apply below_drew1 | refine below_set ?_ GE112.out | refine below_set ?_ GE113.out) | exact HB.out)⟩⟩
    case round =>
     clear H'
     try clear c1
     try clear c2
     try clear p2
     try clear c3
     try clear c7
     try clear c8
     try clear c10
     try clear c12
     try clear c13
     try clear hcz11_0
     try clear hcz11_1
     try clear hcz14_0
     try clear hcz14_1
     try clear hcz9_0
     try clear hcz9_1
     try clear hfz11_0
     try clear hfz11_1
     try clear hfz14_0
     try clear hfz14_1
     try clear hfz9_0
     try clear hfz9_1
     try clear p2
     obtain ⟨x21_2, rfl, HA, HK2, BK112, BK113, HB⟩ := hrel
     cases gk with
     | zero => exact absurd HA.out (by simp [weigh_row.l0])
     | succ k2 =>
      have H := HA.out
      clear HA
      simp only [weigh_row.l0] at H
      by_cases c15 : x21_2 < (l1_0.length : Int)
      ·
       rw [if_pos c15] at H
       have c15b0 : decide (x21_2 < (l1_0.length : Int)) = true := decide_eq_true c15
       clear c15
       by_cases c16 : 0 ≤ x21_2
       ·
        rw [if_pos c16] at H
        have c16b0 : decide (0 ≤ x21_2) = true := decide_eq_true c16
        clear c16
        by_cases c17 : x21_2 < (l1_0.length : Int)
        ·
         rw [if_pos c17] at H
         have c17b0 : decide (x21_2 < (l1_0.length : Int)) = true := decide_eq_true c17
         clear c17
         replace H := Option.bind_eq_some_iff.mp H
         obtain ⟨t116, A180, H⟩ := H
         replace H : (if t116 = true then (weigh_row.l0 k2 l1_0 (l1_0.length : Int) (wrap64 (x21_2 + 1)) l0_0 l0_1 a0_2 a0_3 l1_0 l1_1) else (some false)) = some r := H
         have A18 := Aside0.mk A180
         clear A180
         by_cases c19 : t116 = true
         ·
          subst c19
          have H1 : (weigh_row.l0 k2 l1_0 (l1_0.length : Int) (wrap64 (x21_2 + 1)) l0_0 l0_1 a0_2 a0_3 l1_0 l1_1) = some r := by rw [if_pos rfl] at H; exact H
          clear H
          have H := H1
          clear H1
          have H' := Aside0.mk H
          clear H
          have p115 : 0 ≤ (x21_2 : Int) := of_decide_eq_true (by first | (with_reducible assumption) | assumption)
          have q115 : x21_2 < (l1_0.length : Int) := of_decide_eq_true (by first | (with_reducible assumption) | assumption)
          obtain ⟨ad115, e115, hx115_0⟩ := Kd.at_int HR1_0.out x21_2 p115 q115
          cases e115
          replace hx115_0 := (HB.out.cell (World.block_lt_of_cell? w _ hx115_0)).trans hx115_0
          replace p115 := eq_true p115
          replace q115 := eq_true q115
          have hnb20 := NB112_113.out
          have hnc20 := NB113_112.out
          have hcz21_0 : wr.cell? ⟨gb112, 0, none⟩ = some (.slice A0_0 l0_0.length c0_0) := blk_cell BK112.out 0
          have hcz21_1 : wr.cell? ⟨gb112, 1, none⟩ = some (.slice A0_1 l0_1.length c0_1) := blk_cell BK112.out 1
          have hcz21_2 : wr.cell? ⟨gb112, 2, none⟩ = some (.int .i64 a0_2) := blk_cell BK112.out 2
          have hcz21_3 : wr.cell? ⟨gb112, 3, none⟩ = some (.bool a0_3) := blk_cell BK112.out 3
          have hfz21_0 := blk_frozen BK112.out 0
          have hfz21_1 := blk_frozen BK112.out 1
          have hfz21_2 := blk_frozen BK112.out 2
          have hfz21_3 := blk_frozen BK112.out 3
          go_wp2_with (first | ((with_reducible refine gate_callee (f := 49) rfl ?_); refine goesL_ (some 27) rfl rfl Try.func49 (by kernel_rfl) rfl #[.agg #[.slice A0_0 l0_0.length c0_0, .slice A0_1 l0_1.length c0_1, .int .i64 a0_2, .bool a0_3], .int .i32 (rd l1_0 x21_2)] rfl (by (try simp only [List.map_toArray, List.map_cons, List.map_nil]); first | done | rfl | (simp only [List.length_drop, List.length_take]; done) | (simp only [List.length_drop, List.length_take]; rfl)) ?_; (with_reducible refine (weigh_rune.calls _ _ l0_0 _ _ l0_1 a0_2 a0_3 (rd l1_0 x21_2) true _ ?side1 ?side2 ?side3 ?side4 A18.out).mono ?_); (case side1 => repeat (first | exact (Kd.C_below HR0_0.out HB.out) | (with_reducible refine Kd.C_alloc ?_ _) | (with_reducible refine Kd.C_drewN ?_ _) | (with_reducible refine Kd.C_drew ?_))); (case side2 => exact HC0_0.out); (case side3 => repeat (first | exact (Kd.C_below HR0_1.out HB.out) | (with_reducible refine Kd.C_alloc ?_ _) | (with_reducible refine Kd.C_drewN ?_ _) | (with_reducible refine Kd.C_drew ?_))); (case side4 => exact HC0_1.out); rintro e w22 ⟨rfl, hb⟩; refine ⟨_, rfl, ?_⟩; replace BK112 := Aside0.mk (blk_below (pb BK112.out) hb); replace BK113 := Aside0.mk (blk_below (pb BK113.out) hb); replace HB := Aside0.mk (below_step (pB HB.out) hb); (try clear hb); (try clear hb2); (try clear hk); (try clear hi)))
          go_roundg k2
          case measure => have := HJ2.out; have := HK2.out; omega
          case rel => exact ⟨(wrap64 (x21_2 + 1)), (by first | rfl | (simp; done) | (simp [*]; done)), H', ⟨by have := HJ2.out; have := HK2.out; omega⟩, ⟨by (with_reducible repeat (first | refine blk_drewN ?_ _ | refine blk_drew ?_ | refine blk_alloc ?_ _)); exact BK112.out⟩, ⟨by (with_reducible repeat (first | refine blk_drewN ?_ _ | refine blk_drew ?_ | refine blk_alloc ?_ _)); exact BK113.out⟩, ⟨by repeat (first | (with_reducible first | exact HB.out | apply below_alloc | apply pw_below_drewN | apply below_drew1 | refine below_set ?_ GE112.out | refine below_set ?_ GE113.out) | exact HB.out)⟩⟩
         ·
          replace c19 := Bool.eq_false_iff.mpr c19
          subst c19
          have H1 : (some false) = some r := by rw [if_neg (show ¬ (false = true) by decide)] at H; exact H
          clear H
          have H := H1
          clear H1
          obtain rfl := Option.some.inj H
          have p115 : 0 ≤ (x21_2 : Int) := of_decide_eq_true (by first | (with_reducible assumption) | assumption)
          have q115 : x21_2 < (l1_0.length : Int) := of_decide_eq_true (by first | (with_reducible assumption) | assumption)
          obtain ⟨ad115, e115, hx115_0⟩ := Kd.at_int HR1_0.out x21_2 p115 q115
          cases e115
          replace hx115_0 := (HB.out.cell (World.block_lt_of_cell? w _ hx115_0)).trans hx115_0
          replace p115 := eq_true p115
          replace q115 := eq_true q115
          have hnb23 := NB112_113.out
          have hnc23 := NB113_112.out
          have hcz24_0 : wr.cell? ⟨gb112, 0, none⟩ = some (.slice A0_0 l0_0.length c0_0) := blk_cell BK112.out 0
          have hcz24_1 : wr.cell? ⟨gb112, 1, none⟩ = some (.slice A0_1 l0_1.length c0_1) := blk_cell BK112.out 1
          have hcz24_2 : wr.cell? ⟨gb112, 2, none⟩ = some (.int .i64 a0_2) := blk_cell BK112.out 2
          have hcz24_3 : wr.cell? ⟨gb112, 3, none⟩ = some (.bool a0_3) := blk_cell BK112.out 3
          have hfz24_0 := blk_frozen BK112.out 0
          have hfz24_1 := blk_frozen BK112.out 1
          have hfz24_2 := blk_frozen BK112.out 2
          have hfz24_3 := blk_frozen BK112.out 3
          go_wp2_with (first | ((with_reducible refine gate_callee (f := 49) rfl ?_); refine goesL_ (some 27) rfl rfl Try.func49 (by kernel_rfl) rfl #[.agg #[.slice A0_0 l0_0.length c0_0, .slice A0_1 l0_1.length c0_1, .int .i64 a0_2, .bool a0_3], .int .i32 (rd l1_0 x21_2)] rfl (by (try simp only [List.map_toArray, List.map_cons, List.map_nil]); first | done | rfl | (simp only [List.length_drop, List.length_take]; done) | (simp only [List.length_drop, List.length_take]; rfl)) ?_; (with_reducible refine (weigh_rune.calls _ _ l0_0 _ _ l0_1 a0_2 a0_3 (rd l1_0 x21_2) false _ ?side1 ?side2 ?side3 ?side4 A18.out).mono ?_); (case side1 => repeat (first | exact (Kd.C_below HR0_0.out HB.out) | (with_reducible refine Kd.C_alloc ?_ _) | (with_reducible refine Kd.C_drewN ?_ _) | (with_reducible refine Kd.C_drew ?_))); (case side2 => exact HC0_0.out); (case side3 => repeat (first | exact (Kd.C_below HR0_1.out HB.out) | (with_reducible refine Kd.C_alloc ?_ _) | (with_reducible refine Kd.C_drewN ?_ _) | (with_reducible refine Kd.C_drew ?_))); (case side4 => exact HC0_1.out); rintro e w25 ⟨rfl, hb⟩; refine ⟨_, rfl, ?_⟩; replace BK112 := Aside0.mk (blk_below (pb BK112.out) hb); replace BK113 := Aside0.mk (blk_below (pb BK113.out) hb); replace HB := Aside0.mk (below_step (pB HB.out) hb); (try clear hb); (try clear hb2); (try clear hk); (try clear hi)))
          go_ret
          exact ⟨by first | rfl | (simp [errW_none, errW_some] <;> rfl) | (simp [*, errW_none, errW_some] <;> rfl), by repeat (first | (with_reducible first | exact HB.out | apply below_alloc | apply pw_below_drewN | apply below_drew1 | refine below_set ?_ GE112.out | refine below_set ?_ GE113.out) | exact HB.out)⟩
        ·
         rw [if_neg c17] at H
         exact absurd H (by simp)
       ·
        rw [if_neg c16] at H
        exact absurd H (by simp)
      ·
       rw [if_neg c15] at H
       have c15b0 : decide (x21_2 < (l1_0.length : Int)) = false := decide_eq_false c15
       clear c15
       replace H := Option.bind_eq_some_iff.mp H
       obtain ⟨t117, A260, H⟩ := H
       replace H : (some (!t117)) = some r := H
       have A26 := Aside0.mk A260
       clear A260
       obtain rfl := Option.some.inj H
       have hnb27 := NB113_112.out
       have hnc27 := NB112_113.out
       have hcz28_0 : wr.cell? ⟨gb113, 0, none⟩ = some (.slice A1_0 l1_0.length c1_0) := blk_cell BK113.out 0
       have hcz28_1 : wr.cell? ⟨gb113, 1, none⟩ = some (.slice A1_1 l1_1.length c1_1) := blk_cell BK113.out 1
       have hfz28_0 := blk_frozen BK113.out 0
       have hfz28_1 := blk_frozen BK113.out 1
       go_wp2_with (first | ((with_reducible refine gate_callee (f := 50) rfl ?_); refine goesL_ (some 32) rfl rfl Try.func50 (by kernel_rfl) rfl #[.slice A1_1 l1_1.length c1_1, .func (.func 51) #[] #[]] rfl (by (try simp only [List.map_toArray, List.map_cons, List.map_nil]); first | done | rfl | (simp only [List.length_drop, List.length_take]; done) | (simp only [List.length_drop, List.length_take]; rfl)) ?_; (with_reducible refine (api_Element.calls _ _ l1_1 t117 _ ?side1 ?side2 A26.out).mono ?_); (case side1 => repeat (first | exact (Kd.C_below HR1_1.out HB.out) | (with_reducible refine Kd.C_alloc ?_ _) | (with_reducible refine Kd.C_drewN ?_ _) | (with_reducible refine Kd.C_drew ?_))); (case side2 => exact HC1_1.out); rintro e w29 ⟨rfl, hb⟩; refine ⟨_, rfl, ?_⟩; replace BK112 := Aside0.mk (blk_below (pb BK112.out) hb); replace BK113 := Aside0.mk (blk_below (pb BK113.out) hb); replace HB := Aside0.mk (below_step (pB HB.out) hb); (try clear hb); (try clear hb2); (try clear hk); (try clear hi)))
       go_ret
       exact ⟨by first | rfl | (simp [errW_none, errW_some] <;> rfl) | (simp [*, errW_none, errW_some] <;> rfl), by repeat (first | (with_reducible first | exact HB.out | apply below_alloc | apply pw_below_drewN | apply below_drew1 | refine below_set ?_ GE112.out | refine below_set ?_ GE113.out) | exact HB.out)⟩

/-! ### cmp_isNaN_rune: function 64 -/
def cmp_isNaN_rune.f (a0 : Int) : Option (Bool) := some (a0 != a0)
set_option maxHeartbeats 8000000 in
set_option maxRecDepth 100000 in
theorem cmp_isNaN_rune.calls (a0 : Int) (r : Bool) (w : World) (h : cmp_isNaN_rune.f a0 = some r) :
  Calls Try.prog 64 #[.int .i32 a0] w fun e w' => e = .returned (.bool r) ∧ Drawn0 w w' := by
 have H : (some (a0 != a0)) = some r := h
 clear h
 obtain rfl := Option.some.inj H
 go_enter Try.func64, Try.ntmps64
 go_wp2
 go_ret
 exact ⟨by first | rfl | (simp; done) | (simp [*]; done), by repeat (first | exact Drawn0.refl _ | apply Drawn0.step)⟩

end Go.Proofs.Ytfagobhhhljajaa.PWeighParts

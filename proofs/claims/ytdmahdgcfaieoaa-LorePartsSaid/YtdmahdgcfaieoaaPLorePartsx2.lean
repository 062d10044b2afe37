-- printed by a program of this session (wip/tools), a turned form of the kit's print
import Derived.Test.YtdmahdgcfaieoaaPLorePartsx0
import Derived.Test.YtdmahdgcfaieoaaPLorePartsx1
namespace Go.Proofs.Ytdmahdgcfaieoaa.PLoreParts
open Go.RowKit Go.Proofs.YtdmahdgcfaieoaaW.PrintWords Go.Proofs.YtdmahdgcfaieoaaW.PrintLast Go.Proofs.YtdmahdgcfaieoaaW.PrintMore
attribute [local go_sem] max2_int min2_int max_two min_two max_three min_three max_four min_four max2_str min2_str str_geq str_leq str_gtr   -- for this text's walks alone
set_option linter.unusedVariables false
set_option linter.unusedSimpArgs false

/-! ### lore_May: function 13 -/
def lore_May.f (l0 : List S33) : Option Bool := if (l0.length : Int) > 64 then some false else (lore_rises.f 1000 l0).bind fun t => some (t && l0.all (fun x => oneB l0 x.f1 x.f2))
theorem firstAt_all {α : Type} (p : α → Bool) (l : List α) : (decide (0 ≤ firstAt (fun x => !p x) l)) = !(l.all p) := by
  unfold firstAt
  cases h : l.findIdx? (fun x => !p x) with
  | none =>
    have : l.all p = true := by
      rw [List.all_eq_true]
      intro x hx
      have := List.findIdx?_eq_none_iff.1 h x hx
      simpa using this
    rw [this]; rfl
  | some i =>
    obtain ⟨hi, hp, _⟩ := List.findIdx?_eq_some_iff_getElem.1 h
    have : l.all p = false := by
      rw [List.all_eq_false]
      exact ⟨l[i], List.getElem_mem _, by simpa using hp⟩
    rw [this]; simp
set_option maxHeartbeats 2000000 in
set_option maxRecDepth 100000 in
theorem may1_any (A0 : Option Addr) (c0 : Nat) (l0 : List S33) (x y : Int) (v2 : Value) (A : Option Addr) (l2 : List Int) (n c : Nat) (hn : n = l2.length) (hv : v2 = .slice A n c) (g : Nat) (w : World) (hr : Kd.C k33 w A0 l0.length l0) (hc0 : l0.length ≤ c0) (hl : (l0.length : Int) ≤ 9223372036854775806)
    (hc : n ≤ c) (hr2 : Kd.C (Kd.int .i32) w A n l2) (h0 : w.cell? ⟨g, 0, none⟩ = some (.slice A0 l0.length c0)) :
    Calls Try.prog 23 #[.agg #[.int .i32 x, .int .i64 y, v2], .pointer (some ⟨g, 0, none⟩)] w
      fun e w' => e = .returned (.bool (!oneB l0 y l2)) ∧ Below w.heap.size w w' := by
  subst hv
  have hg := World.block_lt_of_cell? w _ h0
  have FF := Aside0.mk (fun W (hb : Below w.heap.size w W) => lore_one.calls A0 c0 l0 x y A c l2 (oneB l0 y l2) W (Kd.C_below hr hb) hc0 (by rw [← hn]; exact Kd.C_below hr2 hb) (by rw [← hn]; exact hc) (by unfold lore_one.f; rw [if_pos hl]))
  rw [← hn] at FF
  clear hr hc0 hl hc hr2 hn
  go_enter Try.func23, Try.ntmps23
  go_wp2_with fail
  obtain ⟨W, hW⟩ : ∃ W, W = w.alloc (.cells #[.int .i32 x, .int .i64 y, .slice A n c] 33) := ⟨_, rfl⟩
  try rw [← hW]
  have hB : Below w.heap.size w W := by subst hW; exact below_alloc (Below.refl _ _) _
  have b0 : W.heap[w.heap.size]? = some (.cells #[.int .i32 x, .int .i64 y, .slice A n c] 33 (0, 0)) := by subst hW; simpa using heap_alloc_new w _
  have g0 : W.cell? ⟨g, 0, none⟩ = some (.slice A0 l0.length c0) := (hB.cell (p := ⟨g, 0, none⟩) hg).trans h0
  have k0 : W.cell? ⟨w.heap.size, 0, none⟩ = some (.int .i32 x) := (blk_cell b0 0).trans rfl
  have k1 : W.cell? ⟨w.heap.size, 1, none⟩ = some (.int .i64 y) := (blk_cell b0 1).trans rfl
  have k2 : W.cell? ⟨w.heap.size, 2, none⟩ = some (.slice A n c) := (blk_cell b0 2).trans rfl
  have HB := Aside0.mk hB
  clear hW h0 b0 hB
  go_wp2_with fail
  refine (FF.out W HB.out).mono ?_
  rintro e w1 ⟨rfl, hb⟩
  have HB1 := Aside0.mk (below_step HB.out hb)
  clear hb
  go_wp2_with fail
  go_ret
  exact ⟨rfl, HB1.out⟩
set_option maxHeartbeats 2000000 in
set_option maxRecDepth 100000 in
theorem containsFunc_any (A0 : Option Addr) (c0 : Nat) (l0 : List S33) (fn : Nat) (caps : Array Value) (p : S33 → Bool) (w : World) (hr : Kd.C k33 w A0 l0.length l0) (hl : (l0.length : Int) ≤ 9223372036854775806)
    (hfc : ∀ args W, (callFunc fn args).run Try.prog W = .ok (.enter fn args) W)
    (HP : ∀ (x : S33) (A : Option Addr) (c : Nat) (W : World), x ∈ l0 → Below w.heap.size w W → x.f2.length ≤ c → Kd.C (Kd.int .i32) W A x.f2.length x.f2 → Calls Try.prog fn (#[.agg #[.int .i32 x.f0, .int .i64 x.f1, .slice A x.f2.length c]] ++ caps) W fun e w' => e = .returned (.bool (p x)) ∧ Below W.heap.size W w') :
    Calls Try.prog 22 #[.slice A0 l0.length c0, .func (.func fn) #[] caps] w
      fun r w' => r = .returned (.bool (decide (0 ≤ firstAt p l0))) ∧ Below w.heap.size w w' := by
  have FF := Aside0.mk (indexFunc_any A0 c0 l0 fn caps p w hr hl hfc HP)
  clear hr hl hfc HP
  go_enter Try.func22, Try.ntmps22
  go_wp2_with fail
  refine FF.out.mono ?_
  rintro e w1 ⟨rfl, hb⟩
  have HB := Aside0.mk hb
  clear hb FF
  go_wp2_with fail
  go_ret
  exact ⟨rfl, HB.out⟩
set_option maxHeartbeats 8000000 in
set_option maxRecDepth 100000 in
theorem lore_May.calls (A0 : Option Addr) (c0 : Nat) (l0 : List (S33)) (r : Bool) (w : World) (hr0 : Kd.C k33 w A0 l0.length l0) (hc0 : l0.length ≤ c0) (h : lore_May.f l0 = some r) :
    Calls Try.prog 13 #[.slice A0 l0.length c0] w fun e w' => e = .returned (.bool r) ∧ Below w.heap.size w w' := by
  have HR := Aside0.mk hr0
  have HC := Aside0.mk hc0
  have HH := Aside0.mk h
  have hmf := run_mf (P := Try.prog)
  obtain ⟨W, hW⟩ : ∃ W, W = w.alloc (.cells #[.slice A0 l0.length c0] 22) := ⟨_, rfl⟩
  have hB : Below w.heap.size w W := by subst hW; exact below_alloc (Below.refl _ _) _
  have b0 : W.heap[w.heap.size]? = some (.cells #[.slice A0 l0.length c0] 22 (0, 0)) := by subst hW; simpa using heap_alloc_new w _
  have k0 : W.cell? ⟨w.heap.size, 0, none⟩ = some (.slice A0 l0.length c0) := (blk_cell b0 0).trans rfl
  have HB := Aside0.mk hB
  have HK := Aside0.mk k0
  clear hr0 hc0 h hB b0
  by_cases hlen : (l0.length : Int) > 64
  · have hr : r = false := by
      have h := HH.out
      unfold lore_May.f at h
      rw [if_pos hlen] at h
      exact (Option.some.inj h).symm
    subst hr
    have q1 : ((64 : Int) < (l0.length : Int)) = True := eq_true hlen
    have q2 : (64 < l0.length) = True := eq_true (by omega)
    clear hlen
    go_enter Try.func13, Try.ntmps13
    rw [hW] at k0
    go_wp2_with fail
    go_ret
    exact ⟨rfl, below_alloc (Below.refl _ _) _⟩
  · have q1 : ((64 : Int) < (l0.length : Int)) = False := eq_false hlen
    have q2 : (64 < l0.length) = False := eq_false (by omega)
    have h := HH.out
    unfold lore_May.f at h
    rw [if_neg hlen] at h
    obtain ⟨t, h1, h2⟩ := Option.bind_eq_some_iff.mp h
    have h3 := Option.some.inj h2
    have FF := Aside0.mk (fun W' (hb : Below w.heap.size w W') => lore_rises.calls 1000 A0 c0 l0 t W' (Kd.C_below HR.out hb) HC.out h1)
    have HRES := Aside0.mk h3
    have hfc : ∀ args W, (callFunc 23 args).run Try.prog W = .ok (.enter 23 args) W := fun args W => rfl
    have FC := Aside0.mk (fun W' (hb : Below w.heap.size w W') (hk : W'.cell? ⟨w.heap.size, 0, none⟩ = some (.slice A0 l0.length c0)) => containsFunc_any A0 c0 l0 23 #[.pointer (some ⟨w.heap.size, 0, none⟩)] (fun x => !oneB l0 x.f1 x.f2) W' (Kd.C_below HR.out hb) (by omega) hfc (fun x A c W2 _ hb2 hc2 hr2 => may1_any A0 c0 l0 x.f0 x.f1 _ A x.f2 _ c rfl rfl w.heap.size W2 (Kd.C_below HR.out (below_step hb hb2)) HC.out (by omega) hc2 hr2 (cell_keep hb2 hk)))
    clear hlen h h1 h2 h3 hfc
    go_enter Try.func13, Try.ntmps13
    rw [hW] at k0
    go_wp2_with fail
    rw [← hW]
    refine (FF.out W HB.out).mono ?_
    rintro e w1 ⟨rfl, hb⟩
    have HB1 := Aside0.mk (below_step HB.out hb)
    have k1 := cell_keep hb HK.out
    have HK1 := Aside0.mk k1
    clear hb k0 hW
    cases t with
    | false =>
      go_wp2_with fail
      go_ret
      rw [Bool.false_and] at HRES
      exact ⟨by rw [← HRES.out]; rfl, HB1.out⟩
    | true =>
      go_wp2_with fail
      refine (FC.out w1 HB1.out HK1.out).mono ?_
      rintro e w2 ⟨rfl, hb⟩
      have HB2 := Aside0.mk (below_step HB1.out hb)
      clear hb
      rw [firstAt_all]
      go_wp2_with fail
      go_ret
      rw [Bool.true_and] at HRES
      exact ⟨by rw [← HRES.out]; first | rfl | (simp; done) | (simp; rfl), HB2.out⟩
-- lore.Apart: runes taken apart.

/-! ### slices_Clone_rune_rune: function 27 -/
def slices_Clone_rune_rune.f (l0 : List Int) : Option (List Int) := if l0.length * 4 ≤ 140737488355328 then some l0 else none

set_option maxHeartbeats 8000000 in
set_option maxRecDepth 100000 in
theorem slices_Clone_rune_rune.calls (A0 : Option Addr) (c0 : Nat) (l0 : List Int) (r : List Int) (w : World) (hr0 : Kd.C (Kd.int .i32) w A0 l0.length l0) (hc0 : l0.length ≤ c0) (h : slices_Clone_rune_rune.f l0 = some r) :
    Calls Try.prog 27 #[.slice A0 l0.length c0] w fun e w' => ∃ v0_ : Value, e = .returned (v0_) ∧ Kd.R (Kd.int .i32) 21 w' w.heap.size (fun _ => True) v0_ r ∧ Below w.heap.size w w' := by
  unfold slices_Clone_rune_rune.f at h
  split at h
  case isFalse => cases h
  case isTrue hl =>
  obtain rfl := Option.some.inj h
  have he := fun wx => run_eql_row_nil (P := Try.prog) wx 23 _ A0 l0.length c0 Try.underlying23
  cases A0 with
  | none =>
    obtain rfl := C_none hr0
    have he0 : ∀ wx, (binOp .eql 23 (.slice none 0 c0) (.slice none 0 0)).run Try.prog wx = .ok (.bool true) wx := fun wx => he wx
    clear hr0 hc0 h hl he
    go_enter Try.func27, Try.ntmps27
    go_wp2
    go_ret
    exact ⟨_, rfl, Kd.R_nil _ _ _ _ _, Below.refl _ _⟩
  | some ad =>
    have HR := Aside0.mk hr0
    have HL := Aside0.mk hl
    clear hr0 hc0 h hl
    go_enter Try.func27, Try.ntmps27
    go_wp2_with (first
      | ((with_reducible refine gate_dst (N := 5) rfl ?_); refine Kd.R_lit (Kd.int .i32) w.heap.size 21 ?hg (N := 5) ?hd (xs := ([] : List Int)) (inner := []) (ok := fun _ => True) (okp := fun _ => True) ?hr ?hp (fun _ hk => hk) trivial (Below.refl _ _) (Nat.le_refl _) (by simp) ?_; (case hd => rfl); (case hg => rfl); (case hr => first | (go_simp; done) | (go_simp; rfl)); (case hp => exact (Reps.none _ _)); intro v1 w1 ho1 hb1 hg_ hnew_; have HO := Aside0.mk ho1; have HB := Aside0.mk hb1; clear hg_ hnew_ ho1 hb1)
      | ((with_reducible refine gate_builtin (b := .append) (xs := #[.tmp 5, .tmp 6]) rfl ?_); at_builtin; refine Kd.R_append_rows (Kd.int .i32) (w0 := w) w.heap.size rfl (.tmp 5) (.tmp 6) 23 21 (.int .i32 0) 4 rfl Try.underlying23 info21 rfl (by decide) (by omega) v1 [] l0 _ _ _ (fun _ => True) (fun _ => False) rfl rfl ?aO ?aR (fun _ _ h => h) (fun _ h => h.elim) (fun _ _ => trivial) ?aB ?aS ?aL ?_; (case aO => exact HO.out); (case aR => exact Kd.C_below HR.out HB.out); (case aB => exact HB.out); (case aS => exact below_size HB.out); (case aL => have := HL.out; simpa using this); intro v2 w2 ho2 hb2 hg2 hat2; have HO2 := Aside0.mk ho2; have HB2 := Aside0.mk hb2; clear ho2 hb2 hg2 hat2))
    go_ret
    exact ⟨_, rfl, HO2.out, HB2.out⟩
-- lore.Order: marks in order. The sort of package slices and the closures are walked by hand.

/-! ### cmp_isNaN_int: function 38 -/
def cmp_isNaN_int.f (a0 : Int) : Option (Bool) := some (a0 != a0)
set_option maxHeartbeats 8000000 in
set_option maxRecDepth 100000 in
theorem cmp_isNaN_int.calls (a0 : Int) (r : Bool) (w : World) (h : cmp_isNaN_int.f a0 = some r) :
    Calls Try.prog 38 #[.int .i64 a0] w fun e w' => e = .returned (.bool r) ∧ Drawn0 w w' := by
  have H : (some (a0 != a0)) = some r := h
  clear h
  obtain rfl := Option.some.inj H
  go_enter Try.func38, Try.ntmps38
  go_wp2
  go_ret
  exact ⟨by first | rfl | (simp; done) | (simp [*]; done), by repeat (first | exact Drawn0.refl _ | apply Drawn0.step)⟩

/-! ### cmp_Compare_int: function 36 -/
def cmp_Compare_int.f (a0 : Int) (a1 : Int) : Option (Int) := (cmp_isNaN_int.f a0).bind fun t106 => ((cmp_isNaN_int.f a1).bind fun t107 => (if t106 = true then (if t107 = true then (some 0) else (some (-1))) else (if t107 = true then (some 1) else (if a0 < a1 then (some (-1)) else (if a0 > a1 then (some 1) else (some 0))))))
set_option maxHeartbeats 8000000 in
set_option maxRecDepth 100000 in
theorem cmp_Compare_int.calls (a0 : Int) (a1 : Int) (r : Int) (w : World) (h : cmp_Compare_int.f a0 a1 = some r) :
    Calls Try.prog 36 #[.int .i64 a0, .int .i64 a1] w fun e w' => e = .returned (.int .i64 r) ∧ Drawn0 w w' := by
  have H : ((cmp_isNaN_int.f a0).bind fun t106 => ((cmp_isNaN_int.f a1).bind fun t107 => (if t106 = true then (if t107 = true then (some 0) else (some (-1))) else (if t107 = true then (some 1) else (if a0 < a1 then (some (-1)) else (if a0 > a1 then (some 1) else (some 0))))))) = some r := h
  clear h
  replace H := Option.bind_eq_some_iff.mp H
  obtain ⟨t106, A30, H⟩ := H
  replace H : ((cmp_isNaN_int.f a1).bind fun t107 => (if t106 = true then (if t107 = true then (some 0) else (some (-1))) else (if t107 = true then (some 1) else (if a0 < a1 then (some (-1)) else (if a0 > a1 then (some 1) else (some 0)))))) = some r := H
  have A3 := Aside0.mk A30
  clear A30
  replace H := Option.bind_eq_some_iff.mp H
  obtain ⟨t107, A40, H⟩ := H
  replace H : (if t106 = true then (if t107 = true then (some 0) else (some (-1))) else (if t107 = true then (some 1) else (if a0 < a1 then (some (-1)) else (if a0 > a1 then (some 1) else (some 0))))) = some r := H
  have A4 := Aside0.mk A40
  clear A40
  by_cases c5 : t106 = true
  · subst c5
    have H1 : (if t107 = true then (some 0) else (some (-1))) = some r := by rw [if_pos rfl] at H; exact H
    clear H
    have H := H1
    clear H1
    by_cases c6 : t107 = true
    · subst c6
      have H1 : (some 0) = some r := by rw [if_pos rfl] at H; exact H
      clear H
      have H := H1
      clear H1
      obtain rfl := Option.some.inj H
      go_enter Try.func36, Try.ntmps36
      go_wp2_with (first | ((with_reducible refine gate_callee (f := 38) rfl ?_); refine goesL_ (some 8) rfl rfl Try.func38 (by kernel_rfl) rfl #[.int .i64 a0] rfl (by (try simp only [List.map_toArray, List.map_cons, List.map_nil]); first | done | rfl | (simp only [List.length_drop, List.length_take]; done) | (simp only [List.length_drop, List.length_take]; rfl)) ?_; (with_reducible refine (cmp_isNaN_int.calls a0 true _ A3.out).mono ?_); rintro e w' ⟨rfl, ⟨nd, rfl⟩⟩; refine ⟨_, rfl, ?_⟩) | ((with_reducible refine gate_callee (f := 38) rfl ?_); refine goesL_ (some 10) rfl rfl Try.func38 (by kernel_rfl) rfl #[.int .i64 a1] rfl (by (try simp only [List.map_toArray, List.map_cons, List.map_nil]); first | done | rfl | (simp only [List.length_drop, List.length_take]; done) | (simp only [List.length_drop, List.length_take]; rfl)) ?_; (with_reducible refine (cmp_isNaN_int.calls a1 true _ A4.out).mono ?_); rintro e w' ⟨rfl, ⟨nd, rfl⟩⟩; refine ⟨_, rfl, ?_⟩))
      go_ret
      exact ⟨by first | rfl | (simp; done) | (simp [*]; done), by repeat (first | exact Drawn0.refl _ | apply Drawn0.step)⟩
    · replace c6 := Bool.eq_false_iff.mpr c6
      subst c6
      have H1 : (some (-1)) = some r := by rw [if_neg (show ¬ (false = true) by decide)] at H; exact H
      clear H
      have H := H1
      clear H1
      obtain rfl := Option.some.inj H
      go_enter Try.func36, Try.ntmps36
      go_wp2_with (first | ((with_reducible refine gate_callee (f := 38) rfl ?_); refine goesL_ (some 8) rfl rfl Try.func38 (by kernel_rfl) rfl #[.int .i64 a0] rfl (by (try simp only [List.map_toArray, List.map_cons, List.map_nil]); first | done | rfl | (simp only [List.length_drop, List.length_take]; done) | (simp only [List.length_drop, List.length_take]; rfl)) ?_; (with_reducible refine (cmp_isNaN_int.calls a0 true _ A3.out).mono ?_); rintro e w' ⟨rfl, ⟨nd, rfl⟩⟩; refine ⟨_, rfl, ?_⟩) | ((with_reducible refine gate_callee (f := 38) rfl ?_); refine goesL_ (some 10) rfl rfl Try.func38 (by kernel_rfl) rfl #[.int .i64 a1] rfl (by (try simp only [List.map_toArray, List.map_cons, List.map_nil]); first | done | rfl | (simp only [List.length_drop, List.length_take]; done) | (simp only [List.length_drop, List.length_take]; rfl)) ?_; (with_reducible refine (cmp_isNaN_int.calls a1 false _ A4.out).mono ?_); rintro e w' ⟨rfl, ⟨nd, rfl⟩⟩; refine ⟨_, rfl, ?_⟩))
      go_ret
      exact ⟨by first | rfl | (simp; done) | (simp [*]; done), by repeat (first | exact Drawn0.refl _ | apply Drawn0.step)⟩
  · replace c5 := Bool.eq_false_iff.mpr c5
    subst c5
    have H1 : (if t107 = true then (some 1) else (if a0 < a1 then (some (-1)) else (if a0 > a1 then (some 1) else (some 0)))) = some r := by rw [if_neg (show ¬ (false = true) by decide)] at H; exact H
    clear H
    have H := H1
    clear H1
    by_cases c7 : t107 = true
    · subst c7
      have H1 : (some 1) = some r := by rw [if_pos rfl] at H; exact H
      clear H
      have H := H1
      clear H1
      obtain rfl := Option.some.inj H
      go_enter Try.func36, Try.ntmps36
      go_wp2_with (first | ((with_reducible refine gate_callee (f := 38) rfl ?_); refine goesL_ (some 8) rfl rfl Try.func38 (by kernel_rfl) rfl #[.int .i64 a0] rfl (by (try simp only [List.map_toArray, List.map_cons, List.map_nil]); first | done | rfl | (simp only [List.length_drop, List.length_take]; done) | (simp only [List.length_drop, List.length_take]; rfl)) ?_; (with_reducible refine (cmp_isNaN_int.calls a0 false _ A3.out).mono ?_); rintro e w' ⟨rfl, ⟨nd, rfl⟩⟩; refine ⟨_, rfl, ?_⟩) | ((with_reducible refine gate_callee (f := 38) rfl ?_); refine goesL_ (some 10) rfl rfl Try.func38 (by kernel_rfl) rfl #[.int .i64 a1] rfl (by (try simp only [List.map_toArray, List.map_cons, List.map_nil]); first | done | rfl | (simp only [List.length_drop, List.length_take]; done) | (simp only [List.length_drop, List.length_take]; rfl)) ?_; (with_reducible refine (cmp_isNaN_int.calls a1 true _ A4.out).mono ?_); rintro e w' ⟨rfl, ⟨nd, rfl⟩⟩; refine ⟨_, rfl, ?_⟩))
      go_ret
      exact ⟨by first | rfl | (simp; done) | (simp [*]; done), by repeat (first | exact Drawn0.refl _ | apply Drawn0.step)⟩
    · replace c7 := Bool.eq_false_iff.mpr c7
      subst c7
      have H1 : (if a0 < a1 then (some (-1)) else (if a0 > a1 then (some 1) else (some 0))) = some r := by rw [if_neg (show ¬ (false = true) by decide)] at H; exact H
      clear H
      have H := H1
      clear H1
      by_cases c8 : a0 < a1
      · rw [if_pos c8] at H
        have c8b0 : decide (a0 < a1) = true := decide_eq_true c8
        clear c8
        obtain rfl := Option.some.inj H
        go_enter Try.func36, Try.ntmps36
        go_wp2_with (first | ((with_reducible refine gate_callee (f := 38) rfl ?_); refine goesL_ (some 8) rfl rfl Try.func38 (by kernel_rfl) rfl #[.int .i64 a0] rfl (by (try simp only [List.map_toArray, List.map_cons, List.map_nil]); first | done | rfl | (simp only [List.length_drop, List.length_take]; done) | (simp only [List.length_drop, List.length_take]; rfl)) ?_; (with_reducible refine (cmp_isNaN_int.calls a0 false _ A3.out).mono ?_); rintro e w' ⟨rfl, ⟨nd, rfl⟩⟩; refine ⟨_, rfl, ?_⟩) | ((with_reducible refine gate_callee (f := 38) rfl ?_); refine goesL_ (some 10) rfl rfl Try.func38 (by kernel_rfl) rfl #[.int .i64 a1] rfl (by (try simp only [List.map_toArray, List.map_cons, List.map_nil]); first | done | rfl | (simp only [List.length_drop, List.length_take]; done) | (simp only [List.length_drop, List.length_take]; rfl)) ?_; (with_reducible refine (cmp_isNaN_int.calls a1 false _ A4.out).mono ?_); rintro e w' ⟨rfl, ⟨nd, rfl⟩⟩; refine ⟨_, rfl, ?_⟩))
        go_ret
        exact ⟨by first | rfl | (simp; done) | (simp [*]; done), by repeat (first | exact Drawn0.refl _ | apply Drawn0.step)⟩
      · rw [if_neg c8] at H
        have c8b0 : decide (a0 < a1) = false := decide_eq_false c8
        clear c8
        by_cases c9 : a0 > a1
        · rw [if_pos c9] at H
          have c9b0 : decide (a1 < a0) = true := decide_eq_true c9
          clear c9
          obtain rfl := Option.some.inj H
          go_enter Try.func36, Try.ntmps36
          go_wp2_with (first | ((with_reducible refine gate_callee (f := 38) rfl ?_); refine goesL_ (some 8) rfl rfl Try.func38 (by kernel_rfl) rfl #[.int .i64 a0] rfl (by (try simp only [List.map_toArray, List.map_cons, List.map_nil]); first | done | rfl | (simp only [List.length_drop, List.length_take]; done) | (simp only [List.length_drop, List.length_take]; rfl)) ?_; (with_reducible refine (cmp_isNaN_int.calls a0 false _ A3.out).mono ?_); rintro e w' ⟨rfl, ⟨nd, rfl⟩⟩; refine ⟨_, rfl, ?_⟩) | ((with_reducible refine gate_callee (f := 38) rfl ?_); refine goesL_ (some 10) rfl rfl Try.func38 (by kernel_rfl) rfl #[.int .i64 a1] rfl (by (try simp only [List.map_toArray, List.map_cons, List.map_nil]); first | done | rfl | (simp only [List.length_drop, List.length_take]; done) | (simp only [List.length_drop, List.length_take]; rfl)) ?_; (with_reducible refine (cmp_isNaN_int.calls a1 false _ A4.out).mono ?_); rintro e w' ⟨rfl, ⟨nd, rfl⟩⟩; refine ⟨_, rfl, ?_⟩))
          go_ret
          exact ⟨by first | rfl | (simp; done) | (simp [*]; done), by repeat (first | exact Drawn0.refl _ | apply Drawn0.step)⟩
        · rw [if_neg c9] at H
          have c9b0 : decide (a1 < a0) = false := decide_eq_false c9
          clear c9
          obtain rfl := Option.some.inj H
          go_enter Try.func36, Try.ntmps36
          go_wp2_with (first | ((with_reducible refine gate_callee (f := 38) rfl ?_); refine goesL_ (some 8) rfl rfl Try.func38 (by kernel_rfl) rfl #[.int .i64 a0] rfl (by (try simp only [List.map_toArray, List.map_cons, List.map_nil]); first | done | rfl | (simp only [List.length_drop, List.length_take]; done) | (simp only [List.length_drop, List.length_take]; rfl)) ?_; (with_reducible refine (cmp_isNaN_int.calls a0 false _ A3.out).mono ?_); rintro e w' ⟨rfl, ⟨nd, rfl⟩⟩; refine ⟨_, rfl, ?_⟩) | ((with_reducible refine gate_callee (f := 38) rfl ?_); refine goesL_ (some 10) rfl rfl Try.func38 (by kernel_rfl) rfl #[.int .i64 a1] rfl (by (try simp only [List.map_toArray, List.map_cons, List.map_nil]); first | done | rfl | (simp only [List.length_drop, List.length_take]; done) | (simp only [List.length_drop, List.length_take]; rfl)) ?_; (with_reducible refine (cmp_isNaN_int.calls a1 false _ A4.out).mono ?_); rintro e w' ⟨rfl, ⟨nd, rfl⟩⟩; refine ⟨_, rfl, ?_⟩))
          go_ret
          exact ⟨by first | rfl | (simp; done) | (simp [*]; done), by repeat (first | exact Drawn0.refl _ | apply Drawn0.step)⟩

end Go.Proofs.Ytdmahdgcfaieoaa.PLoreParts

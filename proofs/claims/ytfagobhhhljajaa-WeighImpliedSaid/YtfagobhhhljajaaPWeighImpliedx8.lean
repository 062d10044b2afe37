-- printed by a program of this session (wip/tools), a turned form of the kit's print
import Derived.Test.YtfagobhhhljajaaPWeighImpliedx0
import Derived.Test.YtfagobhhhljajaaPWeighImpliedx3
import Derived.Test.YtfagobhhhljajaaPWeighImpliedx4
import Derived.Test.YtfagobhhhljajaaPWeighImpliedx7
namespace Go.Proofs.Ytfagobhhhljajaa.PWeighImplied
open Go.RowKit Go.Proofs.YtfagobhhhljajaaW.PrintWords Go.Proofs.YtfagobhhhljajaaW.PrintLast Go.Proofs.YtfagobhhhljajaaW.PrintMore
attribute [local go_sem] max2_int min2_int max_two min_two max_three min_three max_four min_four max2_str min2_str str_geq str_leq str_gtr   -- for this text's walks alone
set_option linter.unusedVariables false
set_option linter.unusedSimpArgs false

/-! ### lore_Apart: function 42 -/
/-- What a rune is taken apart into. -/
def pieceOf (l : List S42) (r : Int) : List Int := if (rowOf l r).f2.length = 0 then [r] else (rowOf l r).f2
/-- Runes, taken apart. -/
def apartL (l : List S42) (s : List Int) : List Int := s.flatMap (pieceOf l)
def lore_Apart.f (l0 : List S42) (l1 : List Int) : Option (List Int) := if (l0.length : Int) ≤ 9223372036854775806 ∧ (l1.length : Int) ≤ 9223372036854775806 ∧ (apartL l0 l1).length < 35184372088832 then some (apartL l0 l1) else none
theorem apart_snoc (l : List S42) (s : List Int) (k : Nat) (h : k < s.length) : apartL l (s.take (k + 1)) = apartL l (s.take k) ++ pieceOf l (s.getD k 0) ∧ (apartL l (s.take k)).length + (pieceOf l (s.getD k 0)).length ≤ (apartL l s).length := by
 have e : s.take (k + 1) = s.take k ++ [s.getD k 0] := by
  rw [List.take_add_one, List.getElem?_eq_getElem h, List.getD_eq_getElem?_getD, List.getElem?_eq_getElem h]; rfl
 have e2 : apartL l (s.take (k + 1)) = apartL l (s.take k) ++ pieceOf l (s.getD k 0) := by
  unfold apartL
  rw [e, List.flatMap_append]
  simp
 refine ⟨e2, ?_⟩
 have e3 : apartL l s = apartL l (s.take (k + 1)) ++ apartL l (s.drop (k + 1)) := by
  unfold apartL
  rw [← List.flatMap_append, List.take_append_drop]
 rw [e3, e2]
 simp only [List.length_append]
 omega
set_option maxHeartbeats 8000000 in
set_option maxRecDepth 100000 in
theorem lore_Apart.calls (A0 : Option Addr) (c0 : Nat) (l0 : List (S42)) (A1 : Option Addr) (c1 : Nat) (l1 : List Int) (r : List Int) (w : World) (hr0 : Kd.C k42 w A0 l0.length l0) (hc0 : l0.length ≤ c0) (hr1 : Kd.C (Kd.int .i32) w A1 l1.length l1) (hc1 : l1.length ≤ c1) (h : lore_Apart.f l0 l1 = some r) :
  Calls Try.prog 42 #[.slice A0 l0.length c0, .slice A1 l1.length c1] w fun e w' => ∃ v0_ : Value, e = .returned (v0_) ∧ Kd.R (Kd.int .i32) 21 w' w.heap.size (fun _ => True) v0_ r ∧ Below w.heap.size w w' := by
 unfold lore_Apart.f at h
 split at h
 case isFalse => cases h
 case isTrue hl =>
 obtain rfl := Option.some.inj h
 have HR := Aside0.mk hr1
 have FF := Aside0.mk (fun r W (hb : Below w.heap.size w W) => find_any A0 c0 l0 r W (Kd.C_below hr0 hb) hl.1)
 obtain ⟨n, hn⟩ : ∃ n, n = l1.length := ⟨_, rfl⟩
 rw [← hn]
 have HN := Aside0.mk (And.intro hn (And.intro (show (n : Int) ≤ 9223372036854775806 by rw [hn]; exact hl.2.1) hl.2.2))
 clear hr0 hc0 h hl hr1 hc1 hn
 go_enter Try.func42, Try.ntmps42
 go_wp2_with fail
 go_loopw [5, 12] (fun v5 i wr => ∃ k : Nat, i = .int .i64 k ∧ Aside0 (k ≤ n) ∧ Aside0 (Kd.R (Kd.int .i32) 21 wr w.heap.size (fun _ => True) v5 (apartL l0 (l1.take k))) ∧ Aside0 (Below w.heap.size w wr)) (fun _ i _ => n - (intOf i).toNat)
 case atStart => exact ⟨0, rfl, ⟨by omega⟩, ⟨Kd.R_nil _ _ _ _ _⟩, ⟨Below.refl _ _⟩⟩
 case round =>
  obtain ⟨k, rfl, HK, HO, HB⟩ := hrel
  by_cases hlt : (k : Int) < (n : Int)
  ·
   have hb0 : decide ((k : Int) < (n : Int)) = true := decide_eq_true hlt
   have KL := Aside0.mk (show k < n by omega)
   obtain ⟨ad, e, hx0⟩ := Kd.at_int (i := (k : Int)) HR.out (by omega) (by rw [← HN.out.1]; exact hlt)
   cases e
   simp only [Int.toNat_natCast] at hx0
   replace hx0 := cell_keep HB.out hx0
   obtain ⟨r, hr⟩ : ∃ r, r = rd l1 (k : Int) := ⟨_, rfl⟩
   rw [← hr] at hx0
   have HRD : Aside0 (l1.getD k 0 = r) := ⟨by rw [hr]; simp [rd]⟩
   have HW := Aside0.mk (show wrap64 ((k : Int) + 1) = ((k + 1 : Nat) : Int) by have := HN.out.2.1; have := KL.out; unfold wrap64; omega)
   have HS := Aside0.mk (apart_snoc l0 l1 k (by rw [← HN.out.1]; exact KL.out))
   rw [HRD.out] at HS
   have p1 := eq_true (show 0 ≤ (k : Int) by omega)
   have q1 := eq_true hlt
   have q2 := eq_true KL.out
   clear hlt hr
   go_wp2_with fail
   refine (FF.out r _ HB.out).mono ?_
   rintro e w1 ⟨A, c, b, rfl, hc, hC, hb⟩
   obtain ⟨T, hT⟩ : ∃ T, T = (rowOf l0 r).f2 := ⟨_, rfl⟩
   have HPC : Aside0 (pieceOf l0 r = if T.length = 0 then [r] else T) := ⟨by unfold pieceOf; rw [hT]⟩
   rw [← hT] at hC hc
   rw [← hT]
   have HB1 := aside_step hb HB
   have HO1 := Aside0.mk (Kd.R_below HO.out hb)
   have HC := Aside0.mk hC
   obtain ⟨m, hm⟩ : ∃ m, m = T.length := ⟨_, rfl⟩
   rw [← hm] at HC
   rw [← hm]
   have HM := Aside0.mk hm
   clear hb hc hC hT hm HO HB
   by_cases hm0 : 0 < m
   ·
    have v1 : ((0 : Int) < (m : Int)) = True := eq_true (by omega)
    have v2 : (0 < m) = True := eq_true hm0
    rw [if_neg (by have := HM.out; omega)] at HPC
    rw [HPC.out] at HS
    clear hm0
    go_wp2_with ((with_reducible refine gate_builtin (b := .append) (xs := #[.tmp 26, .tmp 28]) rfl ?_); at_builtin; refine Kd.R_append_rows (Kd.int .i32) (w0 := w) w.heap.size rfl (.tmp 26) (.tmp 28) 26 21 (.int .i32 0) 4 rfl Try.underlying26 info21 rfl (by decide) (by omega) u5 (apartL l0 (l1.take k)) T _ _ _ (fun _ => True) (fun _ => False) rfl rfl ?aO ?aR (fun _ _ h => h) (fun _ h => h.elim) (fun _ _ => trivial) ?aB ?aS ?aL ?_; (case aO => exact Kd.R_alloc HO1.out _); (case aR => exact Kd.C_alloc HC.out _); (case aB => exact below_alloc HB1.out _); (case aS => exact below_size (below_alloc HB1.out _)); (case aL => have := HS.out; have := HM.out; have := HN.out; omega); intro v2 w2 ho2 hb2 hg2 hat2; have HO2 := Aside0.mk ho2; have HB2 := Aside0.mk hb2; clear ho2 hb2 hg2 hat2)
    go_roundw
    case rel => exact ⟨k + 1, by rw [HW.out], ⟨by have := KL.out; omega⟩, ⟨by rw [HS.out.1]; exact HO2.out⟩, HB2⟩
    case measure => have := KL.out; rw [HW.out]; simp only [intOf]; omega
   ·
    have v1 : ((0 : Int) < (m : Int)) = False := eq_false (by omega)
    have v2 : (0 < m) = False := eq_false hm0
    rw [if_pos (by have := HM.out; omega)] at HPC
    rw [HPC.out] at HS
    clear hm0
    go_wp2_with ((with_reducible refine gate_builtin (b := .append) (xs := #[.tmp 30, .tmp 32]) rfl ?_); at_builtin; refine Kd.R_append (Kd.int .i32) (w0 := w) w.heap.size rfl (.tmp 30) (.tmp 32) 26 21 (.int .i32 0) 4 rfl Try.underlying26 info21 rfl (by decide) (by omega) u5 (apartL l0 (l1.take k)) r [.int .i32 r] (fun _ => True) (fun _ => False) rfl (by first | (go_simp; done) | (go_simp; rfl)) ?aP (fun _ hk => hk.elim) (fun _ _ => trivial) ?aO ?aB ?aS ?aL ?_; (case aP => exact rfl); (case aO => exact Kd.R_alloc HO1.out _); (case aB => exact below_alloc HB1.out _); (case aS => exact below_size (below_alloc HB1.out _)); (case aL => have := HS.out.2; rw [List.length_singleton] at this; have := HN.out; omega); intro v2 w2 ho2 hb2 hg2 hat2; have HO2 := Aside0.mk ho2; have HB2 := Aside0.mk hb2; clear ho2 hb2 hg2 hat2)
    go_roundw
    case rel => exact ⟨k + 1, by rw [HW.out], ⟨by have := KL.out; omega⟩, ⟨by rw [HS.out.1]; exact HO2.out⟩, HB2⟩
    case measure => have := KL.out; rw [HW.out]; simp only [intOf]; omega
  ·
   have q1 := eq_false hlt
   have q2 : (k < n) = False := eq_false (by omega)
   have hb0 : decide ((k : Int) < (n : Int)) = false := decide_eq_false hlt
   have HE : Aside0 (l1.take k = l1) := ⟨by rw [List.take_of_length_le]; have := HN.out.1; omega⟩
   rw [HE.out] at HO
   clear hlt
   go_wp2_with fail
   go_ret
   exact ⟨_, rfl, HO.out, HB.out⟩
-- slices.Clone at runes: the same runes, in a row of the call's own (nil: nil).

/-! ### lore_Normal: function 22 -/
def lore_Normal.f (l0 : List (S42)) (l1 : List Int) : Option (List Int × Int) := (lore_May.f l0).bind fun t129 => (if t129 = true then ((slices_ContainsFunc_rune_rune.f l1).bind fun t130 => (if t130 = true then (some (([] : List Int), 2)) else ((lore_Apart.f l0 l1).bind fun t131 => ((lore_Order.f l0 t131).bind fun t134 => (some (t134, 0)))))) else (some (([] : List Int), 4)))
set_option maxHeartbeats 8000000 in
set_option maxRecDepth 100000 in
theorem lore_Normal.calls (A0 : Option Addr) (c0 : Nat) (l0 : List (S42)) (A1 : Option Addr) (c1 : Nat) (l1 : List Int) (r1 : List Int) (r2 : Int) (w : World) (hr0 : Kd.C k42 w A0 l0.length l0) (hc0 : l0.length ≤ c0) (hr1 : Kd.C (Kd.int .i32) w A1 l1.length l1) (hc1 : l1.length ≤ c1) (h : lore_Normal.f l0 l1 = some (r1, r2)) :
  Calls Try.prog 22 #[.slice A0 l0.length c0, .slice A1 l1.length c1] w fun e w' => ∃ v0_ : Value, e = .returned (.tuple #[v0_, .int .i64 r2]) ∧ Kd.R (Kd.int .i32) 21 w' w.heap.size (fun _ => True) v0_ r1 ∧ Below w.heap.size w w' := by
 have HR0 := Aside0.mk hr0
 have HC0 := Aside0.mk hc0
 clear hr0 hc0
 have HR1 := Aside0.mk hr1
 have HC1 := Aside0.mk hc1
 clear hr1 hc1
 have HB := Aside0.mk (Below.refl w.heap.size w)
 have H : ((lore_May.f l0).bind fun t129 => (if t129 = true then ((slices_ContainsFunc_rune_rune.f l1).bind fun t130 => (if t130 = true then (some (([] : List Int), 2)) else ((lore_Apart.f l0 l1).bind fun t131 => ((lore_Order.f l0 t131).bind fun t134 => (some (t134, 0)))))) else (some (([] : List Int), 4)))) = some (r1, r2) := h
 clear h
 replace H := Option.bind_eq_some_iff.mp H
 obtain ⟨t129, A30, H⟩ := H
 replace H : (if t129 = true then ((slices_ContainsFunc_rune_rune.f l1).bind fun t130 => (if t130 = true then (some (([] : List Int), 2)) else ((lore_Apart.f l0 l1).bind fun t131 => ((lore_Order.f l0 t131).bind fun t134 => (some (t134, 0)))))) else (some (([] : List Int), 4))) = some (r1, r2) := H
 have A3 := Aside0.mk A30
 clear A30
 by_cases c4 : t129 = true
 ·
  subst c4
  have H1 : ((slices_ContainsFunc_rune_rune.f l1).bind fun t130 => (if t130 = true then (some (([] : List Int), 2)) else ((lore_Apart.f l0 l1).bind fun t131 => ((lore_Order.f l0 t131).bind fun t134 => (some (t134, 0)))))) = some (r1, r2) := by rw [if_pos rfl] at H; exact H
  clear H
  have H := H1
  clear H1
  replace H := Option.bind_eq_some_iff.mp H
  obtain ⟨t130, A50, H⟩ := H
  replace H : (if t130 = true then (some (([] : List Int), 2)) else ((lore_Apart.f l0 l1).bind fun t131 => ((lore_Order.f l0 t131).bind fun t134 => (some (t134, 0))))) = some (r1, r2) := H
  have A5 := Aside0.mk A50
  clear A50
  by_cases c6 : t130 = true
  ·
   subst c6
   have H1 : (some (([] : List Int), 2)) = some (r1, r2) := by rw [if_pos rfl] at H; exact H
   clear H
   have H := H1
   clear H1
   simp only [Option.some.injEq, Prod.mk.injEq] at H
   obtain ⟨rfl, rfl⟩ := H
   go_enter Try.func22, Try.ntmps22
   go_wp2_with (first | ((with_reducible refine gate_callee (f := 28) rfl ?_); refine goesL_ (some 8) rfl rfl Try.func28 (by kernel_rfl) rfl #[.slice A0 l0.length c0] rfl (by (try simp only [List.map_toArray, List.map_cons, List.map_nil]); first | done | rfl | (simp only [List.length_drop, List.length_take]; done) | (simp only [List.length_drop, List.length_take]; rfl)) ?_; (with_reducible refine (lore_May.calls _ _ l0 true _ ?side1 ?side2 A3.out).mono ?_); (case side1 => repeat (first | exact HR0.out | (with_reducible refine Kd.C_alloc ?_ _) | (with_reducible refine Kd.C_drewN ?_ _) | (with_reducible refine Kd.C_drew ?_))); (case side2 => exact HC0.out); rintro e w7 ⟨rfl, hb⟩; refine ⟨_, rfl, ?_⟩; have n0_ := Aside0.mk (below_step (by repeat (first | (with_reducible first | exact HB.out | apply below_alloc | apply pw_below_drewN | apply below_drew1) | exact HB.out)) hb); clear HB; have HB := n0_; clear n0_; (try clear hb); (try clear hb2); (try clear hk); (try clear hi)) | ((with_reducible refine gate_callee (f := 38) rfl ?_); refine goesL_ (some 12) rfl rfl Try.func38 (by kernel_rfl) rfl #[.slice A1 l1.length c1, .func (.func 39) #[] #[]] rfl (by (try simp only [List.map_toArray, List.map_cons, List.map_nil]); first | done | rfl | (simp only [List.length_drop, List.length_take]; done) | (simp only [List.length_drop, List.length_take]; rfl)) ?_; (with_reducible refine (slices_ContainsFunc_rune_rune.calls _ _ l1 true _ ?side1 ?side2 A5.out).mono ?_); (case side1 => repeat (first | exact (Kd.C_below HR1.out HB.out) | (with_reducible refine Kd.C_alloc ?_ _) | (with_reducible refine Kd.C_drewN ?_ _) | (with_reducible refine Kd.C_drew ?_))); (case side2 => exact HC1.out); rintro e w8 ⟨rfl, hb⟩; refine ⟨_, rfl, ?_⟩; have n0_ := Aside0.mk (below_step (by repeat (first | (with_reducible first | exact HB.out | apply below_alloc | apply pw_below_drewN | apply below_drew1) | exact HB.out)) hb); clear HB; have HB := n0_; clear n0_; (try clear hb); (try clear hb2); (try clear hk); (try clear hi)))
   go_ret2
   exact ⟨_, by first | rfl | (simp [errW_none, errW_some] <;> rfl) | (simp [*, errW_none, errW_some] <;> rfl), by first | exact Kd.R_nil _ _ _ _ _ | exact Kd.N_nil _ _ _ _ _ | exact Kd.V_nil _ _ _ _ _ | exact Kd.Q_nil _ _ _ _ _ | exact Kd.S_nil _ _ _ _ _, by repeat (first | (with_reducible first | exact HB.out | apply below_alloc | apply pw_below_drewN | apply below_drew1) | exact HB.out)⟩
  ·
   replace c6 := Bool.eq_false_iff.mpr c6
   subst c6
   have H1 : ((lore_Apart.f l0 l1).bind fun t131 => ((lore_Order.f l0 t131).bind fun t134 => (some (t134, 0)))) = some (r1, r2) := by rw [if_neg (show ¬ (false = true) by decide)] at H; exact H
   clear H
   have H := H1
   clear H1
   replace H := Option.bind_eq_some_iff.mp H
   obtain ⟨t131, A90, H⟩ := H
   replace H : ((lore_Order.f l0 t131).bind fun t134 => (some (t134, 0))) = some (r1, r2) := H
   have A9 := Aside0.mk A90
   clear A90
   replace H := Option.bind_eq_some_iff.mp H
   obtain ⟨t134, A100, H⟩ := H
   replace H : (some (t134, 0)) = some (r1, r2) := H
   have A10 := Aside0.mk A100
   clear A100
   simp only [Option.some.injEq, Prod.mk.injEq] at H
   obtain ⟨rfl, rfl⟩ := H
   go_enter Try.func22, Try.ntmps22
   go_wp2_with (first | ((with_reducible refine gate_callee (f := 28) rfl ?_); refine goesL_ (some 8) rfl rfl Try.func28 (by kernel_rfl) rfl #[.slice A0 l0.length c0] rfl (by (try simp only [List.map_toArray, List.map_cons, List.map_nil]); first | done | rfl | (simp only [List.length_drop, List.length_take]; done) | (simp only [List.length_drop, List.length_take]; rfl)) ?_; (with_reducible refine (lore_May.calls _ _ l0 true _ ?side1 ?side2 A3.out).mono ?_); (case side1 => repeat (first | exact HR0.out | (with_reducible refine Kd.C_alloc ?_ _) | (with_reducible refine Kd.C_drewN ?_ _) | (with_reducible refine Kd.C_drew ?_))); (case side2 => exact HC0.out); rintro e w11 ⟨rfl, hb⟩; refine ⟨_, rfl, ?_⟩; have n0_ := Aside0.mk (below_step (by repeat (first | (with_reducible first | exact HB.out | apply below_alloc | apply pw_below_drewN | apply below_drew1) | exact HB.out)) hb); clear HB; have HB := n0_; clear n0_; (try clear hb); (try clear hb2); (try clear hk); (try clear hi)) | ((with_reducible refine gate_callee (f := 38) rfl ?_); refine goesL_ (some 12) rfl rfl Try.func38 (by kernel_rfl) rfl #[.slice A1 l1.length c1, .func (.func 39) #[] #[]] rfl (by (try simp only [List.map_toArray, List.map_cons, List.map_nil]); first | done | rfl | (simp only [List.length_drop, List.length_take]; done) | (simp only [List.length_drop, List.length_take]; rfl)) ?_; (with_reducible refine (slices_ContainsFunc_rune_rune.calls _ _ l1 false _ ?side1 ?side2 A5.out).mono ?_); (case side1 => repeat (first | exact (Kd.C_below HR1.out HB.out) | (with_reducible refine Kd.C_alloc ?_ _) | (with_reducible refine Kd.C_drewN ?_ _) | (with_reducible refine Kd.C_drew ?_))); (case side2 => exact HC1.out); rintro e w12 ⟨rfl, hb⟩; refine ⟨_, rfl, ?_⟩; have n0_ := Aside0.mk (below_step (by repeat (first | (with_reducible first | exact HB.out | apply below_alloc | apply pw_below_drewN | apply below_drew1) | exact HB.out)) hb); clear HB; have HB := n0_; clear n0_; (try clear hb); (try clear hb2); (try clear hk); (try clear hi)) | ((with_reducible refine gate_callee (f := 42) rfl ?_); refine goesL_ (some 16) rfl rfl Try.func42 (by kernel_rfl) rfl #[.slice A0 l0.length c0, .slice A1 l1.length c1] rfl (by (try simp only [List.map_toArray, List.map_cons, List.map_nil]); first | done | rfl | (simp only [List.length_drop, List.length_take]; done) | (simp only [List.length_drop, List.length_take]; rfl)) ?_; (with_reducible refine (lore_Apart.calls _ _ l0 _ _ l1 t131 _ ?side1 ?side2 ?side3 ?side4 A9.out).mono ?_); (case side1 => repeat (first | exact (Kd.C_below HR0.out HB.out) | (with_reducible refine Kd.C_alloc ?_ _) | (with_reducible refine Kd.C_drewN ?_ _) | (with_reducible refine Kd.C_drew ?_))); (case side2 => exact HC0.out); (case side3 => repeat (first | exact (Kd.C_below HR1.out HB.out) | (with_reducible refine Kd.C_alloc ?_ _) | (with_reducible refine Kd.C_drewN ?_ _) | (with_reducible refine Kd.C_drew ?_))); (case side4 => exact HC1.out); rintro e w13 ⟨v132, rfl, ho0, hb⟩; refine ⟨_, rfl, ?_⟩; have n0_ := Aside0.mk (Kd.R_lower ho0 (below_size (by repeat (first | (with_reducible first | exact HB.out | apply below_alloc | apply pw_below_drewN | apply below_drew1) | exact HB.out)))); have n1_ := Aside0.mk (below_step (by repeat (first | (with_reducible first | exact HB.out | apply below_alloc | apply pw_below_drewN | apply below_drew1) | exact HB.out)) hb); clear HB; have HO133 := n0_; have HB := n1_; clear n0_ n1_; (try clear hb); (try clear hb2); (try clear hk); (try clear hi); (try clear ho0); obtain ⟨Ao14, co14, eo14⟩ := Kd.R_slice HO133.out; subst eo14) | ((with_reducible refine gate_callee (f := 41) rfl ?_); refine goesL_ (some 17) rfl rfl Try.func41 (by kernel_rfl) rfl #[.slice A0 l0.length c0, .slice Ao14 t131.length co14] rfl (by (try simp only [List.map_toArray, List.map_cons, List.map_nil]); first | done | rfl | (simp only [List.length_drop, List.length_take]; done) | (simp only [List.length_drop, List.length_take]; rfl)) ?_; (with_reducible refine (lore_Order.calls _ _ l0 _ _ t131 t134 _ ?side1 ?side2 ?side3 ?side4 A10.out).mono ?_); (case side1 => repeat (first | exact (Kd.C_below HR0.out HB.out) | (with_reducible refine Kd.C_alloc ?_ _) | (with_reducible refine Kd.C_drewN ?_ _) | (with_reducible refine Kd.C_drew ?_))); (case side2 => exact HC0.out); (case side3 => repeat (first | exact (Kd.R_reads' HO133.out).2.2 | (with_reducible refine Kd.C_alloc ?_ _) | (with_reducible refine Kd.C_drewN ?_ _) | (with_reducible refine Kd.C_drew ?_))); (case side4 => exact (Kd.R_reads' HO133.out).2.1); rintro e w15 ⟨v135, rfl, ho0, hb⟩; refine ⟨_, rfl, ?_⟩; have n0_ := Aside0.mk (Kd.R_elder' (by (with_reducible repeat (first | apply Kd.R_alloc | apply Kd.R_drewN | apply Kd.R_drew)); exact HO133.out) (Kd.R_base ho0) hb); have n1_ := Aside0.mk (Kd.R_lower (Kd.R_new' ho0 (Kd.R_lt (by (with_reducible repeat (first | apply Kd.R_alloc | apply Kd.R_drewN | apply Kd.R_drew)); exact HO133.out))) (below_size (by repeat (first | (with_reducible first | exact HB.out | apply below_alloc | apply pw_below_drewN | apply below_drew1) | exact HB.out)))); have n2_ := Aside0.mk (below_step (by repeat (first | (with_reducible first | exact HB.out | apply below_alloc | apply pw_below_drewN | apply below_drew1) | exact HB.out)) hb); clear HO133; clear HB; have HO133 := n0_; have HO136 := n1_; have HB := n2_; clear n0_ n1_ n2_; (try clear hb); (try clear hb2); (try clear hk); (try clear hi); (try clear ho0)))
   go_ret2
   exact ⟨_, by first | rfl | (simp [errW_none, errW_some] <;> rfl) | (simp [*, errW_none, errW_some] <;> rfl), by (with_reducible repeat (first | apply Kd.R_alloc | apply Kd.R_drewN | apply Kd.R_drew)); exact Kd.R_mono HO136.out (fun _ hk => trivial), by repeat (first | (with_reducible first | exact HB.out | apply below_alloc | apply pw_below_drewN | apply below_drew1) | exact HB.out)⟩
 ·
  replace c4 := Bool.eq_false_iff.mpr c4
  subst c4
  have H1 : (some (([] : List Int), 4)) = some (r1, r2) := by rw [if_neg (show ¬ (false = true) by decide)] at H; exact H
  clear H
  have H := H1
  clear H1
  simp only [Option.some.injEq, Prod.mk.injEq] at H
  obtain ⟨rfl, rfl⟩ := H
  go_enter Try.func22, Try.ntmps22
  go_wp2_with (first | ((with_reducible refine gate_callee (f := 28) rfl ?_); refine goesL_ (some 8) rfl rfl Try.func28 (by kernel_rfl) rfl #[.slice A0 l0.length c0] rfl (by (try simp only [List.map_toArray, List.map_cons, List.map_nil]); first | done | rfl | (simp only [List.length_drop, List.length_take]; done) | (simp only [List.length_drop, List.length_take]; rfl)) ?_; (with_reducible refine (lore_May.calls _ _ l0 false _ ?side1 ?side2 A3.out).mono ?_); (case side1 => repeat (first | exact HR0.out | (with_reducible refine Kd.C_alloc ?_ _) | (with_reducible refine Kd.C_drewN ?_ _) | (with_reducible refine Kd.C_drew ?_))); (case side2 => exact HC0.out); rintro e w16 ⟨rfl, hb⟩; refine ⟨_, rfl, ?_⟩; have n0_ := Aside0.mk (below_step (by repeat (first | (with_reducible first | exact HB.out | apply below_alloc | apply pw_below_drewN | apply below_drew1) | exact HB.out)) hb); clear HB; have HB := n0_; clear n0_; (try clear hb); (try clear hb2); (try clear hk); (try clear hi)))
  go_ret2
  exact ⟨_, by first | rfl | (simp [errW_none, errW_some] <;> rfl) | (simp [*, errW_none, errW_some] <;> rfl), by first | exact Kd.R_nil _ _ _ _ _ | exact Kd.N_nil _ _ _ _ _ | exact Kd.V_nil _ _ _ _ _ | exact Kd.Q_nil _ _ _ _ _ | exact Kd.S_nil _ _ _ _ _, by repeat (first | (with_reducible first | exact HB.out | apply below_alloc | apply pw_below_drewN | apply below_drew1) | exact HB.out)⟩

-- NOT PRINTED: function 65 (api_Row_rune_65)

-- NOT PRINTED: function 54 (api_Row_rune_54)

-- NOT PRINTED: function 32 (weigh_find)

-- NOT PRINTED: function 24 (weigh_longer)

end Go.Proofs.Ytfagobhhhljajaa.PWeighImplied

-- printed by a program of this session (wip/tools), a turned form of the kit's print
import Derived.Test.YtfagobhhhljajaaWPeel
import Derived.Test.YtfagobhhhljajaaPWeighPartsx0
namespace Go.Proofs.Ytfagobhhhljajaa.PWeighParts
open Go.RowKit Go.Proofs.YtfagobhhhljajaaW.PrintWords Go.Proofs.YtfagobhhhljajaaW.PrintLast Go.Proofs.YtfagobhhhljajaaW.PrintMore
attribute [local go_sem] max2_int min2_int max_two min_two max_three min_three max_four min_four max2_str min2_str str_geq str_leq str_gtr   -- for this text's walks alone
set_option linter.unusedVariables false
set_option linter.unusedSimpArgs false

/-! ### weigh_within: function 29 -/
def weigh_within.f (a0 : Int) (a1 : Int) (a2 : Int) : Option (Bool) := if a0 ≥ a1 then (some (decide (a0 ≤ a2))) else (some false)
set_option maxHeartbeats 8000000 in
set_option maxRecDepth 100000 in
theorem weigh_within.calls (a0 : Int) (a1 : Int) (a2 : Int) (r : Bool) (w : World) (h : weigh_within.f a0 a1 a2 = some r) :
  Calls Try.prog 29 #[.int .i64 a0, .int .i64 a1, .int .i64 a2] w fun e w' => e = .returned (.bool r) ∧ Drawn0 w w' := by
 have H : (if a0 ≥ a1 then (some (decide (a0 ≤ a2))) else (some false)) = some r := h
 clear h
 by_cases c4 : a0 ≥ a1
 ·
  rw [if_pos c4] at H
  have c4b0 : decide (a1 ≤ a0) = true := decide_eq_true c4
  clear c4
  obtain rfl := Option.some.inj H
  go_enter Try.func29, Try.ntmps29
  go_wp2
  go_ret
  exact ⟨by first | rfl | (simp; done) | (simp [*]; done), by repeat (first | exact Drawn0.refl _ | apply Drawn0.step)⟩
 ·
  rw [if_neg c4] at H
  have c4b0 : decide (a1 ≤ a0) = false := decide_eq_false c4
  clear c4
  obtain rfl := Option.some.inj H
  go_enter Try.func29, Try.ntmps29
  go_wp2
  go_ret
  exact ⟨by first | rfl | (simp; done) | (simp [*]; done), by repeat (first | exact Drawn0.refl _ | apply Drawn0.step)⟩

/-! ### utf8_ValidRune: function 57 -/
def utf8_ValidRune.j0 : Nat → Int → Bool → Option (Bool)
 | 0, _, _ => none
 | k + 1, x0, x3 => if x3 = true then (some true) else (if 57343 < x0 then (if x0 ≤ 1114111 then (some true) else (some false)) else (some false))
def utf8_ValidRune.f (k : Nat) (a0 : Int) : Option (Bool) := if 0 ≤ a0 then (utf8_ValidRune.j0 k a0 (decide (a0 < 55296))) else (utf8_ValidRune.j0 k a0 false)
theorem utf8_ValidRune.mono_l : ∀ k, (∀ y0 y1, LeO (utf8_ValidRune.j0 k y0 y1) (utf8_ValidRune.j0 (k + 1) y0 y1))
 | 0 => fun _ _ r h => by simp [utf8_ValidRune.j0] at h
 | k + 1 => by
  have ih0 := utf8_ValidRune.mono_l k
  ·
   intro y0 y1
   unfold utf8_ValidRune.j0
   repeat' first
   | (with_reducible exact ih0 _ _)
   | (with_reducible exact LeO.refl _)
   | (with_reducible exact LeO.none _)
   | (with_reducible refine LeO.ite ?_ ?_)
   | (with_reducible refine LeO.bind ?_ (fun _ => ?_))
   | exact ih0 _ _
   | exact LeO.none _
   | refine LeO.ite ?_ ?_
   | refine LeO.bind ?_ (fun _ => ?_)
theorem utf8_ValidRune.mono : ∀ a0 k, LeO (utf8_ValidRune.f k a0) (utf8_ValidRune.f (k + 1) a0) := by
 intro a0 k
 have ih0 := utf8_ValidRune.mono_l k
 unfold utf8_ValidRune.f
 repeat' first
   | (with_reducible exact ih0 _ _)
   | (with_reducible exact LeO.refl _)
   | (with_reducible exact LeO.none _)
   | (with_reducible refine LeO.ite ?_ ?_)
   | (with_reducible refine LeO.bind ?_ (fun _ => ?_))
   | exact ih0 _ _
   | exact LeO.none _
   | refine LeO.ite ?_ ?_
   | refine LeO.bind ?_ (fun _ => ?_)
set_option maxHeartbeats 8000000 in
set_option maxRecDepth 100000 in
theorem utf8_ValidRune.calls (k : Nat) (a0 : Int) (r : Bool) (w : World) (h : utf8_ValidRune.f k a0 = some r) :
  Calls Try.prog 57 #[.int .i32 a0] w fun e w' => e = .returned (.bool r) ∧ Drawn0 w w' := by
 have H : (if 0 ≤ a0 then (utf8_ValidRune.j0 k a0 (decide (a0 < 55296))) else (utf8_ValidRune.j0 k a0 false)) = some r := h
 clear h
 have HC2 := Aside0.mk H
 clear H
 go_enter Try.func57, Try.ntmps57
 go_upto_region 1 with (fail)
 go_cut [3] (fun v3 wc => ∃ (kq : Nat) (x3_1 : Bool), v3 = .bool x3_1 ∧ Aside0 (utf8_ValidRune.j0 kq a0 x3_1 = some r) ∧ Aside0 (kq ≤ k) ∧ Drawn0 w wc)
 case first =>
  have H := HC2.out
  clear HC2
  by_cases c3 : 0 ≤ a0
  ·
   rw [if_pos c3] at H
   have c3b0 : decide (0 ≤ a0) = true := decide_eq_true c3
   clear c3
   (first | rw [c3b0] | (simp only [i64_w, i32_w]; rw [c3b0]) | skip)
   have H' := Aside0.mk H
   clear H
   go_wp2
   go_meet
   case rel => exact ⟨_, (decide (a0 < 55296)), (by first | rfl | (simp; done) | (simp [*]; done)), H', ⟨by first | omega | exact Nat.le_refl _⟩, by repeat (first | exact Drawn0.refl _ | apply Drawn0.step)⟩
  ·
   rw [if_neg c3] at H
   have c3b0 : decide (0 ≤ a0) = false := decide_eq_false c3
   clear c3
   (first | rw [c3b0] | (simp only [i64_w, i32_w]; rw [c3b0]) | skip)
   have H' := Aside0.mk H
   clear H
   go_wp2
   go_meet
   case rel => exact ⟨_, (false), (by first | rfl | (simp; done) | (simp [*]; done)), H', ⟨by first | omega | exact Nat.le_refl _⟩, by repeat (first | exact Drawn0.refl _ | apply Drawn0.step)⟩
 case rest =>
  clear HC2
  try clear p2
  try clear c3
  try clear c3b0
  obtain ⟨kq, x3_1, rfl, HA, HJ1, ⟨mc1, rfl⟩⟩ := hcut
  cases kq with
  | zero => exact absurd HA.out (by simp [utf8_ValidRune.j0])
  | succ kj1 =>
   have H := HA.out
   clear HA
   simp only [utf8_ValidRune.j0] at H
   by_cases c4 : x3_1 = true
   ·
    subst c4
    have H1 : (some true) = some r := by rw [if_pos rfl] at H; exact H
    clear H
    have H := H1
    clear H1
    obtain rfl := Option.some.inj H
    go_wp2
    go_ret
    exact ⟨by first | rfl | (simp; done) | (simp [*]; done), by repeat (first | exact Drawn0.refl _ | apply Drawn0.step)⟩
   ·
    replace c4 := Bool.eq_false_iff.mpr c4
    subst c4
    have H1 : (if 57343 < a0 then (if a0 ≤ 1114111 then (some true) else (some false)) else (some false)) = some r := by rw [if_neg (show ¬ (false = true) by decide)] at H; exact H
    clear H
    have H := H1
    clear H1
    by_cases c5 : 57343 < a0
    ·
     rw [if_pos c5] at H
     have c5b0 : decide (57343 < a0) = true := decide_eq_true c5
     clear c5
     by_cases c6 : a0 ≤ 1114111
     ·
      rw [if_pos c6] at H
      have c6b0 : decide (a0 ≤ 1114111) = true := decide_eq_true c6
      clear c6
      obtain rfl := Option.some.inj H
      go_wp2
      go_ret
      exact ⟨by first | rfl | (simp; done) | (simp [*]; done), by repeat (first | exact Drawn0.refl _ | apply Drawn0.step)⟩
     ·
      rw [if_neg c6] at H
      have c6b0 : decide (a0 ≤ 1114111) = false := decide_eq_false c6
      clear c6
      obtain rfl := Option.some.inj H
      go_wp2
      go_ret
      exact ⟨by first | rfl | (simp; done) | (simp [*]; done), by repeat (first | exact Drawn0.refl _ | apply Drawn0.step)⟩
    ·
     rw [if_neg c5] at H
     have c5b0 : decide (57343 < a0) = false := decide_eq_false c5
     clear c5
     obtain rfl := Option.some.inj H
     go_wp2
     go_ret
     exact ⟨by first | rfl | (simp; done) | (simp [*]; done), by repeat (first | exact Drawn0.refl _ | apply Drawn0.step)⟩

/-! ### scalar_May: function 40 -/
def scalar_May.f (k : Nat) (a0 : Int) : Option (Bool) := (utf8_ValidRune.f k a0).bind fun t101 => (some t101)
theorem scalar_May.mono : ∀ a0 k, LeO (scalar_May.f k a0) (scalar_May.f (k + 1) a0) := by
 intro a0 k
 unfold scalar_May.f
 repeat' first
   | (with_reducible exact utf8_ValidRune.mono _ _)
   | (with_reducible exact LeO.refl _)
   | (with_reducible exact LeO.none _)
   | (with_reducible refine LeO.ite ?_ ?_)
   | (with_reducible refine LeO.bind ?_ (fun _ => ?_))
   | exact utf8_ValidRune.mono _ _
   | exact LeO.none _
   | refine LeO.ite ?_ ?_
   | refine LeO.bind ?_ (fun _ => ?_)
set_option maxHeartbeats 8000000 in
set_option maxRecDepth 100000 in
theorem scalar_May.calls (k : Nat) (a0 : Int) (r : Bool) (w : World) (h : scalar_May.f k a0 = some r) :
  Calls Try.prog 40 #[.int .i32 a0] w fun e w' => e = .returned (.bool r) ∧ Drawn0 w w' := by
 have H : ((utf8_ValidRune.f k a0).bind fun t101 => (some t101)) = some r := h
 clear h
 replace H := Option.bind_eq_some_iff.mp H
 obtain ⟨t101, A20, H⟩ := H
 replace H : (some t101) = some r := H
 have A2 := Aside0.mk A20
 clear A20
 obtain rfl := Option.some.inj H
 go_enter Try.func40, Try.ntmps40
 go_wp2_with (first | ((with_reducible refine gate_callee (f := 57) rfl ?_); refine goesL_ (some 4) rfl rfl Try.func57 (by kernel_rfl) rfl #[.int .i32 a0] rfl (by (try simp only [List.map_toArray, List.map_cons, List.map_nil]); first | done | rfl | (simp only [List.length_drop, List.length_take]; done) | (simp only [List.length_drop, List.length_take]; rfl)) ?_; (with_reducible refine (utf8_ValidRune.calls k a0 t101 _ A2.out).mono ?_); rintro e w' ⟨rfl, ⟨nd, rfl⟩⟩; refine ⟨_, rfl, ?_⟩))
 go_ret
 exact ⟨by first | rfl | (simp; done) | (simp [*]; done), by repeat (first | exact Drawn0.refl _ | apply Drawn0.step)⟩

/-! ### lore_rises: function 45 -/
def lore_rises.l0 : Nat → List (S42) → List (S42) → Int → Int → Option (Bool)
 | 0, _, _, _, _ => none
 | k + 1, x0, x5, x6, x7 => if x7 < x6 then (if 0 ≤ x7 then (if x7 < (x5.length : Int) then ((scalar_May.f k ((rd_T42 x5 x7).f0)).bind fun t104 => (if t104 = true then (if x7 > 0 then (if 0 ≤ (wrap64 (x7 - 1)) then (if (wrap64 (x7 - 1)) < (x0.length : Int) then (if ((rd_T42 x5 x7).f0) ≤ ((rd_T42 x0 (wrap64 (x7 - 1))).f0) then (some false) else (lore_rises.l0 k x0 x5 x6 (wrap64 (x7 + 1)))) else (none)) else (none)) else (lore_rises.l0 k x0 x5 x6 (wrap64 (x7 + 1)))) else (some false))) else (none)) else (none)) else (some true)
def lore_rises.f (k : Nat) (l0 : List (S42)) : Option (Bool) := lore_rises.l0 k l0 l0 (l0.length : Int) 0
theorem lore_rises.mono_l : ∀ k, (∀ y0 y1 y2 y3, LeO (lore_rises.l0 k y0 y1 y2 y3) (lore_rises.l0 (k + 1) y0 y1 y2 y3))
 | 0 => fun _ _ _ _ r h => by simp [lore_rises.l0] at h
 | k + 1 => by
  have ih0 := lore_rises.mono_l k
  ·
   intro y0 y1 y2 y3
   unfold lore_rises.l0
   repeat' first
   | (with_reducible exact ih0 _ _ _ _)
   | (with_reducible exact scalar_May.mono _ _)
   | (with_reducible exact LeO.refl _)
   | (with_reducible exact LeO.none _)
   | (with_reducible refine LeO.ite ?_ ?_)
   | (with_reducible refine LeO.bind ?_ (fun _ => ?_))
   | exact ih0 _ _ _ _
   | exact scalar_May.mono _ _
   | exact LeO.none _
   | refine LeO.ite ?_ ?_
   | refine LeO.bind ?_ (fun _ => ?_)
theorem lore_rises.mono : ∀ a0 k, LeO (lore_rises.f k a0) (lore_rises.f (k + 1) a0) := by
 intro a0 k
 have ih0 := lore_rises.mono_l k
 unfold lore_rises.f
 repeat' first
   | (with_reducible exact ih0 _ _ _ _)
   | (with_reducible exact scalar_May.mono _ _)
   | (with_reducible exact LeO.refl _)
   | (with_reducible exact LeO.none _)
   | (with_reducible refine LeO.ite ?_ ?_)
   | (with_reducible refine LeO.bind ?_ (fun _ => ?_))
   | exact ih0 _ _ _ _
   | exact scalar_May.mono _ _
   | exact LeO.none _
   | refine LeO.ite ?_ ?_
   | refine LeO.bind ?_ (fun _ => ?_)
set_option maxHeartbeats 8000000 in
set_option maxRecDepth 100000 in
theorem lore_rises.calls (k : Nat) (A0 : Option Addr) (c0 : Nat) (l0 : List (S42)) (r : Bool) (w : World) (hr0 : Kd.C k42 w A0 l0.length l0) (hc0 : l0.length ≤ c0) (h : lore_rises.f k l0 = some r) :
  Calls Try.prog 45 #[.slice A0 l0.length c0] w fun e w' => e = .returned (.bool r) ∧ Below w.heap.size w w' := by
 have hu42 := Try.underlying42
 have HR0 := Aside0.mk hr0
 have HC0 := Aside0.mk hc0
 clear hr0 hc0
 have HB := Aside0.mk (Below.refl w.heap.size w)
 have H : (lore_rises.l0 k l0 l0 (l0.length : Int) 0) = some r := h
 clear h
 have H' := Aside0.mk H
 clear H
 go_enter Try.func45, Try.ntmps45
 go_wp2
 repeat (go_quiet (fail); try go_wp2)
 go_loopg [7] k (fun kq v7 w' => ∃ (x7_1 : Int), v7 = .int .i64 x7_1 ∧ Aside0 (lore_rises.l0 kq l0 l0 (l0.length : Int) x7_1 = some r) ∧ Aside0 (kq ≤ k) ∧ Aside0 (Below w.heap.size w w'))
 case atStart => exact ⟨(0), (by first | rfl | (simp; done) | (simp [*]; done)), H', ⟨Nat.le_refl _⟩, ⟨by repeat (first | (with_reducible first | exact HB.out | apply below_alloc | apply pw_below_drewN | apply below_drew1) | exact HB.out)⟩⟩
 case round =>
  clear H'
  obtain ⟨x7_1, rfl, HA, HK1, HB⟩ := hrel
  cases gk with
  | zero => exact absurd HA.out (by simp [lore_rises.l0])
  | succ k1 =>
   have H := HA.out
   clear HA
   simp only [lore_rises.l0] at H
   by_cases c2 : x7_1 < (l0.length : Int)
   ·
    rw [if_pos c2] at H
    have c2b0 : decide (x7_1 < (l0.length : Int)) = true := decide_eq_true c2
    clear c2
    by_cases c3 : 0 ≤ x7_1
    ·
     rw [if_pos c3] at H
     have c3b0 : decide (0 ≤ x7_1) = true := decide_eq_true c3
     clear c3
     by_cases c4 : x7_1 < (l0.length : Int)
     ·
      rw [if_pos c4] at H
      have c4b0 : decide (x7_1 < (l0.length : Int)) = true := decide_eq_true c4
      clear c4
      replace H := Option.bind_eq_some_iff.mp H
      obtain ⟨t104, A50, H⟩ := H
      replace H : (if t104 = true then (if x7_1 > 0 then (if 0 ≤ (wrap64 (x7_1 - 1)) then (if (wrap64 (x7_1 - 1)) < (l0.length : Int) then (if ((rd_T42 l0 x7_1).f0) ≤ ((rd_T42 l0 (wrap64 (x7_1 - 1))).f0) then (some false) else (lore_rises.l0 k1 l0 l0 (l0.length : Int) (wrap64 (x7_1 + 1)))) else (none)) else (none)) else (lore_rises.l0 k1 l0 l0 (l0.length : Int) (wrap64 (x7_1 + 1)))) else (some false)) = some r := H
      have A5 := Aside0.mk A50
      clear A50
      by_cases c6 : t104 = true
      ·
       subst c6
       have H1 : (if x7_1 > 0 then (if 0 ≤ (wrap64 (x7_1 - 1)) then (if (wrap64 (x7_1 - 1)) < (l0.length : Int) then (if ((rd_T42 l0 x7_1).f0) ≤ ((rd_T42 l0 (wrap64 (x7_1 - 1))).f0) then (some false) else (lore_rises.l0 k1 l0 l0 (l0.length : Int) (wrap64 (x7_1 + 1)))) else (none)) else (none)) else (lore_rises.l0 k1 l0 l0 (l0.length : Int) (wrap64 (x7_1 + 1)))) = some r := by rw [if_pos rfl] at H; exact H
       clear H
       have H := H1
       clear H1
       by_cases c7 : x7_1 > 0
       ·
        rw [if_pos c7] at H
        have c7b0 : decide (0 < x7_1) = true := decide_eq_true c7
        clear c7
        obtain ⟨ji8, hji8⟩ : ∃ j_ : Int, (wrap64 (x7_1 - 1)) = j_ := ⟨_, rfl⟩
        replace H : (if 0 ≤ (ji8) then (if (ji8) < (l0.length : Int) then (if ((rd_T42 l0 x7_1).f0) ≤ ((rd_T42 l0 (ji8)).f0) then (some false) else (lore_rises.l0 k1 l0 l0 (l0.length : Int) (wrap64 (x7_1 + 1)))) else (none)) else (none)) = some r := by first | (rw [hji8] at H; exact H) | (simp only [hji8] at H ⊢; exact H)
        (try rw [hji8] at A5)
        have hji8w : (IntKind.i64.wrap (x7_1 - 1)) = ji8 := (i64_w _).trans hji8
        by_cases c9 : 0 ≤ (ji8)
        ·
         rw [if_pos c9] at H
         have c9b0 : decide (0 ≤ (ji8)) = true := decide_eq_true c9
         clear c9
         by_cases c10 : (ji8) < (l0.length : Int)
         ·
          rw [if_pos c10] at H
          have c10b0 : decide ((ji8) < (l0.length : Int)) = true := decide_eq_true c10
          clear c10
          by_cases c11 : ((rd_T42 l0 x7_1).f0) ≤ ((rd_T42 l0 (ji8)).f0)
          ·
           rw [if_pos c11] at H
           have c11b0 : decide (((rd_T42 l0 x7_1).f0) ≤ ((rd_T42 l0 (ji8)).f0)) = true := decide_eq_true c11
           clear c11
           obtain rfl := Option.some.inj H
           have p102 : 0 ≤ (x7_1 : Int) := of_decide_eq_true (by first | (with_reducible assumption) | assumption)
           have q102 : x7_1 < (l0.length : Int) := of_decide_eq_true (by first | (with_reducible assumption) | assumption)
           obtain ⟨ad102, A102_2, c102_2, e102, hx102_0, hx102_1, hx102_2, hl102_2, hi102_2⟩ := at_T42 HR0.out x7_1 p102 q102
           cases e102
           replace hx102_0 := (HB.out.cell (World.block_lt_of_cell? w _ hx102_0)).trans hx102_0
           replace hx102_1 := (HB.out.cell (World.block_lt_of_cell? w _ hx102_1)).trans hx102_1
           replace hx102_2 := (HB.out.cell (World.block_lt_of_cell? w _ hx102_2)).trans hx102_2
           have HR102_2 := Aside0.mk hi102_2
           have HC102_2 := Aside0.mk hl102_2
           clear hi102_2 hl102_2
           replace p102 := eq_true p102
           replace q102 := eq_true q102
           go_wp2_with (first | ((with_reducible refine gate_dst (N := 4) rfl ?_); refine box_event ?hg (N := 4) ?hd (cs := #[.int .i32 0, .int .i64 0, .slice none 0 0]) (t := 42) ?hr ?_; (case hd => rfl); (case hg => rfl); (case hr => first | (go_simp; done) | (go_simp; rfl)); intro gb103 hg w12 hbox hb; have BK103 := Aside0.mk (hbox); have GW103 := Aside0.mk ((by rw [hg]; exact (below_size (by repeat (first | (with_reducible first | exact HB.out | apply below_alloc | apply pw_below_drewN | apply below_drew1) | exact HB.out))) : w.heap.size ≤ gb103)); have GE103 := Aside0.mk ((by rw [hg]; exact (below_size (by repeat (first | (with_reducible first | exact HB.out | apply below_alloc | apply pw_below_drewN | apply below_drew1) | exact HB.out))) : w.heap.size ≤ gb103)); replace HB := Aside0.mk (below_step (by repeat (first | (with_reducible first | exact HB.out | apply below_alloc | apply pw_below_drewN | apply below_drew1) | exact HB.out)) hb); clear hb hbox hg; have hcz13_0 : w12.cell? ⟨gb103, 0, none⟩ = some (.int .i32 0) := blk_cell BK103.out 0; have hcz13_1 : w12.cell? ⟨gb103, 1, none⟩ = some (.int .i64 0) := blk_cell BK103.out 1; have hcz13_2 : w12.cell? ⟨gb103, 2, none⟩ = some (.slice none 0 0) := blk_cell BK103.out 2; have hfz13_0 := blk_frozen BK103.out 0; have hfz13_1 := blk_frozen BK103.out 1; have hfz13_2 := blk_frozen BK103.out 2) | (go_at_call 40; (with_reducible refine (scalar_May.calls k1 ((rd_T42 l0 x7_1).f0) true _ A5.out).mono ?_); rintro e w' ⟨rfl, ⟨nd, rfl⟩⟩; (try first | exact ⟨rfl, _, World.drewN_drewN _ _ _⟩ | exact ⟨rfl, _, Eq.trans (World.drewN_drewN _ _ _) (congrArg (World.drewN _) (Nat.add_assoc _ _ _))⟩); have p105 : 0 ≤ ((ji8) : Int) := of_decide_eq_true (by first | (with_reducible assumption) | assumption); have q105 : (ji8) < (l0.length : Int) := of_decide_eq_true (by first | (with_reducible assumption) | assumption); obtain ⟨ad105, A105_2, c105_2, e105, hx105_0, hx105_1, hx105_2, hl105_2, hi105_2⟩ := at_T42 HR0.out (ji8) p105 q105; obtain rfl : ad102 = ad105 := (by injection e105); have hn105_0 : ad102.block ≠ gb103 := Nat.ne_of_lt (Nat.lt_of_lt_of_le (by have := World.block_lt_of_cell? _ _ hx105_0; first | rwa [add_block] at this | exact this) GW103.out); have hn105_1 : ad102.block ≠ gb103 := Nat.ne_of_lt (Nat.lt_of_lt_of_le (by have := World.block_lt_of_cell? _ _ hx105_0; first | rwa [add_block] at this | exact this) GW103.out); have hn105_2 : ad102.block ≠ gb103 := Nat.ne_of_lt (Nat.lt_of_lt_of_le (by have := World.block_lt_of_cell? _ _ hx105_0; first | rwa [add_block] at this | exact this) GW103.out); replace hx105_0 := (HB.out.cell (World.block_lt_of_cell? w _ hx105_0)).trans hx105_0; replace hx105_1 := (HB.out.cell (World.block_lt_of_cell? w _ hx105_1)).trans hx105_1; replace hx105_2 := (HB.out.cell (World.block_lt_of_cell? w _ hx105_2)).trans hx105_2; have HR105_2 := Aside0.mk hi105_2; have HC105_2 := Aside0.mk hl105_2; clear hi105_2 hl105_2; replace hx105_0 := (cell_far (p := ⟨gb103, 0, none⟩) (by first | (rw [add_block]; exact hn105_0) | (show (Addr.add _ _).block ≠ _; rw [add_block]; exact hn105_0) | exact hn105_0) (.int .i32 ((rd_T42 l0 x7_1).f0))).trans hx105_0; replace hx105_1 := (cell_far (p := ⟨gb103, 0, none⟩) (by first | (rw [add_block]; exact hn105_0) | (show (Addr.add _ _).block ≠ _; rw [add_block]; exact hn105_0) | exact hn105_0) (.int .i32 ((rd_T42 l0 x7_1).f0))).trans hx105_1; replace hx105_2 := (cell_far (p := ⟨gb103, 0, none⟩) (by first | (rw [add_block]; exact hn105_0) | (show (Addr.add _ _).block ≠ _; rw [add_block]; exact hn105_0) | exact hn105_0) (.int .i32 ((rd_T42 l0 x7_1).f0))).trans hx105_2; replace hx105_0 := (cell_far (p := ⟨gb103, 1, none⟩) (by first | (rw [add_block]; exact hn105_1) | (show (Addr.add _ _).block ≠ _; rw [add_block]; exact hn105_1) | exact hn105_1) (.int .i64 ((rd_T42 l0 x7_1).f1))).trans hx105_0; replace hx105_1 := (cell_far (p := ⟨gb103, 1, none⟩) (by first | (rw [add_block]; exact hn105_1) | (show (Addr.add _ _).block ≠ _; rw [add_block]; exact hn105_1) | exact hn105_1) (.int .i64 ((rd_T42 l0 x7_1).f1))).trans hx105_1; replace hx105_2 := (cell_far (p := ⟨gb103, 1, none⟩) (by first | (rw [add_block]; exact hn105_1) | (show (Addr.add _ _).block ≠ _; rw [add_block]; exact hn105_1) | exact hn105_1) (.int .i64 ((rd_T42 l0 x7_1).f1))).trans hx105_2; replace hx105_0 := (cell_far (p := ⟨gb103, 2, none⟩) (by first | (rw [add_block]; exact hn105_2) | (show (Addr.add _ _).block ≠ _; rw [add_block]; exact hn105_2) | exact hn105_2) (.slice A102_2 ((rd_T42 l0 x7_1).f2).length c102_2)).trans hx105_0; replace hx105_1 := (cell_far (p := ⟨gb103, 2, none⟩) (by first | (rw [add_block]; exact hn105_2) | (show (Addr.add _ _).block ≠ _; rw [add_block]; exact hn105_2) | exact hn105_2) (.slice A102_2 ((rd_T42 l0 x7_1).f2).length c102_2)).trans hx105_1; replace hx105_2 := (cell_far (p := ⟨gb103, 2, none⟩) (by first | (rw [add_block]; exact hn105_2) | (show (Addr.add _ _).block ≠ _; rw [add_block]; exact hn105_2) | exact hn105_2) (.slice A102_2 ((rd_T42 l0 x7_1).f2).length c102_2)).trans hx105_2; (try have hy105_0 := fun (n_ : Nat) => (show (((((w12.drewN n_).setCell ⟨gb103, 0, none⟩ (.int .i32 ((rd_T42 l0 x7_1).f0))).setCell ⟨gb103, 1, none⟩ (.int .i64 ((rd_T42 l0 x7_1).f1))).setCell ⟨gb103, 2, none⟩ (.slice A102_2 ((rd_T42 l0 x7_1).f2).length c102_2))).cell? _ = some _ from hx105_0)); (try have hy105_1 := fun (n_ : Nat) => (show (((((w12.drewN n_).setCell ⟨gb103, 0, none⟩ (.int .i32 ((rd_T42 l0 x7_1).f0))).setCell ⟨gb103, 1, none⟩ (.int .i64 ((rd_T42 l0 x7_1).f1))).setCell ⟨gb103, 2, none⟩ (.slice A102_2 ((rd_T42 l0 x7_1).f2).length c102_2))).cell? _ = some _ from hx105_1)); (try have hy105_2 := fun (n_ : Nat) => (show (((((w12.drewN n_).setCell ⟨gb103, 0, none⟩ (.int .i32 ((rd_T42 l0 x7_1).f0))).setCell ⟨gb103, 1, none⟩ (.int .i64 ((rd_T42 l0 x7_1).f1))).setCell ⟨gb103, 2, none⟩ (.slice A102_2 ((rd_T42 l0 x7_1).f2).length c102_2))).cell? _ = some _ from hx105_2)); clear hn105_0; clear hn105_1; clear hn105_2; replace p105 := eq_true p105; replace q105 := eq_true q105))
           repeat (go_quiet (first | ((with_reducible refine gate_dst (N := 4) rfl ?_); refine box_event ?hg (N := 4) ?hd (cs := #[.int .i32 0, .int .i64 0, .slice none 0 0]) (t := 42) ?hr ?_; (case hd => rfl); (case hg => rfl); (case hr => first | (go_simp; done) | (go_simp; rfl)); intro gb103 hg w12 hbox hb; have BK103 := Aside0.mk (hbox); have GW103 := Aside0.mk ((by rw [hg]; exact (below_size (by repeat (first | (with_reducible first | exact HB.out | apply below_alloc | apply pw_below_drewN | apply below_drew1) | exact HB.out))) : w.heap.size ≤ gb103)); have GE103 := Aside0.mk ((by rw [hg]; exact (below_size (by repeat (first | (with_reducible first | exact HB.out | apply below_alloc | apply pw_below_drewN | apply below_drew1) | exact HB.out))) : w.heap.size ≤ gb103)); replace HB := Aside0.mk (below_step (by repeat (first | (with_reducible first | exact HB.out | apply below_alloc | apply pw_below_drewN | apply below_drew1) | exact HB.out)) hb); clear hb hbox hg; have hcz13_0 : w12.cell? ⟨gb103, 0, none⟩ = some (.int .i32 0) := blk_cell BK103.out 0; have hcz13_1 : w12.cell? ⟨gb103, 1, none⟩ = some (.int .i64 0) := blk_cell BK103.out 1; have hcz13_2 : w12.cell? ⟨gb103, 2, none⟩ = some (.slice none 0 0) := blk_cell BK103.out 2; have hfz13_0 := blk_frozen BK103.out 0; have hfz13_1 := blk_frozen BK103.out 1; have hfz13_2 := blk_frozen BK103.out 2) | (go_at_call 40; (with_reducible refine (scalar_May.calls k1 ((rd_T42 l0 x7_1).f0) true _ A5.out).mono ?_); rintro e w' ⟨rfl, ⟨nd, rfl⟩⟩; (try first | exact ⟨rfl, _, World.drewN_drewN _ _ _⟩ | exact ⟨rfl, _, Eq.trans (World.drewN_drewN _ _ _) (congrArg (World.drewN _) (Nat.add_assoc _ _ _))⟩); have p105 : 0 ≤ ((ji8) : Int) := of_decide_eq_true (by first | (with_reducible assumption) | assumption); have q105 : (ji8) < (l0.length : Int) := of_decide_eq_true (by first | (with_reducible assumption) | assumption); obtain ⟨ad105, A105_2, c105_2, e105, hx105_0, hx105_1, hx105_2, hl105_2, hi105_2⟩ := at_T42 HR0.out (ji8) p105 q105; obtain rfl : ad102 = ad105 := (by injection e105); have hn105_0 : ad102.block ≠ gb103 := Nat.ne_of_lt (Nat.lt_of_lt_of_le (by have := World.block_lt_of_cell? _ _ hx105_0; first | rwa [add_block] at this | exact this) GW103.out); have hn105_1 : ad102.block ≠ gb103 := Nat.ne_of_lt (Nat.lt_of_lt_of_le (by have := World.block_lt_of_cell? _ _ hx105_0; first | rwa [add_block] at this | exact this) GW103.out); have hn105_2 : ad102.block ≠ gb103 := Nat.ne_of_lt (Nat.lt_of_lt_of_le (by have := World.block_lt_of_cell? _ _ hx105_0; first | rwa [add_block] at this | exact this) GW103.out); replace hx105_0 := (HB.out.cell (World.block_lt_of_cell? w _ hx105_0)).trans hx105_0; replace hx105_1 := (HB.out.cell (World.block_lt_of_cell? w _ hx105_1)).trans hx105_1; replace hx105_2 := (HB.out.cell (World.block_lt_of_cell? w _ hx105_2)).trans hx105_2; have HR105_2 := Aside0.mk hi105_2; have HC105_2 := Aside0.mk hl105_2; clear hi105_2 hl105_2; replace hx105_0 := (cell_far (p := ⟨gb103, 0, none⟩) (by first | (rw [add_block]; exact hn105_0) | (show (Addr.add _ _).block ≠ _; rw [add_block]; exact hn105_0) | exact hn105_0) (.int .i32 ((rd_T42 l0 x7_1).f0))).trans hx105_0; replace hx105_1 := (cell_far (p := ⟨gb103, 0, none⟩) (by first | (rw [add_block]; exact hn105_0) | (show (Addr.add _ _).block ≠ _; rw [add_block]; exact hn105_0) | exact hn105_0) (.int .i32 ((rd_T42 l0 x7_1).f0))).trans hx105_1; replace hx105_2 := (cell_far (p := ⟨gb103, 0, none⟩) (by first | (rw [add_block]; exact hn105_0) | (show (Addr.add _ _).block ≠ _; rw [add_block]; exact hn105_0) | exact hn105_0) (.int .i32 ((rd_T42 l0 x7_1).f0))).trans hx105_2; replace hx105_0 := (cell_far (p := ⟨gb103, 1, none⟩) (by first | (rw [add_block]; exact hn105_1) | (show (Addr.add _ _).block ≠ _; rw [add_block]; exact hn105_1) | exact hn105_1) (.int .i64 ((rd_T42 l0 x7_1).f1))).trans hx105_0; replace hx105_1 := (cell_far (p := ⟨gb103, 1, none⟩) (by first | (rw [add_block]; exact hn105_1) | (show (Addr.add _ _).block ≠ _; rw [add_block]; exact hn105_1) | exact hn105_1) (.int .i64 ((rd_T42 l0 x7_1).f1))).trans hx105_1; replace hx105_2 := (cell_far (p := ⟨gb103, 1, none⟩) (by first | (rw [add_block]; exact hn105_1) | (show (Addr.add _ _).block ≠ _; rw [add_block]; exact hn105_1) | exact hn105_1) (.int .i64 ((rd_T42 l0 x7_1).f1))).trans hx105_2; replace hx105_0 := (cell_far (p := ⟨gb103, 2, none⟩) (by first | (rw [add_block]; exact hn105_2) | (show (Addr.add _ _).block ≠ _; rw [add_block]; exact hn105_2) | exact hn105_2) (.slice A102_2 ((rd_T42 l0 x7_1).f2).length c102_2)).trans hx105_0; replace hx105_1 := (cell_far (p := ⟨gb103, 2, none⟩) (by first | (rw [add_block]; exact hn105_2) | (show (Addr.add _ _).block ≠ _; rw [add_block]; exact hn105_2) | exact hn105_2) (.slice A102_2 ((rd_T42 l0 x7_1).f2).length c102_2)).trans hx105_1; replace hx105_2 := (cell_far (p := ⟨gb103, 2, none⟩) (by first | (rw [add_block]; exact hn105_2) | (show (Addr.add _ _).block ≠ _; rw [add_block]; exact hn105_2) | exact hn105_2) (.slice A102_2 ((rd_T42 l0 x7_1).f2).length c102_2)).trans hx105_2; (try have hy105_0 := fun (n_ : Nat) => (show (((((w12.drewN n_).setCell ⟨gb103, 0, none⟩ (.int .i32 ((rd_T42 l0 x7_1).f0))).setCell ⟨gb103, 1, none⟩ (.int .i64 ((rd_T42 l0 x7_1).f1))).setCell ⟨gb103, 2, none⟩ (.slice A102_2 ((rd_T42 l0 x7_1).f2).length c102_2))).cell? _ = some _ from hx105_0)); (try have hy105_1 := fun (n_ : Nat) => (show (((((w12.drewN n_).setCell ⟨gb103, 0, none⟩ (.int .i32 ((rd_T42 l0 x7_1).f0))).setCell ⟨gb103, 1, none⟩ (.int .i64 ((rd_T42 l0 x7_1).f1))).setCell ⟨gb103, 2, none⟩ (.slice A102_2 ((rd_T42 l0 x7_1).f2).length c102_2))).cell? _ = some _ from hx105_1)); (try have hy105_2 := fun (n_ : Nat) => (show (((((w12.drewN n_).setCell ⟨gb103, 0, none⟩ (.int .i32 ((rd_T42 l0 x7_1).f0))).setCell ⟨gb103, 1, none⟩ (.int .i64 ((rd_T42 l0 x7_1).f1))).setCell ⟨gb103, 2, none⟩ (.slice A102_2 ((rd_T42 l0 x7_1).f2).length c102_2))).cell? _ = some _ from hx105_2)); clear hn105_0; clear hn105_1; clear hn105_2; replace p105 := eq_true p105; replace q105 := eq_true q105)); try go_wp2_with (first | ((with_reducible refine gate_dst (N := 4) rfl ?_); refine box_event ?hg (N := 4) ?hd (cs := #[.int .i32 0, .int .i64 0, .slice none 0 0]) (t := 42) ?hr ?_; (case hd => rfl); (case hg => rfl); (case hr => first | (go_simp; done) | (go_simp; rfl)); intro gb103 hg w12 hbox hb; have BK103 := Aside0.mk (hbox); have GW103 := Aside0.mk ((by rw [hg]; exact (below_size (by repeat (first | (with_reducible first | exact HB.out | apply below_alloc | apply pw_below_drewN | apply below_drew1) | exact HB.out))) : w.heap.size ≤ gb103)); have GE103 := Aside0.mk ((by rw [hg]; exact (below_size (by repeat (first | (with_reducible first | exact HB.out | apply below_alloc | apply pw_below_drewN | apply below_drew1) | exact HB.out))) : w.heap.size ≤ gb103)); replace HB := Aside0.mk (below_step (by repeat (first | (with_reducible first | exact HB.out | apply below_alloc | apply pw_below_drewN | apply below_drew1) | exact HB.out)) hb); clear hb hbox hg; have hcz13_0 : w12.cell? ⟨gb103, 0, none⟩ = some (.int .i32 0) := blk_cell BK103.out 0; have hcz13_1 : w12.cell? ⟨gb103, 1, none⟩ = some (.int .i64 0) := blk_cell BK103.out 1; have hcz13_2 : w12.cell? ⟨gb103, 2, none⟩ = some (.slice none 0 0) := blk_cell BK103.out 2; have hfz13_0 := blk_frozen BK103.out 0; have hfz13_1 := blk_frozen BK103.out 1; have hfz13_2 := blk_frozen BK103.out 2) | (go_at_call 40; (with_reducible refine (scalar_May.calls k1 ((rd_T42 l0 x7_1).f0) true _ A5.out).mono ?_); rintro e w' ⟨rfl, ⟨nd, rfl⟩⟩; (try first | exact ⟨rfl, _, World.drewN_drewN _ _ _⟩ | exact ⟨rfl, _, Eq.trans (World.drewN_drewN _ _ _) (congrArg (World.drewN _) (Nat.add_assoc _ _ _))⟩); have p105 : 0 ≤ ((ji8) : Int) := of_decide_eq_true (by first | (with_reducible assumption) | assumption); have q105 : (ji8) < (l0.length : Int) := of_decide_eq_true (by first | (with_reducible assumption) | assumption); obtain ⟨ad105, A105_2, c105_2, e105, hx105_0, hx105_1, hx105_2, hl105_2, hi105_2⟩ := at_T42 HR0.out (ji8) p105 q105; obtain rfl : ad102 = ad105 := (by injection e105); have hn105_0 : ad102.block ≠ gb103 := Nat.ne_of_lt (Nat.lt_of_lt_of_le (by have := World.block_lt_of_cell? _ _ hx105_0; first | rwa [add_block] at this | exact this) GW103.out); have hn105_1 : ad102.block ≠ gb103 := Nat.ne_of_lt (Nat.lt_of_lt_of_le (by have := World.block_lt_of_cell? _ _ hx105_0; first | rwa [add_block] at this | exact this) GW103.out); have hn105_2 : ad102.block ≠ gb103 := Nat.ne_of_lt (Nat.lt_of_lt_of_le (by have := World.block_lt_of_cell? _ _ hx105_0; first | rwa [add_block] at this | exact this) GW103.out); replace hx105_0 := (HB.out.cell (World.block_lt_of_cell? w _ hx105_0)).trans hx105_0; replace hx105_1 := (HB.out.cell (World.block_lt_of_cell? w _ hx105_1)).trans hx105_1; replace hx105_2 := (HB.out.cell (World.block_lt_of_cell? w _ hx105_2)).trans hx105_2; have HR105_2 := Aside0.mk hi105_2; have HC105_2 := Aside0.mk hl105_2; clear hi105_2 hl105_2; replace hx105_0 := (cell_far (p := ⟨gb103, 0, none⟩) (by first | (rw [add_block]; exact hn105_0) | (show (Addr.add _ _).block ≠ _; rw [add_block]; exact hn105_0) | exact hn105_0) (.int .i32 ((rd_T42 l0 x7_1).f0))).trans hx105_0; replace hx105_1 := (cell_far (p := ⟨gb103, 0, none⟩) (by first | (rw [add_block]; exact hn105_0) | (show (Addr.add _ _).block ≠ _; rw [add_block]; exact hn105_0) | exact hn105_0) (.int .i32 ((rd_T42 l0 x7_1).f0))).trans hx105_1; replace hx105_2 := (cell_far (p := ⟨gb103, 0, none⟩) (by first | (rw [add_block]; exact hn105_0) | (show (Addr.add _ _).block ≠ _; rw [add_block]; exact hn105_0) | exact hn105_0) (.int .i32 ((rd_T42 l0 x7_1).f0))).trans hx105_2; replace hx105_0 := (cell_far (p := ⟨gb103, 1, none⟩) (by first | (rw [add_block]; exact hn105_1) | (show (Addr.add _ _).block ≠ _; rw [add_block]; exact hn105_1) | exact hn105_1) (.int .i64 ((rd_T42 l0 x7_1).f1))).trans hx105_0; replace hx105_1 := (cell_far (p := ⟨gb103, 1, none⟩) (by first | (rw [add_block]; exact hn105_1) | (show (Addr.add _ _).block ≠ _; rw [add_block]; exact hn105_1) | exact hn105_1) (.int .i64 ((rd_T42 l0 x7_1).f1))).trans hx105_1; replace hx105_2 := (cell_far (p := ⟨gb103, 1, none⟩) (by first | (rw [add_block]; exact hn105_1) | (show (Addr.add _ _).block ≠ _; rw [add_block]; exact hn105_1) | exact hn105_1) (.int .i64 ((rd_T42 l0 x7_1).f1))).trans hx105_2; replace hx105_0 := (cell_far (p := ⟨gb103, 2, none⟩) (by first | (rw [add_block]; exact hn105_2) | (show (Addr.add _ _).block ≠ _; rw [add_block]; exact hn105_2) | exact hn105_2) (.slice A102_2 ((rd_T42 l0 x7_1).f2).length c102_2)).trans hx105_0; replace hx105_1 := (cell_far (p := ⟨gb103, 2, none⟩) (by first | (rw [add_block]; exact hn105_2) | (show (Addr.add _ _).block ≠ _; rw [add_block]; exact hn105_2) | exact hn105_2) (.slice A102_2 ((rd_T42 l0 x7_1).f2).length c102_2)).trans hx105_1; replace hx105_2 := (cell_far (p := ⟨gb103, 2, none⟩) (by first | (rw [add_block]; exact hn105_2) | (show (Addr.add _ _).block ≠ _; rw [add_block]; exact hn105_2) | exact hn105_2) (.slice A102_2 ((rd_T42 l0 x7_1).f2).length c102_2)).trans hx105_2; (try have hy105_0 := fun (n_ : Nat) => (show (((((w12.drewN n_).setCell ⟨gb103, 0, none⟩ (.int .i32 ((rd_T42 l0 x7_1).f0))).setCell ⟨gb103, 1, none⟩ (.int .i64 ((rd_T42 l0 x7_1).f1))).setCell ⟨gb103, 2, none⟩ (.slice A102_2 ((rd_T42 l0 x7_1).f2).length c102_2))).cell? _ = some _ from hx105_0)); (try have hy105_1 := fun (n_ : Nat) => (show (((((w12.drewN n_).setCell ⟨gb103, 0, none⟩ (.int .i32 ((rd_T42 l0 x7_1).f0))).setCell ⟨gb103, 1, none⟩ (.int .i64 ((rd_T42 l0 x7_1).f1))).setCell ⟨gb103, 2, none⟩ (.slice A102_2 ((rd_T42 l0 x7_1).f2).length c102_2))).cell? _ = some _ from hx105_1)); (try have hy105_2 := fun (n_ : Nat) => (show (((((w12.drewN n_).setCell ⟨gb103, 0, none⟩ (.int .i32 ((rd_T42 l0 x7_1).f0))).setCell ⟨gb103, 1, none⟩ (.int .i64 ((rd_T42 l0 x7_1).f1))).setCell ⟨gb103, 2, none⟩ (.slice A102_2 ((rd_T42 l0 x7_1).f2).length c102_2))).cell? _ = some _ from hx105_2)); clear hn105_0; clear hn105_1; clear hn105_2; replace p105 := eq_true p105; replace q105 := eq_true q105)))
           go_ret
           exact ⟨by first | rfl | (simp [errW_none, errW_some] <;> rfl) | (simp only [← hji8]; first | rfl | (simp [errW_none, errW_some] <;> rfl)) | (simp [*, errW_none, errW_some] <;> rfl), by repeat (first | (with_reducible first | exact HB.out | apply below_alloc | apply pw_below_drewN | apply below_drew1 | refine below_set ?_ GE103.out) | exact HB.out)⟩
          ·
           rw [if_neg c11] at H
           have c11b0 : decide (((rd_T42 l0 x7_1).f0) ≤ ((rd_T42 l0 (ji8)).f0)) = false := decide_eq_false c11
           clear c11
           have H' := Aside0.mk H
           clear H
           have p102 : 0 ≤ (x7_1 : Int) := of_decide_eq_true (by first | (with_reducible assumption) | assumption)
           have q102 : x7_1 < (l0.length : Int) := of_decide_eq_true (by first | (with_reducible assumption) | assumption)
           obtain ⟨ad102, A102_2, c102_2, e102, hx102_0, hx102_1, hx102_2, hl102_2, hi102_2⟩ := at_T42 HR0.out x7_1 p102 q102
           cases e102
           replace hx102_0 := (HB.out.cell (World.block_lt_of_cell? w _ hx102_0)).trans hx102_0
           replace hx102_1 := (HB.out.cell (World.block_lt_of_cell? w _ hx102_1)).trans hx102_1
           replace hx102_2 := (HB.out.cell (World.block_lt_of_cell? w _ hx102_2)).trans hx102_2
           have HR102_2 := Aside0.mk hi102_2
           have HC102_2 := Aside0.mk hl102_2
           clear hi102_2 hl102_2
           replace p102 := eq_true p102
           replace q102 := eq_true q102
           go_wp2_with (first | ((with_reducible refine gate_dst (N := 4) rfl ?_); refine box_event ?hg (N := 4) ?hd (cs := #[.int .i32 0, .int .i64 0, .slice none 0 0]) (t := 42) ?hr ?_; (case hd => rfl); (case hg => rfl); (case hr => first | (go_simp; done) | (go_simp; rfl)); intro gb103 hg w14 hbox hb; have BK103 := Aside0.mk (hbox); have GW103 := Aside0.mk ((by rw [hg]; exact (below_size (by repeat (first | (with_reducible first | exact HB.out | apply below_alloc | apply pw_below_drewN | apply below_drew1) | exact HB.out))) : w.heap.size ≤ gb103)); have GE103 := Aside0.mk ((by rw [hg]; exact (below_size (by repeat (first | (with_reducible first | exact HB.out | apply below_alloc | apply pw_below_drewN | apply below_drew1) | exact HB.out))) : w.heap.size ≤ gb103)); replace HB := Aside0.mk (below_step (by repeat (first | (with_reducible first | exact HB.out | apply below_alloc | apply pw_below_drewN | apply below_drew1) | exact HB.out)) hb); clear hb hbox hg; have hcz15_0 : w14.cell? ⟨gb103, 0, none⟩ = some (.int .i32 0) := blk_cell BK103.out 0; have hcz15_1 : w14.cell? ⟨gb103, 1, none⟩ = some (.int .i64 0) := blk_cell BK103.out 1; have hcz15_2 : w14.cell? ⟨gb103, 2, none⟩ = some (.slice none 0 0) := blk_cell BK103.out 2; have hfz15_0 := blk_frozen BK103.out 0; have hfz15_1 := blk_frozen BK103.out 1; have hfz15_2 := blk_frozen BK103.out 2) | (go_at_call 40; (with_reducible refine (scalar_May.calls k1 ((rd_T42 l0 x7_1).f0) true _ A5.out).mono ?_); rintro e w' ⟨rfl, ⟨nd, rfl⟩⟩; (try first | exact ⟨rfl, _, World.drewN_drewN _ _ _⟩ | exact ⟨rfl, _, Eq.trans (World.drewN_drewN _ _ _) (congrArg (World.drewN _) (Nat.add_assoc _ _ _))⟩); have p105 : 0 ≤ ((ji8) : Int) := of_decide_eq_true (by first | (with_reducible assumption) | assumption); have q105 : (ji8) < (l0.length : Int) := of_decide_eq_true (by first | (with_reducible assumption) | assumption); obtain ⟨ad105, A105_2, c105_2, e105, hx105_0, hx105_1, hx105_2, hl105_2, hi105_2⟩ := at_T42 HR0.out (ji8) p105 q105; obtain rfl : ad102 = ad105 := (by injection e105); have hn105_0 : ad102.block ≠ gb103 := Nat.ne_of_lt (Nat.lt_of_lt_of_le (by have := World.block_lt_of_cell? _ _ hx105_0; first | rwa [add_block] at this | exact this) GW103.out); have hn105_1 : ad102.block ≠ gb103 := Nat.ne_of_lt (Nat.lt_of_lt_of_le (by have := World.block_lt_of_cell? _ _ hx105_0; first | rwa [add_block] at this | exact this) GW103.out); have hn105_2 : ad102.block ≠ gb103 := Nat.ne_of_lt (Nat.lt_of_lt_of_le (by have := World.block_lt_of_cell? _ _ hx105_0; first | rwa [add_block] at this | exact this) GW103.out); replace hx105_0 := (HB.out.cell (World.block_lt_of_cell? w _ hx105_0)).trans hx105_0; replace hx105_1 := (HB.out.cell (World.block_lt_of_cell? w _ hx105_1)).trans hx105_1; replace hx105_2 := (HB.out.cell (World.block_lt_of_cell? w _ hx105_2)).trans hx105_2; have HR105_2 := Aside0.mk hi105_2; have HC105_2 := Aside0.mk hl105_2; clear hi105_2 hl105_2; replace hx105_0 := (cell_far (p := ⟨gb103, 0, none⟩) (by first | (rw [add_block]; exact hn105_0) | (show (Addr.add _ _).block ≠ _; rw [add_block]; exact hn105_0) | exact hn105_0) (.int .i32 ((rd_T42 l0 x7_1).f0))).trans hx105_0; replace hx105_1 := (cell_far (p := ⟨gb103, 0, none⟩) (by first | (rw [add_block]; exact hn105_0) | (show (Addr.add _ _).block ≠ _; rw [add_block]; exact hn105_0) | exact hn105_0) (.int .i32 ((rd_T42 l0 x7_1).f0))).trans hx105_1; replace hx105_2 := (cell_far (p := ⟨gb103, 0, none⟩) (by first | (rw [add_block]; exact hn105_0) | (show (Addr.add _ _).block ≠ _; rw [add_block]; exact hn105_0) | exact hn105_0) (.int .i32 ((rd_T42 l0 x7_1).f0))).trans hx105_2; replace hx105_0 := (cell_far (p := ⟨gb103, 1, none⟩) (by first | (rw [add_block]; exact hn105_1) | (show (Addr.add _ _).block ≠ _; rw [add_block]; exact hn105_1) | exact hn105_1) (.int .i64 ((rd_T42 l0 x7_1).f1))).trans hx105_0; replace hx105_1 := (cell_far (p := ⟨gb103, 1, none⟩) (by first | (rw [add_block]; exact hn105_1) | (show (Addr.add _ _).block ≠ _; rw [add_block]; exact hn105_1) | exact hn105_1) (.int .i64 ((rd_T42 l0 x7_1).f1))).trans hx105_1; replace hx105_2 := (cell_far (p := ⟨gb103, 1, none⟩) (by first | (rw [add_block]; exact hn105_1) | (show (Addr.add _ _).block ≠ _; rw [add_block]; exact hn105_1) | exact hn105_1) (.int .i64 ((rd_T42 l0 x7_1).f1))).trans hx105_2; replace hx105_0 := (cell_far (p := ⟨gb103, 2, none⟩) (by first | (rw [add_block]; exact hn105_2) | (show (Addr.add _ _).block ≠ _; rw [add_block]; exact hn105_2) | exact hn105_2) (.slice A102_2 ((rd_T42 l0 x7_1).f2).length c102_2)).trans hx105_0; replace hx105_1 := (cell_far (p := ⟨gb103, 2, none⟩) (by first | (rw [add_block]; exact hn105_2) | (show (Addr.add _ _).block ≠ _; rw [add_block]; exact hn105_2) | exact hn105_2) (.slice A102_2 ((rd_T42 l0 x7_1).f2).length c102_2)).trans hx105_1; replace hx105_2 := (cell_far (p := ⟨gb103, 2, none⟩) (by first | (rw [add_block]; exact hn105_2) | (show (Addr.add _ _).block ≠ _; rw [add_block]; exact hn105_2) | exact hn105_2) (.slice A102_2 ((rd_T42 l0 x7_1).f2).length c102_2)).trans hx105_2; (try have hy105_0 := fun (n_ : Nat) => (show (((((w14.drewN n_).setCell ⟨gb103, 0, none⟩ (.int .i32 ((rd_T42 l0 x7_1).f0))).setCell ⟨gb103, 1, none⟩ (.int .i64 ((rd_T42 l0 x7_1).f1))).setCell ⟨gb103, 2, none⟩ (.slice A102_2 ((rd_T42 l0 x7_1).f2).length c102_2))).cell? _ = some _ from hx105_0)); (try have hy105_1 := fun (n_ : Nat) => (show (((((w14.drewN n_).setCell ⟨gb103, 0, none⟩ (.int .i32 ((rd_T42 l0 x7_1).f0))).setCell ⟨gb103, 1, none⟩ (.int .i64 ((rd_T42 l0 x7_1).f1))).setCell ⟨gb103, 2, none⟩ (.slice A102_2 ((rd_T42 l0 x7_1).f2).length c102_2))).cell? _ = some _ from hx105_1)); (try have hy105_2 := fun (n_ : Nat) => (show (((((w14.drewN n_).setCell ⟨gb103, 0, none⟩ (.int .i32 ((rd_T42 l0 x7_1).f0))).setCell ⟨gb103, 1, none⟩ (.int .i64 ((rd_T42 l0 x7_1).f1))).setCell ⟨gb103, 2, none⟩ (.slice A102_2 ((rd_T42 l0 x7_1).f2).length c102_2))).cell? _ = some _ from hx105_2)); clear hn105_0; clear hn105_1; clear hn105_2; replace p105 := eq_true p105; replace q105 := eq_true q105))
           repeat (go_quiet (first | ((with_reducible refine gate_dst (N := 4) rfl ?_); refine box_event ?hg (N := 4) ?hd (cs := #[.int .i32 0, .int .i64 0, .slice none 0 0]) (t := 42) ?hr ?_; (case hd => rfl); (case hg => rfl); (case hr => first | (go_simp; done) | (go_simp; rfl)); intro gb103 hg w14 hbox hb; have BK103 := Aside0.mk (hbox); have GW103 := Aside0.mk ((by rw [hg]; exact (below_size (by repeat (first | (with_reducible first | exact HB.out | apply below_alloc | apply pw_below_drewN | apply below_drew1) | exact HB.out))) : w.heap.size ≤ gb103)); have GE103 := Aside0.mk ((by rw [hg]; exact (below_size (by repeat (first | (with_reducible first | exact HB.out | apply below_alloc | apply pw_below_drewN | apply below_drew1) | exact HB.out))) : w.heap.size ≤ gb103)); replace HB := Aside0.mk (below_step (by repeat (first | (with_reducible first | exact HB.out | apply below_alloc | apply pw_below_drewN | apply below_drew1) | exact HB.out)) hb); clear hb hbox hg; have hcz15_0 : w14.cell? ⟨gb103, 0, none⟩ = some (.int .i32 0) := blk_cell BK103.out 0; have hcz15_1 : w14.cell? ⟨gb103, 1, none⟩ = some (.int .i64 0) := blk_cell BK103.out 1; have hcz15_2 : w14.cell? ⟨gb103, 2, none⟩ = some (.slice none 0 0) := blk_cell BK103.out 2; have hfz15_0 := blk_frozen BK103.out 0; have hfz15_1 := blk_frozen BK103.out 1; have hfz15_2 := blk_frozen BK103.out 2) | (go_at_call 40; (with_reducible refine (scalar_May.calls k1 ((rd_T42 l0 x7_1).f0) true _ A5.out).mono ?_); rintro e w' ⟨rfl, ⟨nd, rfl⟩⟩; (try first | exact ⟨rfl, _, World.drewN_drewN _ _ _⟩ | exact ⟨rfl, _, Eq.trans (World.drewN_drewN _ _ _) (congrArg (World.drewN _) (Nat.add_assoc _ _ _))⟩); have p105 : 0 ≤ ((ji8) : Int) := of_decide_eq_true (by first | (with_reducible assumption) | assumption); have q105 : (ji8) < (l0.length : Int) := of_decide_eq_true (by first | (with_reducible assumption) | assumption); obtain ⟨ad105, A105_2, c105_2, e105, hx105_0, hx105_1, hx105_2, hl105_2, hi105_2⟩ := at_T42 HR0.out (ji8) p105 q105; obtain rfl : ad102 = ad105 := (by injection e105); have hn105_0 : ad102.block ≠ gb103 := Nat.ne_of_lt (Nat.lt_of_lt_of_le (by have := World.block_lt_of_cell? _ _ hx105_0; first | rwa [add_block] at this | exact this) GW103.out); have hn105_1 : ad102.block ≠ gb103 := Nat.ne_of_lt (Nat.lt_of_lt_of_le (by have := World.block_lt_of_cell? _ _ hx105_0; first | rwa [add_block] at this | exact this) GW103.out); have hn105_2 : ad102.block ≠ gb103 := Nat.ne_of_lt (Nat.lt_of_lt_of_le (by have := World.block_lt_of_cell? _ _ hx105_0; first | rwa [add_block] at this | exact this) GW103.out); replace hx105_0 := (HB.out.cell (World.block_lt_of_cell? w _ hx105_0)).trans hx105_0; replace hx105_1 := (HB.out.cell (World.block_lt_of_cell? w _ hx105_1)).trans hx105_1; replace hx105_2 := (HB.out.cell (World.block_lt_of_cell? w _ hx105_2)).trans hx105_2; have HR105_2 := Aside0.mk hi105_2; have HC105_2 := Aside0.mk hl105_2; clear hi105_2 hl105_2; replace hx105_0 := (cell_far (p := ⟨gb103, 0, none⟩) (by first | (rw [add_block]; exact hn105_0) | (show (Addr.add _ _).block ≠ _; rw [add_block]; exact hn105_0) | exact hn105_0) (.int .i32 ((rd_T42 l0 x7_1).f0))).trans hx105_0; replace hx105_1 := (cell_far (p := ⟨gb103, 0, none⟩) (by first | (rw [add_block]; exact hn105_0) | (show (Addr.add _ _).block ≠ _; rw [add_block]; exact hn105_0) | exact hn105_0) (.int .i32 ((rd_T42 l0 x7_1).f0))).trans hx105_1; replace hx105_2 := (cell_far (p := ⟨gb103, 0, none⟩) (by first | (rw [add_block]; exact hn105_0) | (show (Addr.add _ _).block ≠ _; rw [add_block]; exact hn105_0) | exact hn105_0) (.int .i32 ((rd_T42 l0 x7_1).f0))).trans hx105_2; replace hx105_0 := (cell_far (p := ⟨gb103, 1, none⟩) (by first | (rw [add_block]; exact hn105_1) | (show (Addr.add _ _).block ≠ _; rw [add_block]; exact hn105_1) | exact hn105_1) (.int .i64 ((rd_T42 l0 x7_1).f1))).trans hx105_0; replace hx105_1 := (cell_far (p := ⟨gb103, 1, none⟩) (by first | (rw [add_block]; exact hn105_1) | (show (Addr.add _ _).block ≠ _; rw [add_block]; exact hn105_1) | exact hn105_1) (.int .i64 ((rd_T42 l0 x7_1).f1))).trans hx105_1; replace hx105_2 := (cell_far (p := ⟨gb103, 1, none⟩) (by first | (rw [add_block]; exact hn105_1) | (show (Addr.add _ _).block ≠ _; rw [add_block]; exact hn105_1) | exact hn105_1) (.int .i64 ((rd_T42 l0 x7_1).f1))).trans hx105_2; replace hx105_0 := (cell_far (p := ⟨gb103, 2, none⟩) (by first | (rw [add_block]; exact hn105_2) | (show (Addr.add _ _).block ≠ _; rw [add_block]; exact hn105_2) | exact hn105_2) (.slice A102_2 ((rd_T42 l0 x7_1).f2).length c102_2)).trans hx105_0; replace hx105_1 := (cell_far (p := ⟨gb103, 2, none⟩) (by first | (rw [add_block]; exact hn105_2) | (show (Addr.add _ _).block ≠ _; rw [add_block]; exact hn105_2) | exact hn105_2) (.slice A102_2 ((rd_T42 l0 x7_1).f2).length c102_2)).trans hx105_1; replace hx105_2 := (cell_far (p := ⟨gb103, 2, none⟩) (by first | (rw [add_block]; exact hn105_2) | (show (Addr.add _ _).block ≠ _; rw [add_block]; exact hn105_2) | exact hn105_2) (.slice A102_2 ((rd_T42 l0 x7_1).f2).length c102_2)).trans hx105_2; (try have hy105_0 := fun (n_ : Nat) => (show (((((w14.drewN n_).setCell ⟨gb103, 0, none⟩ (.int .i32 ((rd_T42 l0 x7_1).f0))).setCell ⟨gb103, 1, none⟩ (.int .i64 ((rd_T42 l0 x7_1).f1))).setCell ⟨gb103, 2, none⟩ (.slice A102_2 ((rd_T42 l0 x7_1).f2).length c102_2))).cell? _ = some _ from hx105_0)); (try have hy105_1 := fun (n_ : Nat) => (show (((((w14.drewN n_).setCell ⟨gb103, 0, none⟩ (.int .i32 ((rd_T42 l0 x7_1).f0))).setCell ⟨gb103, 1, none⟩ (.int .i64 ((rd_T42 l0 x7_1).f1))).setCell ⟨gb103, 2, none⟩ (.slice A102_2 ((rd_T42 l0 x7_1).f2).length c102_2))).cell? _ = some _ from hx105_1)); (try have hy105_2 := fun (n_ : Nat) => (show (((((w14.drewN n_).setCell ⟨gb103, 0, none⟩ (.int .i32 ((rd_T42 l0 x7_1).f0))).setCell ⟨gb103, 1, none⟩ (.int .i64 ((rd_T42 l0 x7_1).f1))).setCell ⟨gb103, 2, none⟩ (.slice A102_2 ((rd_T42 l0 x7_1).f2).length c102_2))).cell? _ = some _ from hx105_2)); clear hn105_0; clear hn105_1; clear hn105_2; replace p105 := eq_true p105; replace q105 := eq_true q105)); try go_wp2_with (first | ((with_reducible refine gate_dst (N := 4) rfl ?_); refine box_event ?hg (N := 4) ?hd (cs := #[.int .i32 0, .int .i64 0, .slice none 0 0]) (t := 42) ?hr ?_; (case hd => rfl); (case hg => rfl); (case hr => first | (go_simp; done) | (go_simp; rfl)); intro gb103 hg w14 hbox hb; have BK103 := Aside0.mk (hbox); have GW103 := Aside0.mk ((by rw [hg]; exact (below_size (by repeat (first | (with_reducible first | exact HB.out | apply below_alloc | apply pw_below_drewN | apply below_drew1) | exact HB.out))) : w.heap.size ≤ gb103)); have GE103 := Aside0.mk ((by rw [hg]; exact (below_size (by repeat (first | (with_reducible first | exact HB.out | apply below_alloc | apply pw_below_drewN | apply below_drew1) | exact HB.out))) : w.heap.size ≤ gb103)); replace HB := Aside0.mk (below_step (by repeat (first | (with_reducible first | exact HB.out | apply below_alloc | apply pw_below_drewN | apply below_drew1) | exact HB.out)) hb); clear hb hbox hg; have hcz15_0 : w14.cell? ⟨gb103, 0, none⟩ = some (.int .i32 0) := blk_cell BK103.out 0; have hcz15_1 : w14.cell? ⟨gb103, 1, none⟩ = some (.int .i64 0) := blk_cell BK103.out 1; have hcz15_2 : w14.cell? ⟨gb103, 2, none⟩ = some (.slice none 0 0) := blk_cell BK103.out 2; have hfz15_0 := blk_frozen BK103.out 0; have hfz15_1 := blk_frozen BK103.out 1; have hfz15_2 := blk_frozen BK103.out 2) | (go_at_call 40; (with_reducible refine (scalar_May.calls k1 ((rd_T42 l0 x7_1).f0) true _ A5.out).mono ?_); rintro e w' ⟨rfl, ⟨nd, rfl⟩⟩; (try first | exact ⟨rfl, _, World.drewN_drewN _ _ _⟩ | exact ⟨rfl, _, Eq.trans (World.drewN_drewN _ _ _) (congrArg (World.drewN _) (Nat.add_assoc _ _ _))⟩); have p105 : 0 ≤ ((ji8) : Int) := of_decide_eq_true (by first | (with_reducible assumption) | assumption); have q105 : (ji8) < (l0.length : Int) := of_decide_eq_true (by first | (with_reducible assumption) | assumption); obtain ⟨ad105, A105_2, c105_2, e105, hx105_0, hx105_1, hx105_2, hl105_2, hi105_2⟩ := at_T42 HR0.out (ji8) p105 q105; obtain rfl : ad102 = ad105 := (by injection e105); have hn105_0 : ad102.block ≠ gb103 := Nat.ne_of_lt (Nat.lt_of_lt_of_le (by have := World.block_lt_of_cell? _ _ hx105_0; first | rwa [add_block] at this | exact this) GW103.out); have hn105_1 : ad102.block ≠ gb103 := Nat.ne_of_lt (Nat.lt_of_lt_of_le (by have := World.block_lt_of_cell? _ _ hx105_0; first | rwa [add_block] at this | exact this) GW103.out); have hn105_2 : ad102.block ≠ gb103 := Nat.ne_of_lt (Nat.lt_of_lt_of_le (by have := World.block_lt_of_cell? _ _ hx105_0; first | rwa [add_block] at this | exact this) GW103.out); replace hx105_0 := (HB.out.cell (World.block_lt_of_cell? w _ hx105_0)).trans hx105_0; replace hx105_1 := (HB.out.cell (World.block_lt_of_cell? w _ hx105_1)).trans hx105_1; replace hx105_2 := (HB.out.cell (World.block_lt_of_cell? w _ hx105_2)).trans hx105_2; have HR105_2 := Aside0.mk hi105_2; have HC105_2 := Aside0.mk hl105_2; clear hi105_2 hl105_2; replace hx105_0 := (cell_far (p := ⟨gb103, 0, none⟩) (by first | (rw [add_block]; exact hn105_0) | (show (Addr.add _ _).block ≠ _; rw [add_block]; exact hn105_0) | exact hn105_0) (.int .i32 ((rd_T42 l0 x7_1).f0))).trans hx105_0; replace hx105_1 := (cell_far (p := ⟨gb103, 0, none⟩) (by first | (rw [add_block]; exact hn105_0) | (show (Addr.add _ _).block ≠ _; rw [add_block]; exact hn105_0) | exact hn105_0) (.int .i32 ((rd_T42 l0 x7_1).f0))).trans hx105_1; replace hx105_2 := (cell_far (p := ⟨gb103, 0, none⟩) (by first | (rw [add_block]; exact hn105_0) | (show (Addr.add _ _).block ≠ _; rw [add_block]; exact hn105_0) | exact hn105_0) (.int .i32 ((rd_T42 l0 x7_1).f0))).trans hx105_2; replace hx105_0 := (cell_far (p := ⟨gb103, 1, none⟩) (by first | (rw [add_block]; exact hn105_1) | (show (Addr.add _ _).block ≠ _; rw [add_block]; exact hn105_1) | exact hn105_1) (.int .i64 ((rd_T42 l0 x7_1).f1))).trans hx105_0; replace hx105_1 := (cell_far (p := ⟨gb103, 1, none⟩) (by first | (rw [add_block]; exact hn105_1) | (show (Addr.add _ _).block ≠ _; rw [add_block]; exact hn105_1) | exact hn105_1) (.int .i64 ((rd_T42 l0 x7_1).f1))).trans hx105_1; replace hx105_2 := (cell_far (p := ⟨gb103, 1, none⟩) (by first | (rw [add_block]; exact hn105_1) | (show (Addr.add _ _).block ≠ _; rw [add_block]; exact hn105_1) | exact hn105_1) (.int .i64 ((rd_T42 l0 x7_1).f1))).trans hx105_2; replace hx105_0 := (cell_far (p := ⟨gb103, 2, none⟩) (by first | (rw [add_block]; exact hn105_2) | (show (Addr.add _ _).block ≠ _; rw [add_block]; exact hn105_2) | exact hn105_2) (.slice A102_2 ((rd_T42 l0 x7_1).f2).length c102_2)).trans hx105_0; replace hx105_1 := (cell_far (p := ⟨gb103, 2, none⟩) (by first | (rw [add_block]; exact hn105_2) | (show (Addr.add _ _).block ≠ _; rw [add_block]; exact hn105_2) | exact hn105_2) (.slice A102_2 ((rd_T42 l0 x7_1).f2).length c102_2)).trans hx105_1; replace hx105_2 := (cell_far (p := ⟨gb103, 2, none⟩) (by first | (rw [add_block]; exact hn105_2) | (show (Addr.add _ _).block ≠ _; rw [add_block]; exact hn105_2) | exact hn105_2) (.slice A102_2 ((rd_T42 l0 x7_1).f2).length c102_2)).trans hx105_2; (try have hy105_0 := fun (n_ : Nat) => (show (((((w14.drewN n_).setCell ⟨gb103, 0, none⟩ (.int .i32 ((rd_T42 l0 x7_1).f0))).setCell ⟨gb103, 1, none⟩ (.int .i64 ((rd_T42 l0 x7_1).f1))).setCell ⟨gb103, 2, none⟩ (.slice A102_2 ((rd_T42 l0 x7_1).f2).length c102_2))).cell? _ = some _ from hx105_0)); (try have hy105_1 := fun (n_ : Nat) => (show (((((w14.drewN n_).setCell ⟨gb103, 0, none⟩ (.int .i32 ((rd_T42 l0 x7_1).f0))).setCell ⟨gb103, 1, none⟩ (.int .i64 ((rd_T42 l0 x7_1).f1))).setCell ⟨gb103, 2, none⟩ (.slice A102_2 ((rd_T42 l0 x7_1).f2).length c102_2))).cell? _ = some _ from hx105_1)); (try have hy105_2 := fun (n_ : Nat) => (show (((((w14.drewN n_).setCell ⟨gb103, 0, none⟩ (.int .i32 ((rd_T42 l0 x7_1).f0))).setCell ⟨gb103, 1, none⟩ (.int .i64 ((rd_T42 l0 x7_1).f1))).setCell ⟨gb103, 2, none⟩ (.slice A102_2 ((rd_T42 l0 x7_1).f2).length c102_2))).cell? _ = some _ from hx105_2)); clear hn105_0; clear hn105_1; clear hn105_2; replace p105 := eq_true p105; replace q105 := eq_true q105)))
           go_roundg k1
           case measure => have := HK1.out; omega
           case rel => exact ⟨(wrap64 (x7_1 + 1)), (by first | rfl | (simp; done) | (simp [*]; done)), H', ⟨by have := HK1.out; omega⟩, ⟨by repeat (first | (with_reducible first | exact HB.out | apply below_alloc | apply pw_below_drewN | apply below_drew1 | refine below_set ?_ GE103.out) | exact HB.out)⟩⟩
         ·
          rw [if_neg c10] at H
          exact absurd H (by simp)
        ·
         rw [if_neg c9] at H
         exact absurd H (by simp)
       ·
        rw [if_neg c7] at H
        have c7b0 : decide (0 < x7_1) = false := decide_eq_false c7
        clear c7
        have H' := Aside0.mk H
        clear H
        have p102 : 0 ≤ (x7_1 : Int) := of_decide_eq_true (by first | (with_reducible assumption) | assumption)
        have q102 : x7_1 < (l0.length : Int) := of_decide_eq_true (by first | (with_reducible assumption) | assumption)
        obtain ⟨ad102, A102_2, c102_2, e102, hx102_0, hx102_1, hx102_2, hl102_2, hi102_2⟩ := at_T42 HR0.out x7_1 p102 q102
        cases e102
        replace hx102_0 := (HB.out.cell (World.block_lt_of_cell? w _ hx102_0)).trans hx102_0
        replace hx102_1 := (HB.out.cell (World.block_lt_of_cell? w _ hx102_1)).trans hx102_1
        replace hx102_2 := (HB.out.cell (World.block_lt_of_cell? w _ hx102_2)).trans hx102_2
        have HR102_2 := Aside0.mk hi102_2
        have HC102_2 := Aside0.mk hl102_2
        clear hi102_2 hl102_2
        replace p102 := eq_true p102
        replace q102 := eq_true q102
        go_wp2_with (first | ((with_reducible refine gate_dst (N := 4) rfl ?_); refine box_event ?hg (N := 4) ?hd (cs := #[.int .i32 0, .int .i64 0, .slice none 0 0]) (t := 42) ?hr ?_; (case hd => rfl); (case hg => rfl); (case hr => first | (go_simp; done) | (go_simp; rfl)); intro gb103 hg w16 hbox hb; have BK103 := Aside0.mk (hbox); have GW103 := geL hg HB.out; have GE103 := geL hg HB.out; replace HB := Aside0.mk (below_step (pB HB.out) hb); clear hb hbox hg; have hcz17_0 : w16.cell? ⟨gb103, 0, none⟩ = some (.int .i32 0) := blk_cell BK103.out 0; have hcz17_1 : w16.cell? ⟨gb103, 1, none⟩ = some (.int .i64 0) := blk_cell BK103.out 1; have hcz17_2 : w16.cell? ⟨gb103, 2, none⟩ = some (.slice none 0 0) := blk_cell BK103.out 2; have hfz17_0 := blk_frozen BK103.out 0; have hfz17_1 := blk_frozen BK103.out 1; have hfz17_2 := blk_frozen BK103.out 2) | (go_at_call 40; (with_reducible refine (scalar_May.calls k1 ((rd_T42 l0 x7_1).f0) true _ A5.out).mono ?_); rintro e w' ⟨rfl, ⟨nd, rfl⟩⟩; (try first | exact ⟨rfl, _, World.drewN_drewN _ _ _⟩ | exact ⟨rfl, _, Eq.trans (World.drewN_drewN _ _ _) (congrArg (World.drewN _) (Nat.add_assoc _ _ _))⟩)))
        repeat (go_quiet (first | ((with_reducible refine gate_dst (N := 4) rfl ?_); refine box_event ?hg (N := 4) ?hd (cs := #[.int .i32 0, .int .i64 0, .slice none 0 0]) (t := 42) ?hr ?_; (case hd => rfl); (case hg => rfl); (case hr => first | (go_simp; done) | (go_simp; rfl)); intro gb103 hg w16 hbox hb; have BK103 := Aside0.mk (hbox); have GW103 := geL hg HB.out; have GE103 := geL hg HB.out; replace HB := Aside0.mk (below_step (pB HB.out) hb); clear hb hbox hg; have hcz17_0 : w16.cell? ⟨gb103, 0, none⟩ = some (.int .i32 0) := blk_cell BK103.out 0; have hcz17_1 : w16.cell? ⟨gb103, 1, none⟩ = some (.int .i64 0) := blk_cell BK103.out 1; have hcz17_2 : w16.cell? ⟨gb103, 2, none⟩ = some (.slice none 0 0) := blk_cell BK103.out 2; have hfz17_0 := blk_frozen BK103.out 0; have hfz17_1 := blk_frozen BK103.out 1; have hfz17_2 := blk_frozen BK103.out 2) | (go_at_call 40; (with_reducible refine (scalar_May.calls k1 ((rd_T42 l0 x7_1).f0) true _ A5.out).mono ?_); rintro e w' ⟨rfl, ⟨nd, rfl⟩⟩; (try first | exact ⟨rfl, _, World.drewN_drewN _ _ _⟩ | exact ⟨rfl, _, Eq.trans (World.drewN_drewN _ _ _) (congrArg (World.drewN _) (Nat.add_assoc _ _ _))⟩))); try go_wp2_with (first | ((with_reducible refine gate_dst (N := 4) rfl ?_); refine box_event ?hg (N := 4) ?hd (cs := #[.int .i32 0, .int .i64 0, .slice none 0 0]) (t := 42) ?hr ?_; (case hd => rfl); (case hg => rfl); (case hr => first | (go_simp; done) | (go_simp; rfl)); intro gb103 hg w16 hbox hb; have BK103 := Aside0.mk (hbox); have GW103 := geL hg HB.out; have GE103 := geL hg HB.out; replace HB := Aside0.mk (below_step (pB HB.out) hb); clear hb hbox hg; have hcz17_0 : w16.cell? ⟨gb103, 0, none⟩ = some (.int .i32 0) := blk_cell BK103.out 0; have hcz17_1 : w16.cell? ⟨gb103, 1, none⟩ = some (.int .i64 0) := blk_cell BK103.out 1; have hcz17_2 : w16.cell? ⟨gb103, 2, none⟩ = some (.slice none 0 0) := blk_cell BK103.out 2; have hfz17_0 := blk_frozen BK103.out 0; have hfz17_1 := blk_frozen BK103.out 1; have hfz17_2 := blk_frozen BK103.out 2) | (go_at_call 40; (with_reducible refine (scalar_May.calls k1 ((rd_T42 l0 x7_1).f0) true _ A5.out).mono ?_); rintro e w' ⟨rfl, ⟨nd, rfl⟩⟩; (try first | exact ⟨rfl, _, World.drewN_drewN _ _ _⟩ | exact ⟨rfl, _, Eq.trans (World.drewN_drewN _ _ _) (congrArg (World.drewN _) (Nat.add_assoc _ _ _))⟩))))
        go_roundg k1
        case measure => have := HK1.out; omega
        case rel => exact ⟨(wrap64 (x7_1 + 1)), (by first | rfl | (simp; done) | (simp [*]; done)), H', ⟨by have := HK1.out; omega⟩, ⟨by repeat (first | (with_reducible first | exact HB.out | apply below_alloc | apply pw_below_drewN | apply below_drew1 | refine below_set ?_ GE103.out) | exact HB.out)⟩⟩
      ·
       replace c6 := Bool.eq_false_iff.mpr c6
       subst c6
       have H1 : (some false) = some r := by rw [if_neg (show ¬ (false = true) by decide)] at H; exact H
       clear H
       have H := H1
       clear H1
       obtain rfl := Option.some.inj H
       have p102 : 0 ≤ (x7_1 : Int) := of_decide_eq_true (by first | (with_reducible assumption) | assumption)
       have q102 : x7_1 < (l0.length : Int) := of_decide_eq_true (by first | (with_reducible assumption) | assumption)
       obtain ⟨ad102, A102_2, c102_2, e102, hx102_0, hx102_1, hx102_2, hl102_2, hi102_2⟩ := at_T42 HR0.out x7_1 p102 q102
       cases e102
       replace hx102_0 := (HB.out.cell (World.block_lt_of_cell? w _ hx102_0)).trans hx102_0
       replace hx102_1 := (HB.out.cell (World.block_lt_of_cell? w _ hx102_1)).trans hx102_1
       replace hx102_2 := (HB.out.cell (World.block_lt_of_cell? w _ hx102_2)).trans hx102_2
       have HR102_2 := Aside0.mk hi102_2
       have HC102_2 := Aside0.mk hl102_2
       clear hi102_2 hl102_2
       replace p102 := eq_true p102
       replace q102 := eq_true q102
       go_wp2_with (first | ((with_reducible refine gate_dst (N := 4) rfl ?_); refine box_event ?hg (N := 4) ?hd (cs := #[.int .i32 0, .int .i64 0, .slice none 0 0]) (t := 42) ?hr ?_; (case hd => rfl); (case hg => rfl); (case hr => first | (go_simp; done) | (go_simp; rfl)); intro gb103 hg w18 hbox hb; have BK103 := Aside0.mk (hbox); have GW103 := geL hg HB.out; have GE103 := geL hg HB.out; replace HB := Aside0.mk (below_step (pB HB.out) hb); clear hb hbox hg; have hcz19_0 : w18.cell? ⟨gb103, 0, none⟩ = some (.int .i32 0) := blk_cell BK103.out 0; have hcz19_1 : w18.cell? ⟨gb103, 1, none⟩ = some (.int .i64 0) := blk_cell BK103.out 1; have hcz19_2 : w18.cell? ⟨gb103, 2, none⟩ = some (.slice none 0 0) := blk_cell BK103.out 2; have hfz19_0 := blk_frozen BK103.out 0; have hfz19_1 := blk_frozen BK103.out 1; have hfz19_2 := blk_frozen BK103.out 2) | (go_at_call 40; (with_reducible refine (scalar_May.calls k1 ((rd_T42 l0 x7_1).f0) false _ A5.out).mono ?_); rintro e w' ⟨rfl, ⟨nd, rfl⟩⟩; (try first | exact ⟨rfl, _, World.drewN_drewN _ _ _⟩ | exact ⟨rfl, _, Eq.trans (World.drewN_drewN _ _ _) (congrArg (World.drewN _) (Nat.add_assoc _ _ _))⟩)))
       repeat (go_quiet (first | ((with_reducible refine gate_dst (N := 4) rfl ?_); refine box_event ?hg (N := 4) ?hd (cs := #[.int .i32 0, .int .i64 0, .slice none 0 0]) (t := 42) ?hr ?_; (case hd => rfl); (case hg => rfl); (case hr => first | (go_simp; done) | (go_simp; rfl)); intro gb103 hg w18 hbox hb; have BK103 := Aside0.mk (hbox); have GW103 := geL hg HB.out; have GE103 := geL hg HB.out; replace HB := Aside0.mk (below_step (pB HB.out) hb); clear hb hbox hg; have hcz19_0 : w18.cell? ⟨gb103, 0, none⟩ = some (.int .i32 0) := blk_cell BK103.out 0; have hcz19_1 : w18.cell? ⟨gb103, 1, none⟩ = some (.int .i64 0) := blk_cell BK103.out 1; have hcz19_2 : w18.cell? ⟨gb103, 2, none⟩ = some (.slice none 0 0) := blk_cell BK103.out 2; have hfz19_0 := blk_frozen BK103.out 0; have hfz19_1 := blk_frozen BK103.out 1; have hfz19_2 := blk_frozen BK103.out 2) | (go_at_call 40; (with_reducible refine (scalar_May.calls k1 ((rd_T42 l0 x7_1).f0) false _ A5.out).mono ?_); rintro e w' ⟨rfl, ⟨nd, rfl⟩⟩; (try first | exact ⟨rfl, _, World.drewN_drewN _ _ _⟩ | exact ⟨rfl, _, Eq.trans (World.drewN_drewN _ _ _) (congrArg (World.drewN _) (Nat.add_assoc _ _ _))⟩))); try go_wp2_with (first | ((with_reducible refine gate_dst (N := 4) rfl ?_); refine box_event ?hg (N := 4) ?hd (cs := #[.int .i32 0, .int .i64 0, .slice none 0 0]) (t := 42) ?hr ?_; (case hd => rfl); (case hg => rfl); (case hr => first | (go_simp; done) | (go_simp; rfl)); intro gb103 hg w18 hbox hb; have BK103 := Aside0.mk (hbox); have GW103 := geL hg HB.out; have GE103 := geL hg HB.out; replace HB := Aside0.mk (below_step (pB HB.out) hb); clear hb hbox hg; have hcz19_0 : w18.cell? ⟨gb103, 0, none⟩ = some (.int .i32 0) := blk_cell BK103.out 0; have hcz19_1 : w18.cell? ⟨gb103, 1, none⟩ = some (.int .i64 0) := blk_cell BK103.out 1; have hcz19_2 : w18.cell? ⟨gb103, 2, none⟩ = some (.slice none 0 0) := blk_cell BK103.out 2; have hfz19_0 := blk_frozen BK103.out 0; have hfz19_1 := blk_frozen BK103.out 1; have hfz19_2 := blk_frozen BK103.out 2) | (go_at_call 40; (with_reducible refine (scalar_May.calls k1 ((rd_T42 l0 x7_1).f0) false _ A5.out).mono ?_); rintro e w' ⟨rfl, ⟨nd, rfl⟩⟩; (try first | exact ⟨rfl, _, World.drewN_drewN _ _ _⟩ | exact ⟨rfl, _, Eq.trans (World.drewN_drewN _ _ _) (congrArg (World.drewN _) (Nat.add_assoc _ _ _))⟩))))
       go_ret
       exact ⟨by first | rfl | (simp [errW_none, errW_some] <;> rfl) | (simp [*, errW_none, errW_some] <;> rfl), by repeat (first | (with_reducible first | exact HB.out | apply below_alloc | apply pw_below_drewN | apply below_drew1 | refine below_set ?_ GE103.out) | exact HB.out)⟩
     ·
      rw [if_neg c4] at H
      exact absurd H (by simp)
    ·
     rw [if_neg c3] at H
     exact absurd H (by simp)
   ·
    rw [if_neg c2] at H
    have c2b0 : decide (x7_1 < (l0.length : Int)) = false := decide_eq_false c2
    clear c2
    obtain rfl := Option.some.inj H
    go_wp2
    repeat (go_quiet (fail); try go_wp2)
    go_ret
    exact ⟨by first | rfl | (simp [errW_none, errW_some] <;> rfl) | (simp [*, errW_none, errW_some] <;> rfl), by repeat (first | (with_reducible first | exact HB.out | apply below_alloc | apply pw_below_drewN | apply below_drew1) | exact HB.out)⟩

/-! ### lore_Class: function 43 -/
/-- The row of a rune in a lore; a row of nothing. -/
def rowOf (l : List S42) (r : Int) : S42 := if firstAt (fun s : S42 => s.f0 == r) l < 0 then z42 else rd_T42 l (firstAt (fun s : S42 => s.f0 == r) l)
def lore_Class.f (l0 : List S42) (a1 : Int) : Option Int := if (l0.length : Int) ≤ 9223372036854775806 then some (rowOf l0 a1).f1 else none
theorem blk_put3 {w : World} {g : Nat} {t : TypeId} {v0 v1 v2 : Value} (h : w.heap[g]? = some (.cells #[v0, v1, v2] t (0, 0))) (x y z : Value) : (((w.setCell ⟨g, 0, none⟩ x).setCell ⟨g, 1, none⟩ y).setCell ⟨g, 2, none⟩ z).heap[g]? = some (.cells #[x, y, z] t (0, 0)) :=
 blk_put (cs := #[x, y, v2]) (blk_put (cs := #[x, v1, v2]) (blk_put h 0 x rfl) 1 y rfl) 2 z rfl
theorem below_set3 {w w1 : World} {g : Nat} (h : Below w.heap.size w w1) (hg : w.heap.size ≤ g) (x y z : Value) : Below w.heap.size w (((w1.setCell ⟨g, 0, none⟩ x).setCell ⟨g, 1, none⟩ y).setCell ⟨g, 2, none⟩ z) :=
 below_set (below_set (below_set h hg) hg) hg
set_option maxHeartbeats 2000000 in
set_option maxRecDepth 100000 in
theorem find1_any (x : Int) (y : Int) (v2 : Value) (A : Option Addr) (n c : Nat) (hv : v2 = .slice A n c) (g : Nat) (r : Int) (w : World) (h0 : w.cell? ⟨g, 0, none⟩ = some (.int .i32 r)) :
  Calls Try.prog 69 #[.agg #[.int .i32 x, .int .i64 y, v2], .pointer (some ⟨g, 0, none⟩)] w
   fun e w' => e = .returned (.bool (x == r)) ∧ Below w.heap.size w w' := by
 subst hv
 have hg := World.block_lt_of_cell? w _ h0
 go_enter Try.func69, Try.ntmps69
 go_wp2_with fail
 obtain ⟨W, hW⟩ : ∃ W, W = w.alloc (.cells #[.int .i32 x, .int .i64 y, .slice A n c] 42) := ⟨_, rfl⟩
 try rw [← hW]
 have hB : Below w.heap.size w W := by subst hW; exact below_alloc (Below.refl _ _) _
 have b0 : W.heap[w.heap.size]? = some (.cells #[.int .i32 x, .int .i64 y, .slice A n c] 42 (0, 0)) := by subst hW; simpa using heap_alloc_new w _
 have g0 : W.cell? ⟨g, 0, none⟩ = some (.int .i32 r) := (hB.cell (p := ⟨g, 0, none⟩) hg).trans h0
 have c0 : W.cell? ⟨w.heap.size, 0, none⟩ = some (.int .i32 x) := (blk_cell b0 0).trans rfl
 have HB := Aside0.mk hB
 clear hW h0 b0 hB
 go_wp2
 go_ret
 exact ⟨rfl, HB.out⟩
set_option maxHeartbeats 2000000 in
set_option maxRecDepth 100000 in
theorem indexFunc_any (A0 : Option Addr) (c0 : Nat) (l0 : List S42) (fn : Nat) (caps : Array Value) (p : S42 → Bool) (w : World) (hr : Kd.C k42 w A0 l0.length l0) (hl : (l0.length : Int) ≤ 9223372036854775806)
  (hfc : ∀ args W, (callFunc fn args).run Try.prog W = .ok (.enter fn args) W)
  (HP : ∀ (x : S42) (A : Option Addr) (c : Nat) (W : World), x ∈ l0 → Below w.heap.size w W → x.f2.length ≤ c → Kd.C (Kd.int .i32) W A x.f2.length x.f2 → Calls Try.prog fn (#[.agg #[.int .i32 x.f0, .int .i64 x.f1, .slice A x.f2.length c]] ++ caps) W fun e w' => e = .returned (.bool (p x)) ∧ Below W.heap.size W w') :
  Calls Try.prog 61 #[.slice A0 l0.length c0, .func (.func fn) #[] caps] w
   fun r w' => r = .returned (.int .i64 (firstAt p l0)) ∧ Below w.heap.size w w' := by
 have HR := Aside0.mk hr
 have HPP := Aside0.mk HP
 have HL := Aside0.mk hl
 clear hr HP hl
 go_enter Try.func61, Try.ntmps61
 go_wp2
 go_loopw [8] (fun i wr => ∃ k : Nat, i = .int .i64 k ∧ Aside0 (k ≤ l0.length) ∧ Aside0 (Below w.heap.size w wr) ∧ Aside0 (∀ j < k, p (l0.getD j z42) = false)) (fun i _ => l0.length - (intOf i).toNat)
 case atStart => exact ⟨0, rfl, ⟨by omega⟩, ⟨Below.refl _ _⟩, ⟨by omega⟩⟩
 case round =>
  obtain ⟨k, rfl, HK, HB, HA⟩ := hrel
  by_cases hlt : (k : Int) < (l0.length : Int)
  ·
   have hb0 : decide ((k : Int) < (l0.length : Int)) = true := decide_eq_true hlt
   have KL := Aside0.mk (show k < l0.length by omega)
   obtain ⟨ad, A2, c2, e, hx0, hx1, hx2, hc2, hx3⟩ := at_T42 HR.out k (by omega) hlt
   cases e
   simp only [Int.toNat_natCast] at hx0 hx1 hx2
   replace hx0 := cell_keep HB.out hx0
   replace hx1 := cell_keep HB.out hx1
   replace hx2 := cell_keep HB.out hx2
   have hm : rd_T42 l0 k ∈ l0 := by
    unfold rd_T42
    rw [Int.toNat_natCast, List.getD_eq_getElem?_getD, List.getElem?_eq_getElem KL.out]
    exact List.getElem_mem _
   have F := Aside0.mk (HPP.out (rd_T42 l0 k) A2 c2 _ hm HB.out hc2 (Kd.C_below hx3 HB.out))
   have HW := Aside0.mk (show wrap64 ((k : Int) + 1) = ((k + 1 : Nat) : Int) by have := HL.out; unfold wrap64; omega)
   have p1 := eq_true (show 0 ≤ (k : Int) by omega)
   have q1 := eq_true hlt
   have hpx : Aside0 (p (l0.getD k z42) = p (rd_T42 l0 k)) := ⟨rfl⟩
   clear hlt hc2 hx3 hm
   cases hh : p (rd_T42 l0 k)
   ·
    rw [hh] at F
    have HH := Aside0.mk hh
    clear hh
    go_wp2_with fail
    refine F.out.mono ?_
    rintro z w1 ⟨rfl, hb⟩
    have HB1 := aside_step hb HB
    clear hb
    go_wp2_with fail
    go_roundw
    case rel =>
     refine ⟨k + 1, by rw [HW.out], ⟨by have := KL.out; omega⟩, HB1, ⟨fun j hj => ?_⟩⟩
     rcases Nat.lt_succ_iff_lt_or_eq.1 hj with h | rfl
     ·
      exact HA.out j h
     ·
      exact HH.out
    case measure => have := KL.out; rw [HW.out]; simp [intOf]; omega
   ·
    rw [hh] at F
    have HH := Aside0.mk hh
    clear hh
    go_wp2_with fail
    refine F.out.mono ?_
    rintro z w1 ⟨rfl, hb⟩
    have HB1 := aside_step hb HB
    clear hb
    go_wp2_with fail
    go_ret
    exact ⟨ret_int (firstAt_at (d := z42) KL.out HH.out HA.out).symm, HB1.out⟩
  ·
   obtain rfl : k = l0.length := by have := HK.out; omega
   clear hlt
   go_wp2
   go_ret
   exact ⟨ret_int (firstAt_none (d := z42) (fun j hj => HA.out j hj)).symm, HB.out⟩
theorem firstAt_lt {α : Type} (p : α → Bool) (l : List α) : firstAt p l < (l.length : Int) ∧ (¬ firstAt p l < 0 → 0 ≤ firstAt p l) := by
 refine ⟨?_, fun h => by omega⟩
 unfold firstAt
 cases h : l.findIdx? p with
 | none => simp; omega
 | some i =>
  have := (List.findIdx?_eq_some_iff_getElem.1 h).1
  simp; omega
set_option maxHeartbeats 2000000 in
set_option maxRecDepth 100000 in
theorem find_any (A0 : Option Addr) (c0 : Nat) (l0 : List S42) (a1 : Int) (w : World) (hr : Kd.C k42 w A0 l0.length l0) (hl : (l0.length : Int) ≤ 9223372036854775806) :
  Calls Try.prog 60 #[.slice A0 l0.length c0, .int .i32 a1] w
   fun e w' => ∃ (A : Option Addr) (c : Nat) (b : Bool), e = .returned (.tuple #[.agg #[.int .i32 (rowOf l0 a1).f0, .int .i64 (rowOf l0 a1).f1, .slice A (rowOf l0 a1).f2.length c], .bool b]) ∧ (rowOf l0 a1).f2.length ≤ c ∧ Kd.C (Kd.int .i32) w' A (rowOf l0 a1).f2.length (rowOf l0 a1).f2 ∧ Below w.heap.size w w' := by
 have HR := Aside0.mk hr
 have HL := Aside0.mk hl
 clear hr hl
 have hmf := run_mf (P := Try.prog)
 go_enter Try.func60, Try.ntmps60
 obtain ⟨W, hW⟩ : ∃ W, W = ((w.alloc (.cells #[.int .i32 a1] 21)).alloc (.cells #[.int .i32 0, .int .i64 0, .slice none 0 0] 42)) := ⟨_, rfl⟩
 have hB : Below w.heap.size w W := by subst hW; exact below_alloc (below_alloc (Below.refl _ _) _) _
 have g0 : W.cell? ⟨w.heap.size, 0, none⟩ = some (.int .i32 a1) := by subst hW; exact (blk_cell (blk_alloc (by simpa using heap_alloc_new w _) _) 0).trans rfl
 have g1 : W.heap[w.heap.size + 1]? = some (.cells #[.int .i32 0, .int .i64 0, .slice none 0 0] 42 (0, 0)) := by subst hW; simpa using heap_alloc_new (w.alloc _) _
 have hfc : ∀ args W, (callFunc 69 args).run Try.prog W = .ok (.enter 69 args) W := fun args W => rfl
 have FF := Aside0.mk (indexFunc_any A0 c0 l0 69 #[.pointer (some ⟨w.heap.size, 0, none⟩)] (fun s => s.f0 == a1) W (Kd.C_below HR.out hB) HL.out hfc (fun x A c W' _ hb _ _ => find1_any x.f0 x.f1 _ A _ c rfl w.heap.size a1 W' (cell_keep hb g0)))
 have G1 := Aside0.mk g1
 have HB := Aside0.mk hB
 clear g0 g1 hB hfc
 subst hW
 go_wp2_with fail
 refine FF.out.mono ?_
 rintro z w1 ⟨rfl, hb⟩
 obtain ⟨i, hi⟩ : ∃ i, i = firstAt (fun s : S42 => s.f0 == a1) l0 := ⟨_, rfl⟩
 rw [← hi]
 have hlt := firstAt_lt (fun s : S42 => s.f0 == a1) l0
 rw [← hi] at hlt
 have hrow : rowOf l0 a1 = if i < 0 then z42 else rd_T42 l0 i := by unfold rowOf; rw [← hi]
 have b1 := blk_below G1.out hb
 have BK := Aside0.mk b1
 have f0 := blk_frozen b1 0
 have f1 := blk_frozen b1 1
 have f2 := blk_frozen b1 2
 have k0 := blk_cell b1 0
 have k1 := blk_cell b1 1
 have k2 := blk_cell b1 2
 have HB1 := Aside0.mk (below_step HB.out hb)
 clear hi hb b1 FF G1 HB
 by_cases h0 : i < 0
 ·
  have c1 : (i < 0) = True := eq_true h0
  rw [if_pos h0] at hrow
  have HRW := Aside0.mk hrow
  clear h0 hlt hrow
  go_wp2_with fail
  have hB2 := below_set3 HB1.out (Nat.le_succ _) (.int .i32 0) (.int .i64 0) (.slice none 0 0)
  refine bodyPost_ret (results_ct rfl _ _ (w.heap.size + 1) 42 #[.int .i32 0, .int .i64 0, .slice none 0 0] (0, 0) _ rfl (blk_put3 BK.out _ _ _) Try.underlying42 rfl (by kernel_rfl)) rfl ?_
  rw [HRW.out]
  exact ⟨none, 0, false, rfl, Nat.le_refl _, Kd.C_nil (Kd.int .i32) _, hB2⟩
 ·
  have c1 : (i < 0) = False := eq_false h0
  rw [if_neg h0] at hrow
  have HRW := Aside0.mk hrow
  have hi0 := hlt.2 h0
  have p1 := eq_true hi0
  have q1 := eq_true hlt.1
  obtain ⟨ad, A2, c2, e, hx0, hx1, hx2, hc2, hx3⟩ := at_T42 HR.out i hi0 hlt.1
  cases e
  replace hx0 := cell_keep HB1.out hx0
  replace hx1 := cell_keep HB1.out hx1
  replace hx2 := cell_keep HB1.out hx2
  have HC := Aside0.mk (And.intro hc2 hx3)
  clear h0 hlt hrow hi0 hc2 hx3
  go_wp2_with fail
  have hB2 := below_set3 HB1.out (Nat.le_succ _) (.int .i32 (rd_T42 l0 i).f0) (.int .i64 (rd_T42 l0 i).f1) (.slice A2 (rd_T42 l0 i).f2.length c2)
  refine bodyPost_ret (results_ct rfl _ _ (w.heap.size + 1) 42 #[.int .i32 (rd_T42 l0 i).f0, .int .i64 (rd_T42 l0 i).f1, .slice A2 (rd_T42 l0 i).f2.length c2] (0, 0) _ rfl (blk_put3 BK.out _ _ _) Try.underlying42 rfl (by kernel_rfl)) rfl ?_
  rw [HRW.out]
  exact ⟨A2, c2, true, rfl, HC.out.1, Kd.C_below HC.out.2 hB2, hB2⟩
set_option maxHeartbeats 8000000 in
set_option maxRecDepth 100000 in
theorem lore_Class.calls (A0 : Option Addr) (c0 : Nat) (l0 : List (S42)) (a1 : Int) (r : Int) (w : World) (hr0 : Kd.C k42 w A0 l0.length l0) (hc0 : l0.length ≤ c0) (h : lore_Class.f l0 a1 = some r) :
  Calls Try.prog 43 #[.slice A0 l0.length c0, .int .i32 a1] w fun e w' => e = .returned (.int .i64 r) ∧ Below w.heap.size w w' := by
 unfold lore_Class.f at h
 split at h
 case isFalse => cases h
 case isTrue hl =>
 obtain rfl := Option.some.inj h
 have HR := Aside0.mk hr0
 have FF := Aside0.mk (fun W (hb : Below w.heap.size w W) => find_any A0 c0 l0 a1 W (Kd.C_below hr0 hb) hl)
 clear hr0 hc0 h hl
 go_enter Try.func43, Try.ntmps43
 go_wp2_with fail
 refine (FF.out w (Below.refl _ _)).mono ?_
 rintro e w1 ⟨A, c, b, rfl, hc, hC, hb⟩
 generalize (rowOf l0 a1).f2.length = n at *
 have HB := Aside0.mk hb
 have b1 : (w1.alloc (.cells #[.int .i32 0, .int .i64 0, .slice none 0 0] 42)).heap[w1.heap.size]? = some (.cells #[.int .i32 0, .int .i64 0, .slice none 0 0] 42 (0, 0)) := by simpa using heap_alloc_new w1 _
 have f0 := blk_frozen b1 0
 have f1 := blk_frozen b1 1
 have f2 := blk_frozen b1 2
 have k0 := blk_cell b1 0
 have k1 := blk_cell b1 1
 have k2 := blk_cell b1 2
 have b2 := blk_put3 b1 (.int .i32 (rowOf l0 a1).f0) (.int .i64 (rowOf l0 a1).f1) (.slice A n c)
 have m1 := blk_cell b2 1
 clear hb hc hC FF b1 b2
 go_wp2_with fail
 go_ret
 exact ⟨rfl, below_alloc HB.out _⟩
-- lore.one: whether a rune's lore may be.

/-! ### lore_one: function 48 -/
/-- May a rune be? -/
def mayB (r : Int) : Bool := decide (0 ≤ r) && (decide (r < 55296) || (decide (57343 < r) && decide (r ≤ 1114111)))
/-- May a rune's lore be? -/
def oneB (l : List S42) (c : Int) (tos : List Int) : Bool := !(decide (c < 0) || decide (254 < c) || decide (3 < tos.length) || (decide (tos.length = 0) && decide (c = 0))) && tos.all (fun r => mayB r && decide ((rowOf l r).f2.length = 0))
def lore_one.f (l0 : List S42) (_ : Int) (a1_1 : Int) (l1_2 : List Int) : Option Bool := if (l0.length : Int) ≤ 9223372036854775806 then some (oneB l0 a1_1 l1_2) else none
theorem all_false {p : Int → Bool} {l : List Int} {k : Nat} (h : k < l.length) (hp : p (l.getD k 0) = false) : l.all p = false := by
 rw [List.all_eq_false]
 refine ⟨l.getD k 0, ?_, by rw [hp]; decide⟩
 rw [List.getD_eq_getElem?_getD, List.getElem?_eq_getElem h]
 exact List.getElem_mem _
theorem all_true {p : Int → Bool} {l : List Int} (hp : ∀ j < l.length, p (l.getD j 0) = true) : l.all p = true := by
 rw [List.all_eq_true]
 intro x hx
 obtain ⟨j, hj, rfl⟩ := List.getElem_of_mem hx
 have := hp j hj
 rwa [List.getD_eq_getElem?_getD, List.getElem?_eq_getElem hj] at this
theorem may_any (a0 : Int) : scalar_May.f 2 a0 = some (mayB a0) := by
 unfold scalar_May.f utf8_ValidRune.f mayB
 by_cases h0 : 0 ≤ a0
 ·
  by_cases h1 : a0 < 55296
  ·
   simp [utf8_ValidRune.j0, h0, h1]
  ·
   by_cases h2 : 57343 < a0
   ·
    by_cases h3 : a0 ≤ 1114111 <;> simp [utf8_ValidRune.j0, h0, h1, h2, h3]
   ·
    simp [utf8_ValidRune.j0, h0, h1, h2]
 ·
  have h2 : ¬ 57343 < a0 := by omega
  simp [utf8_ValidRune.j0, h0, h2]
theorem may_calls (a0 : Int) (w : World) : Calls Try.prog 40 #[.int .i32 a0] w fun e w' => e = .returned (.bool (mayB a0)) ∧ Drawn0 w w' := scalar_May.calls 2 a0 _ w (may_any a0)
set_option maxHeartbeats 8000000 in
set_option maxRecDepth 100000 in
theorem lore_one.calls (A0 : Option Addr) (c0 : Nat) (l0 : List (S42)) (a1_0 : Int) (a1_1 : Int) (A1_2 : Option Addr) (c1_2 : Nat) (l1_2 : List Int) (r : Bool) (w : World) (hr0 : Kd.C k42 w A0 l0.length l0) (hc0 : l0.length ≤ c0) (hr1_2 : Kd.C (Kd.int .i32) w A1_2 l1_2.length l1_2) (hc1_2 : l1_2.length ≤ c1_2) (h : lore_one.f l0 a1_0 a1_1 l1_2 = some r) :
  Calls Try.prog 48 #[.slice A0 l0.length c0, .agg #[.int .i32 a1_0, .int .i64 a1_1, .slice A1_2 l1_2.length c1_2]] w fun e w' => e = .returned (.bool r) ∧ Below w.heap.size w w' := by
 unfold lore_one.f at h
 split at h
 case isFalse => cases h
 case isTrue hl =>
 obtain rfl := Option.some.inj h
 have HR := Aside0.mk hr1_2
 have FF := Aside0.mk (fun r W (hb : Below w.heap.size w W) => find_any A0 c0 l0 r W (Kd.C_below hr0 hb) hl)
 obtain ⟨n, hn⟩ : ∃ n, n = l1_2.length := ⟨_, rfl⟩
 have hle : (n : Int) ≤ 9223372036854775806 ∨ 3 < n := by omega
 rw [← hn]
 have HN := Aside0.mk (And.intro hn hle)
 clear hr0 hc0 h hl hr1_2 hc1_2 hle
 by_cases g : a1_1 < 0 ∨ 254 < a1_1 ∨ 3 < n ∨ (n = 0 ∧ a1_1 = 0)
 ·
  have hres : oneB l0 a1_1 l1_2 = false := by
   unfold oneB
   rw [← hn]
   rcases g with g | g | g | ⟨g1, g2⟩
   ·
    simp [g]
   ·
    simp [g]
   ·
    simp [g]
   ·
    simp [g1, g2]
  rw [hres]
  clear hres hn
  rcases Classical.em (a1_1 < 0) with h1 | h1
  ·
   have t1 : (a1_1 < 0) = True := eq_true h1
   clear h1 g
   go_enter Try.func48, Try.ntmps48
   go_wp2
   go_ret
   exact ⟨rfl, below_alloc (Below.refl _ _) _⟩
  ·
   have t1 : (a1_1 < 0) = False := eq_false h1
   rcases Classical.em (254 < a1_1) with h2 | h2
   ·
    have t2 : (254 < a1_1) = True := eq_true h2
    clear h1 g h2
    go_enter Try.func48, Try.ntmps48
    go_wp2
    go_ret
    exact ⟨rfl, below_alloc (Below.refl _ _) _⟩
   ·
    have t2 : (254 < a1_1) = False := eq_false h2
    rcases Classical.em (3 < n) with h3 | h3
    ·
     have t3 : ((3 : Int) < (n : Int)) = True := eq_true (by omega)
     have t3n : (3 < n) = True := eq_true h3
     clear h1 g h2 h3
     go_enter Try.func48, Try.ntmps48
     go_wp2
     go_ret
     exact ⟨rfl, below_alloc (Below.refl _ _) _⟩
    ·
     have t3 : ((3 : Int) < (n : Int)) = False := eq_false (by omega)
     have t3n : (3 < n) = False := eq_false h3
     obtain ⟨rfl, rfl⟩ : n = 0 ∧ a1_1 = 0 := by omega
     clear h1 g h2 h3 t1 t2
     go_enter Try.func48, Try.ntmps48
     go_wp2
     go_ret
     exact ⟨rfl, below_alloc (Below.refl _ _) _⟩
 ·
  have t1 : (a1_1 < 0) = False := eq_false (by omega)
  have t2 : (254 < a1_1) = False := eq_false (by omega)
  have t3 : ((3 : Int) < (n : Int)) = False := eq_false (by omega)
  have t3n : (3 < n) = False := eq_false (by omega)
  have HN3 : Aside0 (n ≤ 3) := ⟨by omega⟩
  have hres : oneB l0 a1_1 l1_2 = l1_2.all (fun r => mayB r && decide ((rowOf l0 r).f2.length = 0)) := by
   unfold oneB
   rw [← hn]
   have g1 : ¬ a1_1 < 0 := by omega
   have g2 : ¬ 254 < a1_1 := by omega
   have g3 : ¬ 3 < n := by omega
   by_cases g4 : n = 0
   ·
    have g5 : ¬ a1_1 = 0 := by omega
    simp [g1, g2, g3, g5]
   ·
    simp [g1, g2, g3, g4]
  rw [hres]
  clear hres
  have hg : (((n : Int) == 0) = true ∧ (a1_1 == 0) = false ∧ ((n : Int) = 0) = True ∧ (n = 0) = True ∧ (a1_1 = 0) = False) ∨ (((n : Int) == 0) = false ∧ ((n : Int) = 0) = False ∧ (n = 0) = False) := by
   by_cases g4 : n = 0
   ·
    have g5 : ¬ a1_1 = 0 := by omega
    exact .inl ⟨by simp [g4], by simp [g5], by simp [g4], by simp [g4], by simp [g5]⟩
   ·
    exact .inr ⟨by simp; omega, by simp; omega, by simp [g4]⟩
  clear g hn
  rcases hg with ⟨e1, e2, e3, e4, e5⟩ | ⟨e1, e3, e4⟩
  all_goals
   go_enter Try.func48, Try.ntmps48
   go_wp2_with fail
   clear e1 e3 e4 t1 t2 t3 t3n
   go_loopw [37] (fun i wr => ∃ k : Nat, i = .int .i64 k ∧ Aside0 (k ≤ n) ∧ Aside0 (Below w.heap.size w wr) ∧ Aside0 (∀ j < k, (mayB (l1_2.getD j 0) && decide ((rowOf l0 (l1_2.getD j 0)).f2.length = 0)) = true)) (fun i _ => n - (intOf i).toNat)
   ·
    exact ⟨0, rfl, ⟨by omega⟩, ⟨below_alloc (Below.refl _ _) _⟩, ⟨by omega⟩⟩
   ·
    obtain ⟨k, rfl, HK, HB, HA⟩ := hrel
    by_cases hlt : (k : Int) < (n : Int)
    ·
     have hb0 : decide ((k : Int) < (n : Int)) = true := decide_eq_true hlt
     have KL := Aside0.mk (show k < n by omega)
     obtain ⟨ad, e, hx0⟩ := Kd.at_int (i := (k : Int)) HR.out (by omega) (by rw [← HN.out.1]; exact hlt)
     cases e
     simp only [Int.toNat_natCast] at hx0
     replace hx0 := cell_keep HB.out hx0
     obtain ⟨r, hr⟩ : ∃ r, r = rd l1_2 (k : Int) := ⟨_, rfl⟩
     rw [← hr] at hx0
     have HRD : Aside0 (l1_2.getD k 0 = r) := ⟨by rw [hr]; simp [rd]⟩
     have HW := Aside0.mk (show wrap64 ((k : Int) + 1) = ((k + 1 : Nat) : Int) by have := HN3.out; have := KL.out; unfold wrap64; omega)
     have p1 := eq_true (show 0 ≤ (k : Int) by omega)
     have q1 := eq_true hlt
     have q2 := eq_true KL.out
     clear hlt hr
     go_wp2_with fail
     refine (FF.out r _ HB.out).mono ?_
     rintro e w1 ⟨A, c, b, rfl, hc, hC, hb⟩
     obtain ⟨m, hm⟩ : ∃ m, m = (rowOf l0 r).f2.length := ⟨_, rfl⟩
     rw [← hm]
     have HB1 := aside_step hb HB
     have HM := Aside0.mk hm
     clear hb hc hC hm
     go_wp2_with fail
     refine (may_calls r _).mono ?_
     rintro e w2 ⟨rfl, hb⟩
     have HB2 := Aside0.mk (below_step (below_alloc HB1.out _) hb.below)
     have b2 := blk_below (show (w1.alloc (.cells #[.int .i32 (rowOf l0 r).f0, .int .i64 (rowOf l0 r).f1, .slice A m c] 42)).heap[w1.heap.size]? = some (.cells #[.int .i32 (rowOf l0 r).f0, .int .i64 (rowOf l0 r).f1, .slice A m c] 42 (0, 0)) by simpa using heap_alloc_new w1 _) hb.below
     have m2 : w2.cell? ⟨w1.heap.size, 2, none⟩ = some (.slice A m c) := (blk_cell b2 2).trans rfl
     clear hb b2 hx0
     cases hmm : mayB r
     ·
      have HRES : Aside0 (l1_2.all (fun r => mayB r && decide ((rowOf l0 r).f2.length = 0)) = false) := ⟨all_false (by rw [← HN.out.1]; exact KL.out) (by rw [HRD.out, hmm]; rfl)⟩
      clear hmm
      go_wp2_with fail
      go_ret
      exact ⟨by rw [HRES.out]; rfl, HB2.out⟩
     ·
      have HMM := Aside0.mk hmm
      clear hmm
      by_cases hm0 : 0 < m
      ·
       have v1 : ((0 : Int) < (m : Int)) = True := eq_true (by omega)
       have v2 : (0 < m) = True := eq_true hm0
       have HRES : Aside0 (l1_2.all (fun r => mayB r && decide ((rowOf l0 r).f2.length = 0)) = false) := ⟨all_false (by rw [← HN.out.1]; exact KL.out) (by rw [HRD.out, HMM.out, ← HM.out]; simp; omega)⟩
       clear hm0
       go_wp2_with fail
       go_ret
       exact ⟨by rw [HRES.out]; rfl, HB2.out⟩
      ·
       have v1 : ((0 : Int) < (m : Int)) = False := eq_false (by omega)
       have v2 : (0 < m) = False := eq_false hm0
       have HOK : Aside0 ((mayB (l1_2.getD k 0) && decide ((rowOf l0 (l1_2.getD k 0)).f2.length = 0)) = true) := ⟨by rw [HRD.out, HMM.out, ← HM.out]; simp; omega⟩
       clear hm0
       go_wp2_with fail
       go_roundw
       ·
        refine ⟨k + 1, by rw [HW.out], ⟨by have := KL.out; omega⟩, HB2, ⟨fun j hj => ?_⟩⟩
        rcases Nat.lt_succ_iff_lt_or_eq.1 hj with h | rfl
        ·
         exact HA.out j h
        ·
         exact HOK.out
       ·
        have := KL.out; rw [HW.out]; simp only [intOf]; omega
    ·
     have hb0 : decide ((k : Int) < (n : Int)) = false := decide_eq_false hlt
     have q1 := eq_false hlt
     have q2 : (k < n) = False := eq_false (by omega)
     have HRES : Aside0 (l1_2.all (fun r => mayB r && decide ((rowOf l0 r).f2.length = 0)) = true) := ⟨all_true (fun j hj => HA.out j (by have := HN.out.1; omega))⟩
     clear hlt
     go_wp2_with fail
     go_ret
     exact ⟨by rw [HRES.out]; rfl, HB.out⟩
-- lore.May: whether lore may be.

end Go.Proofs.Ytfagobhhhljajaa.PWeighParts

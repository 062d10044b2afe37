-- printed by a program of this session (wip/tools), a turned form of the kit's print
import Derived.Test.YtfagobhhhljajaaWPeel
import Derived.Test.YtfagobhhhljajaaPWeighImpliedx0
import Derived.Test.YtfagobhhhljajaaPWeighImpliedx2
import Derived.Test.YtfagobhhhljajaaPWeighImpliedx7
import Derived.Test.YtfagobhhhljajaaPWeighImpliedx10
import Derived.Test.YtfagobhhhljajaaPWeighImpliedx11
import Derived.Test.YtfagobhhhljajaaPWeighImpliedx12
namespace Go.Proofs.Ytfagobhhhljajaa.PWeighImplied
open Go.RowKit Go.Proofs.YtfagobhhhljajaaW.PrintWords Go.Proofs.YtfagobhhhljajaaW.PrintLast Go.Proofs.YtfagobhhhljajaaW.PrintMore
attribute [local go_sem] max2_int min2_int max_two min_two max_three min_three max_four min_four max2_str min2_str str_geq str_leq str_gtr   -- for this text's walks alone
set_option linter.unusedVariables false
set_option linter.unusedSimpArgs false

attribute [local go_sem high] eqA46
/-! ### gazetteerlaw3_WeighImplied: function 7 -/
def gazetteerlaw3_WeighImplied.j0 : Nat → Int → Int → Bool → Option (Bool)
  | 0, _, _, _ => none
  | k + 1, x0, x1, x17 => if x17 = true then (some true) else ((weigh_Implied.f x0).bind fun bt195 => ((weigh_Implied.f x1).bind fun bt201 => (if bt195.1 < bt201.1 then (if (true == (decide (x0 < x1))) = true then (if (((bt195.1 == bt201.1 && (bt195.2.1 == bt201.2.1 && (bt195.2.2.1 == bt201.2.2.1))) && ((bt195.2.2.2.1 == bt201.2.2.2.1 && (bt195.2.2.2.2.1 == bt201.2.2.2.2.1 && (bt195.2.2.2.2.2 == bt201.2.2.2.2.2))))) == (x0 == x1)) = true then ((gazetteerref1_Implied.f x0).bind fun bt209 => (if ((bt195.1 == bt209.1 && (bt195.2.1 == bt209.2.1 && (bt195.2.2.1 == bt209.2.2.1))) && ((bt195.2.2.2.1 == bt209.2.2.2.1 && (bt195.2.2.2.2.1 == bt209.2.2.2.2.1 && (bt195.2.2.2.2.2 == bt209.2.2.2.2.2))))) = true then (if bt195.1 ≤ 65535 then (some (decide (bt195.2.2.2.1 > 60000))) else (some false)) else (some false))) else (some false)) else (some false)) else (if bt195.1 = bt201.1 then (if ((decide (bt195.2.2.2.1 < bt201.2.2.2.1)) == (decide (x0 < x1))) = true then (if (((bt195.1 == bt201.1 && (bt195.2.1 == bt201.2.1 && (bt195.2.2.1 == bt201.2.2.1))) && ((bt195.2.2.2.1 == bt201.2.2.2.1 && (bt195.2.2.2.2.1 == bt201.2.2.2.2.1 && (bt195.2.2.2.2.2 == bt201.2.2.2.2.2))))) == (x0 == x1)) = true then ((gazetteerref1_Implied.f x0).bind fun bt215 => (if ((bt195.1 == bt215.1 && (bt195.2.1 == bt215.2.1 && (bt195.2.2.1 == bt215.2.2.1))) && ((bt195.2.2.2.1 == bt215.2.2.2.1 && (bt195.2.2.2.2.1 == bt215.2.2.2.2.1 && (bt195.2.2.2.2.2 == bt215.2.2.2.2.2))))) = true then (if bt195.1 ≤ 65535 then (some (decide (bt195.2.2.2.1 > 60000))) else (some false)) else (some false))) else (some false)) else (some false)) else (if (false == (decide (x0 < x1))) = true then (if (((bt195.1 == bt201.1 && (bt195.2.1 == bt201.2.1 && (bt195.2.2.1 == bt201.2.2.1))) && ((bt195.2.2.2.1 == bt201.2.2.2.1 && (bt195.2.2.2.2.1 == bt201.2.2.2.2.1 && (bt195.2.2.2.2.2 == bt201.2.2.2.2.2))))) == (x0 == x1)) = true then ((gazetteerref1_Implied.f x0).bind fun bt221 => (if ((bt195.1 == bt221.1 && (bt195.2.1 == bt221.2.1 && (bt195.2.2.1 == bt221.2.2.1))) && ((bt195.2.2.2.1 == bt221.2.2.2.1 && (bt195.2.2.2.2.1 == bt221.2.2.2.2.1 && (bt195.2.2.2.2.2 == bt221.2.2.2.2.2))))) = true then (if bt195.1 ≤ 65535 then (some (decide (bt195.2.2.2.1 > 60000))) else (some false)) else (some false))) else (some false)) else (some false))))))
def gazetteerlaw3_WeighImplied.f (k : Nat) (a0 : Int) (a1 : Int) : Option (Bool) := (gazetteerlaw3_awake.f k).bind fun t192 => (if t192 = true then ((gazetteerref1_May.f a0).bind fun t193 => (if t193 = true then ((gazetteerref1_May.f a1).bind fun t194 => (gazetteerlaw3_WeighImplied.j0 k a0 a1 (!t194))) else (gazetteerlaw3_WeighImplied.j0 k a0 a1 true))) else (some false))
theorem gazetteerlaw3_WeighImplied.mono_l : ∀ k, (∀ y0 y1 y2, LeO (gazetteerlaw3_WeighImplied.j0 k y0 y1 y2) (gazetteerlaw3_WeighImplied.j0 (k + 1) y0 y1 y2))
  | 0 => fun _ _ _ r h => by simp [gazetteerlaw3_WeighImplied.j0] at h
  | k + 1 => by
    have ih0 := gazetteerlaw3_WeighImplied.mono_l k
    · intro y0 y1 y2
      unfold gazetteerlaw3_WeighImplied.j0
      repeat' first
      | (with_reducible exact ih0 _ _ _)
      | (with_reducible exact gazetteerlaw3_awake.mono _)
      | (with_reducible exact LeO.refl _)
      | (with_reducible exact LeO.none _)
      | (with_reducible refine LeO.ite ?_ ?_)
      | (with_reducible refine LeO.bind ?_ (fun _ => ?_))
      | exact ih0 _ _ _
      | exact gazetteerlaw3_awake.mono _
      | exact LeO.none _
      | refine LeO.ite ?_ ?_
      | refine LeO.bind ?_ (fun _ => ?_)
theorem gazetteerlaw3_WeighImplied.mono : ∀ a0 a1 k, LeO (gazetteerlaw3_WeighImplied.f k a0 a1) (gazetteerlaw3_WeighImplied.f (k + 1) a0 a1) := by
  intro a0 a1 k
  have ih0 := gazetteerlaw3_WeighImplied.mono_l k
  unfold gazetteerlaw3_WeighImplied.f
  repeat' first
      | (with_reducible exact ih0 _ _ _)
      | (with_reducible exact gazetteerlaw3_awake.mono _)
      | (with_reducible exact LeO.refl _)
      | (with_reducible exact LeO.none _)
      | (with_reducible refine LeO.ite ?_ ?_)
      | (with_reducible refine LeO.bind ?_ (fun _ => ?_))
      | exact ih0 _ _ _
      | exact gazetteerlaw3_awake.mono _
      | exact LeO.none _
      | refine LeO.ite ?_ ?_
      | refine LeO.bind ?_ (fun _ => ?_)
def gazetteerlaw3_WeighImplied.T7 : Bool × List (List Nat × List Nat) := (true, [([], []), ([], []), ([], []), ([1, 2], [1, 2]), ([0, 3], [0, 3]), ([4], [4]), ([5], [5]), ([5], [5]), ([6, 7, 5], [5, 6, 7]), ([5], [5]), ([5], [5]), ([9, 10, 5], [5, 9, 10]), ([8, 11, 5], [5, 8, 11]), ([5, 12], [5, 12]), ([13, 5], [13]), ([14], [14]), ([14], [14]), ([16, 14, 14], [14, 16]), ([15, 17, 14], [14, 15, 17]), ([14, 18], [14, 18]), ([19, 17], [19]), ([20], [20]), ([21, 20], [20, 21]), ([22, 20], [20, 22]), ([23, 20], [20, 23]), ([20, 24], [20, 24]), ([25, 20], [25]), ([26], [26]), ([27, 26], [26, 27]), ([28, 26], [26, 28]), ([29, 26], [26, 29]), ([26, 30], [26, 30]), ([31, 26, 0, 1, 2, 3, 4, 5, 6, 7, 8, 9, 10, 11, 12, 13, 14, 15, 16, 17, 18, 19, 20, 21, 22, 23, 24, 25, 26, 27, 28, 29, 30, 31], [31])])
def gazetteerlaw3_WeighImplied.B7 : List Nat := [0, 0, 0, 6, 15, 31, 63, 63, 255, 63, 63, 1599, 4095, 8191, 16383, 32767, 32767, 98303, 262143, 524287, 1048575, 2097151, 4194303, 8388607, 16777215, 33554431, 67108863, 134217727, 268435455, 536870911, 1073741823, 2147483647, 4294967295]
theorem gazetteerlaw3_WeighImplied.tab7 : rtab .any (opsOf Try.f7 7) = gazetteerlaw3_WeighImplied.T7 := by kernel_rfl
theorem gazetteerlaw3_WeighImplied.bits7 : waitsOk gazetteerlaw3_WeighImplied.T7.2 gazetteerlaw3_WeighImplied.B7 = true := by kernel_rfl
set_option maxHeartbeats 8000000 in
set_option maxRecDepth 100000 in
theorem gazetteerlaw3_WeighImplied.calls (k : Nat) (a0 : Int) (a1 : Int) (r : Bool) (w : World) (HLT0 : r = true) (h : gazetteerlaw3_WeighImplied.f k a0 a1 = some r) :
    Calls Try.prog 7 #[.int .i32 a0, .int .i32 a1] w fun e w' => e = .returned (.bool r) ∧ Below w.heap.size w w' := by
  have hu46 := Try.underlying46
  have HLT := Aside0.mk HLT0
  clear HLT0
  have HB := Aside0.mk (Below.refl w.heap.size w)
  have H : ((gazetteerlaw3_awake.f k).bind fun t192 => (if t192 = true then ((gazetteerref1_May.f a0).bind fun t193 => (if t193 = true then ((gazetteerref1_May.f a1).bind fun t194 => (gazetteerlaw3_WeighImplied.j0 k a0 a1 (!t194))) else (gazetteerlaw3_WeighImplied.j0 k a0 a1 true))) else (some false))) = some r := h
  clear h
  replace H := Option.bind_eq_some_iff.mp H
  obtain ⟨t192, A30, H⟩ := H
  replace H : (if t192 = true then ((gazetteerref1_May.f a0).bind fun t193 => (if t193 = true then ((gazetteerref1_May.f a1).bind fun t194 => (gazetteerlaw3_WeighImplied.j0 k a0 a1 (!t194))) else (gazetteerlaw3_WeighImplied.j0 k a0 a1 true))) else (some false)) = some r := H
  have A3 := Aside0.mk A30
  clear A30
  by_cases c4 : t192 = true
  rotate_left
  · replace c4 := Bool.eq_false_iff.mpr c4
    subst c4
    have H1 : (some false) = some r := by rw [if_neg (show ¬ (false = true) by decide)] at H; exact H
    clear H
    have H := H1
    clear H1
    exact absurd H (by rw [HLT.out]; repeat' first | (with_reducible exact dead_none) | (with_reducible exact dead_false) | (with_reducible refine dead_ite ?_ ?_) | (with_reducible refine dead_bind (fun _ => ?_)) | (refine dead_ite ?_ ?_) | (refine dead_bind (fun _ => ?_)) | (simp; done))
  subst c4
  have H1 : ((gazetteerref1_May.f a0).bind fun t193 => (if t193 = true then ((gazetteerref1_May.f a1).bind fun t194 => (gazetteerlaw3_WeighImplied.j0 k a0 a1 (!t194))) else (gazetteerlaw3_WeighImplied.j0 k a0 a1 true))) = some r := by rw [if_pos rfl] at H; exact H
  clear H
  have H := H1
  clear H1
  have HC5 := Aside0.mk H
  clear H
  go_enter Try.func7, Try.ntmps7
  go_upto_region 3 with (first | ((with_reducible refine gate_callee (f := 9) rfl ?_); refine goesL_ (some 8) rfl rfl Try.func9 (by kernel_rfl) rfl #[] rfl (by (try simp only [List.map_toArray, List.map_cons, List.map_nil]); first | done | rfl | (simp only [List.length_drop, List.length_take]; done) | (simp only [List.length_drop, List.length_take]; rfl)) ?_; (with_reducible refine (gazetteerlaw3_awake.calls k  true _ A3.out).mono ?_); rintro e w6 ⟨rfl, hb⟩; refine ⟨_, rfl, ?_⟩; replace HB := Aside0.mk (below_step (pB HB.out) hb); (try clear hb); (try clear hb2); (try clear hk); (try clear hi)))
  (try simp only [Act.put, List.setIfInBounds_toArray, List.set_cons_zero, List.set_cons_succ])
  go_cut [17] (fun v17 wc => ∃ (kq : Nat) (x17_4 : Bool), v17 = .bool x17_4 ∧ Aside0 (gazetteerlaw3_WeighImplied.j0 kq a0 a1 x17_4 = some r) ∧ Aside0 (kq ≤ k) ∧ Aside0 (Below w.heap.size w wc))
  case first =>
   have H := HC5.out
   clear HC5
   replace H := Option.bind_eq_some_iff.mp H
   obtain ⟨t193, A70, H⟩ := H
   replace H : (if t193 = true then ((gazetteerref1_May.f a1).bind fun t194 => (gazetteerlaw3_WeighImplied.j0 k a0 a1 (!t194))) else (gazetteerlaw3_WeighImplied.j0 k a0 a1 true)) = some r := H
   have A7 := Aside0.mk A70
   clear A70
   by_cases c8 : t193 = true
   rotate_left
   ·
    replace c8 := Bool.eq_false_iff.mpr c8
    subst c8
    have H1 : (gazetteerlaw3_WeighImplied.j0 k a0 a1 true) = some r := by rw [if_neg (show ¬ (false = true) by decide)] at H; exact H
    clear H
    have H := H1
    clear H1
    have H' := Aside0.mk H
    clear H
    go_wp2_with (first | ((with_reducible refine gate_callee (f := 20) rfl ?_); refine goesL_ (some 11) rfl rfl Try.func20 (by kernel_rfl) rfl #[.int .i32 a0] rfl (by (try simp only [List.map_toArray, List.map_cons, List.map_nil]); first | done | rfl | (simp only [List.length_drop, List.length_take]; done) | (simp only [List.length_drop, List.length_take]; rfl)) ?_; (with_reducible refine (gazetteerref1_May.calls a0 false _ A7.out).mono ?_); rintro e w' ⟨rfl, ⟨nd, rfl⟩⟩; refine ⟨_, rfl, ?_⟩))
    go_meet
    case rel => exact ⟨_, (true), (by first | rfl | (simp; done) | (simp [*]; done)), H', ⟨by first | omega | exact Nat.le_refl _⟩, ⟨by repeat (first | (with_reducible first | exact HB.out | apply below_alloc | apply pw_below_drewN | apply below_drew1) | exact HB.out)⟩⟩
   subst c8
   have H1 : ((gazetteerref1_May.f a1).bind fun t194 => (gazetteerlaw3_WeighImplied.j0 k a0 a1 (!t194))) = some r := by rw [if_pos rfl] at H; exact H
   clear H
   have H := H1
   clear H1
   replace H := Option.bind_eq_some_iff.mp H
   obtain ⟨t194, A90, H⟩ := H
   replace H : (gazetteerlaw3_WeighImplied.j0 k a0 a1 (!t194)) = some r := H
   have A9 := Aside0.mk A90
   clear A90
   have H' := Aside0.mk H
   clear H
   go_wp2_with (first | ((with_reducible refine gate_callee (f := 20) rfl ?_); refine goesL_ (some 11) rfl rfl Try.func20 (by kernel_rfl) rfl #[.int .i32 a0] rfl (by (try simp only [List.map_toArray, List.map_cons, List.map_nil]); first | done | rfl | (simp only [List.length_drop, List.length_take]; done) | (simp only [List.length_drop, List.length_take]; rfl)) ?_; (with_reducible refine (gazetteerref1_May.calls a0 true _ A7.out).mono ?_); rintro e w' ⟨rfl, ⟨nd, rfl⟩⟩; refine ⟨_, rfl, ?_⟩) | (go_at_call 20; (with_reducible refine (gazetteerref1_May.calls a1 t194 _ A9.out).mono ?_); rintro e w' ⟨rfl, ⟨nd, rfl⟩⟩))
   go_meet
   case rel => exact ⟨_, (!t194), (by first | rfl | (simp; done) | (simp [*]; done)), H', ⟨by first | omega | exact Nat.le_refl _⟩, ⟨by repeat (first | (with_reducible first | exact HB.out | apply below_alloc | apply pw_below_drewN | apply below_drew1) | exact HB.out)⟩⟩
  case rest =>
   clear HC5
   try clear c2
   try clear p2
   try clear c4
   try clear c7
   try clear c8
   try clear c9
   obtain ⟨kq, x17_4, rfl, HA, HJ4, HB⟩ := hcut
   cases kq with
   | zero => exact absurd HA.out (by simp [gazetteerlaw3_WeighImplied.j0])
   | succ kj4 =>
    have H := HA.out
    clear HA
    simp only [gazetteerlaw3_WeighImplied.j0] at H
    by_cases c10 : x17_4 = true
    ·
     subst c10
     have H1 : (some true) = some r := by rw [if_pos rfl] at H; exact H
     clear H
     have H := H1
     clear H1
     obtain rfl := Option.some.inj H
     go_wp2
     go_ret
     exact ⟨by first | rfl | (simp [errW_none, errW_some] <;> rfl) | (simp [*, errW_none, errW_some] <;> rfl), by repeat (first | (with_reducible first | exact HB.out | apply below_alloc | apply pw_below_drewN | apply below_drew1) | exact HB.out)⟩
    replace c10 := Bool.eq_false_iff.mpr c10
    subst c10
    have H1 : ((weigh_Implied.f a0).bind fun bt195 => ((weigh_Implied.f a1).bind fun bt201 => (if bt195.1 < bt201.1 then (if (true == (decide (a0 < a1))) = true then (if (((bt195.1 == bt201.1 && (bt195.2.1 == bt201.2.1 && (bt195.2.2.1 == bt201.2.2.1))) && ((bt195.2.2.2.1 == bt201.2.2.2.1 && (bt195.2.2.2.2.1 == bt201.2.2.2.2.1 && (bt195.2.2.2.2.2 == bt201.2.2.2.2.2))))) == (a0 == a1)) = true then ((gazetteerref1_Implied.f a0).bind fun bt209 => (if ((bt195.1 == bt209.1 && (bt195.2.1 == bt209.2.1 && (bt195.2.2.1 == bt209.2.2.1))) && ((bt195.2.2.2.1 == bt209.2.2.2.1 && (bt195.2.2.2.2.1 == bt209.2.2.2.2.1 && (bt195.2.2.2.2.2 == bt209.2.2.2.2.2))))) = true then (if bt195.1 ≤ 65535 then (some (decide (bt195.2.2.2.1 > 60000))) else (some false)) else (some false))) else (some false)) else (some false)) else (if bt195.1 = bt201.1 then (if ((decide (bt195.2.2.2.1 < bt201.2.2.2.1)) == (decide (a0 < a1))) = true then (if (((bt195.1 == bt201.1 && (bt195.2.1 == bt201.2.1 && (bt195.2.2.1 == bt201.2.2.1))) && ((bt195.2.2.2.1 == bt201.2.2.2.1 && (bt195.2.2.2.2.1 == bt201.2.2.2.2.1 && (bt195.2.2.2.2.2 == bt201.2.2.2.2.2))))) == (a0 == a1)) = true then ((gazetteerref1_Implied.f a0).bind fun bt215 => (if ((bt195.1 == bt215.1 && (bt195.2.1 == bt215.2.1 && (bt195.2.2.1 == bt215.2.2.1))) && ((bt195.2.2.2.1 == bt215.2.2.2.1 && (bt195.2.2.2.2.1 == bt215.2.2.2.2.1 && (bt195.2.2.2.2.2 == bt215.2.2.2.2.2))))) = true then (if bt195.1 ≤ 65535 then (some (decide (bt195.2.2.2.1 > 60000))) else (some false)) else (some false))) else (some false)) else (some false)) else (if (false == (decide (a0 < a1))) = true then (if (((bt195.1 == bt201.1 && (bt195.2.1 == bt201.2.1 && (bt195.2.2.1 == bt201.2.2.1))) && ((bt195.2.2.2.1 == bt201.2.2.2.1 && (bt195.2.2.2.2.1 == bt201.2.2.2.2.1 && (bt195.2.2.2.2.2 == bt201.2.2.2.2.2))))) == (a0 == a1)) = true then ((gazetteerref1_Implied.f a0).bind fun bt221 => (if ((bt195.1 == bt221.1 && (bt195.2.1 == bt221.2.1 && (bt195.2.2.1 == bt221.2.2.1))) && ((bt195.2.2.2.1 == bt221.2.2.2.1 && (bt195.2.2.2.2.1 == bt221.2.2.2.2.1 && (bt195.2.2.2.2.2 == bt221.2.2.2.2.2))))) = true then (if bt195.1 ≤ 65535 then (some (decide (bt195.2.2.2.1 > 60000))) else (some false)) else (some false))) else (some false)) else (some false)))))) = some r := by rw [if_neg (show ¬ (false = true) by decide)] at H; exact H
    clear H
    have H := H1
    clear H1
    replace H := Option.bind_eq_some_iff.mp H
    obtain ⟨⟨t195, t196, t197, t198, t199, t200⟩, A110, H⟩ := H
    replace H : ((weigh_Implied.f a1).bind fun bt201 => (if t195 < bt201.1 then (if (true == (decide (a0 < a1))) = true then (if (((t195 == bt201.1 && (t196 == bt201.2.1 && (t197 == bt201.2.2.1))) && ((t198 == bt201.2.2.2.1 && (t199 == bt201.2.2.2.2.1 && (t200 == bt201.2.2.2.2.2))))) == (a0 == a1)) = true then ((gazetteerref1_Implied.f a0).bind fun bt209 => (if ((t195 == bt209.1 && (t196 == bt209.2.1 && (t197 == bt209.2.2.1))) && ((t198 == bt209.2.2.2.1 && (t199 == bt209.2.2.2.2.1 && (t200 == bt209.2.2.2.2.2))))) = true then (if t195 ≤ 65535 then (some (decide (t198 > 60000))) else (some false)) else (some false))) else (some false)) else (some false)) else (if t195 = bt201.1 then (if ((decide (t198 < bt201.2.2.2.1)) == (decide (a0 < a1))) = true then (if (((t195 == bt201.1 && (t196 == bt201.2.1 && (t197 == bt201.2.2.1))) && ((t198 == bt201.2.2.2.1 && (t199 == bt201.2.2.2.2.1 && (t200 == bt201.2.2.2.2.2))))) == (a0 == a1)) = true then ((gazetteerref1_Implied.f a0).bind fun bt215 => (if ((t195 == bt215.1 && (t196 == bt215.2.1 && (t197 == bt215.2.2.1))) && ((t198 == bt215.2.2.2.1 && (t199 == bt215.2.2.2.2.1 && (t200 == bt215.2.2.2.2.2))))) = true then (if t195 ≤ 65535 then (some (decide (t198 > 60000))) else (some false)) else (some false))) else (some false)) else (some false)) else (if (false == (decide (a0 < a1))) = true then (if (((t195 == bt201.1 && (t196 == bt201.2.1 && (t197 == bt201.2.2.1))) && ((t198 == bt201.2.2.2.1 && (t199 == bt201.2.2.2.2.1 && (t200 == bt201.2.2.2.2.2))))) == (a0 == a1)) = true then ((gazetteerref1_Implied.f a0).bind fun bt221 => (if ((t195 == bt221.1 && (t196 == bt221.2.1 && (t197 == bt221.2.2.1))) && ((t198 == bt221.2.2.2.1 && (t199 == bt221.2.2.2.2.1 && (t200 == bt221.2.2.2.2.2))))) = true then (if t195 ≤ 65535 then (some (decide (t198 > 60000))) else (some false)) else (some false))) else (some false)) else (some false))))) = some r := H
    have A11 := Aside0.mk A110
    clear A110
    replace H := Option.bind_eq_some_iff.mp H
    obtain ⟨⟨t201, t202, t203, t204, t205, t206⟩, A120, H⟩ := H
    replace H : (if t195 < t201 then (if (true == (decide (a0 < a1))) = true then (if (((t195 == t201 && (t196 == t202 && (t197 == t203))) && ((t198 == t204 && (t199 == t205 && (t200 == t206))))) == (a0 == a1)) = true then ((gazetteerref1_Implied.f a0).bind fun bt209 => (if ((t195 == bt209.1 && (t196 == bt209.2.1 && (t197 == bt209.2.2.1))) && ((t198 == bt209.2.2.2.1 && (t199 == bt209.2.2.2.2.1 && (t200 == bt209.2.2.2.2.2))))) = true then (if t195 ≤ 65535 then (some (decide (t198 > 60000))) else (some false)) else (some false))) else (some false)) else (some false)) else (if t195 = t201 then (if ((decide (t198 < t204)) == (decide (a0 < a1))) = true then (if (((t195 == t201 && (t196 == t202 && (t197 == t203))) && ((t198 == t204 && (t199 == t205 && (t200 == t206))))) == (a0 == a1)) = true then ((gazetteerref1_Implied.f a0).bind fun bt215 => (if ((t195 == bt215.1 && (t196 == bt215.2.1 && (t197 == bt215.2.2.1))) && ((t198 == bt215.2.2.2.1 && (t199 == bt215.2.2.2.2.1 && (t200 == bt215.2.2.2.2.2))))) = true then (if t195 ≤ 65535 then (some (decide (t198 > 60000))) else (some false)) else (some false))) else (some false)) else (some false)) else (if (false == (decide (a0 < a1))) = true then (if (((t195 == t201 && (t196 == t202 && (t197 == t203))) && ((t198 == t204 && (t199 == t205 && (t200 == t206))))) == (a0 == a1)) = true then ((gazetteerref1_Implied.f a0).bind fun bt221 => (if ((t195 == bt221.1 && (t196 == bt221.2.1 && (t197 == bt221.2.2.1))) && ((t198 == bt221.2.2.2.1 && (t199 == bt221.2.2.2.2.1 && (t200 == bt221.2.2.2.2.2))))) = true then (if t195 ≤ 65535 then (some (decide (t198 > 60000))) else (some false)) else (some false))) else (some false)) else (some false)))) = some r := H
    have A12 := Aside0.mk A120
    clear A120
    by_cases c13 : t195 < t201
    ·
     rw [if_pos c13] at H
     have c13b0 : decide (t195 < t201) = true := decide_eq_true c13
     clear c13
     by_cases c14 : (true == (decide (a0 < a1))) = true
     rotate_left
     · rw [if_neg c14] at H
       have c14b0 : (true == (decide (a0 < a1))) = false := by simpa using c14
       (try (have c14b1 : decide (true = (decide (a0 < a1))) = false := by simpa using c14))
       (try (have c14b2 : (true == (decide (a0 < a1))) = false := by simpa using c14))
       (try (have c14b3 : ¬ (true = (decide (a0 < a1))) := by simpa using c14))
       clear c14
       exact absurd H (by rw [HLT.out]; repeat' first | (with_reducible exact dead_none) | (with_reducible exact dead_false) | (with_reducible refine dead_ite ?_ ?_) | (with_reducible refine dead_bind (fun _ => ?_)) | (refine dead_ite ?_ ?_) | (refine dead_bind (fun _ => ?_)) | (simp; done))
     rw [if_pos c14] at H
     have c14b0 : (true == (decide (a0 < a1))) = true := c14
     (try (have c14b1 : decide (true = (decide (a0 < a1))) = true := by simpa using c14))
     (try (have c14b2 : (true == (decide (a0 < a1))) = true := by simpa using c14))
     clear c14
     by_cases c15 : (((t195 == t201 && (t196 == t202 && (t197 == t203))) && ((t198 == t204 && (t199 == t205 && (t200 == t206))))) == (a0 == a1)) = true
     rotate_left
     ·
      rw [if_neg c15] at H
      have c15b0 : (((t195 == t201 && (t196 == t202 && (t197 == t203))) && ((t198 == t204 && (t199 == t205 && (t200 == t206))))) == (a0 == a1)) = false := by simpa using c15
      (try (have c15b7 := c15b0; simp only [c29b0, Bool.true_and] at c15b7))
      (try (have c15b1 : decide (((t195 == t201 && (t196 == t202 && (t197 == t203))) && ((t198 == t204 && (t199 == t205 && (t200 == t206))))) = (a0 == a1)) = false := by simpa using c15))
      (try (have c15b2 : (((t195 == t201 && (t196 == t202 && (t197 == t203))) && ((t198 == t204 && (t199 == t205 && (t200 == t206))))) == (a0 == a1)) = false := by simpa using c15))
      (try (have c15b3 : ¬ (((t195 == t201 && (t196 == t202 && (t197 == t203))) && ((t198 == t204 && (t199 == t205 && (t200 == t206))))) = (a0 == a1)) := by simpa using c15))
      clear c15
      exact absurd H (by rw [HLT.out]; repeat' first | (with_reducible exact dead_none) | (with_reducible exact dead_false) | (with_reducible refine dead_ite ?_ ?_) | (with_reducible refine dead_bind (fun _ => ?_)) | (refine dead_ite ?_ ?_) | (refine dead_bind (fun _ => ?_)) | (simp; done))
     rw [if_pos c15] at H
     have c15b0 : (((t195 == t201 && (t196 == t202 && (t197 == t203))) && ((t198 == t204 && (t199 == t205 && (t200 == t206))))) == (a0 == a1)) = true := c15
     (try (have c15b7 := c15b0; simp only [c29b0, Bool.true_and] at c15b7))
     (try (have c15b8 : (a0 == a1) = false := by simpa [c29b0] using c15b0))
     (try (have c15b1 : decide (((t195 == t201 && (t196 == t202 && (t197 == t203))) && ((t198 == t204 && (t199 == t205 && (t200 == t206))))) = (a0 == a1)) = true := by simpa using c15))
     (try (have c15b2 : (((t195 == t201 && (t196 == t202 && (t197 == t203))) && ((t198 == t204 && (t199 == t205 && (t200 == t206))))) == (a0 == a1)) = true := by simpa using c15))
     clear c15
     replace H := Option.bind_eq_some_iff.mp H
     obtain ⟨⟨t209, t210, t211, t212, t213, t214⟩, A160, H⟩ := H
     replace H : (if ((t195 == t209 && (t196 == t210 && (t197 == t211))) && ((t198 == t212 && (t199 == t213 && (t200 == t214))))) = true then (if t195 ≤ 65535 then (some (decide (t198 > 60000))) else (some false)) else (some false)) = some r := H
     have A16 := Aside0.mk A160
     clear A160
     by_cases c17 : ((t195 == t209 && (t196 == t210 && (t197 == t211))) && ((t198 == t212 && (t199 == t213 && (t200 == t214))))) = true
     rotate_left
     · rw [if_neg c17] at H
       have c17b0 : ((t195 == t209 && (t196 == t210 && (t197 == t211))) && ((t198 == t212 && (t199 == t213 && (t200 == t214))))) = false := by simpa using c17
       clear c17
       exact absurd H (by rw [HLT.out]; repeat' first | (with_reducible exact dead_none) | (with_reducible exact dead_false) | (with_reducible refine dead_ite ?_ ?_) | (with_reducible refine dead_bind (fun _ => ?_)) | (refine dead_ite ?_ ?_) | (refine dead_bind (fun _ => ?_)) | (simp; done))
     rw [if_pos c17] at H
     have c17b0 : ((t195 == t209 && (t196 == t210 && (t197 == t211))) && ((t198 == t212 && (t199 == t213 && (t200 == t214))))) = true := c17
     clear c17
     by_cases c18 : t195 ≤ 65535
     rotate_left
     · rw [if_neg c18] at H
       have c18b0 : decide (t195 ≤ 65535) = false := decide_eq_false c18
       clear c18
       exact absurd H (by rw [HLT.out]; repeat' first | (with_reducible exact dead_none) | (with_reducible exact dead_false) | (with_reducible refine dead_ite ?_ ?_) | (with_reducible refine dead_bind (fun _ => ?_)) | (refine dead_ite ?_ ?_) | (refine dead_bind (fun _ => ?_)) | (simp; done))
     rw [if_pos c18] at H
     have c18b0 : decide (t195 ≤ 65535) = true := decide_eq_true c18
     clear c18
     obtain rfl := Option.some.inj H
     try go_wp2_with (first | ((with_reducible refine gate_callee (f := 18) rfl ?_); refine goesL_ (some 19) rfl rfl Try.func18 (by kernel_rfl) rfl #[.int .i32 a0] rfl (by (try simp only [List.map_toArray, List.map_cons, List.map_nil]); first | done | rfl | (simp only [List.length_drop, List.length_take]; done) | (simp only [List.length_drop, List.length_take]; rfl)) ?_; (with_reducible refine (weigh_Implied.calls a0 t195 t196 t197 t198 t199 t200 _ A11.out).mono ?_); rintro e w19 ⟨rfl, hb⟩; refine ⟨_, rfl, ?_⟩; replace HB := Aside0.mk (below_step (pB HB.out) hb); (try clear hb); (try clear hb2); (try clear hk); (try clear hi)) | ((with_reducible refine gate_callee (f := 18) rfl ?_); refine goesL_ (some 21) rfl rfl Try.func18 (by kernel_rfl) rfl #[.int .i32 a1] rfl (by (try simp only [List.map_toArray, List.map_cons, List.map_nil]); first | done | rfl | (simp only [List.length_drop, List.length_take]; done) | (simp only [List.length_drop, List.length_take]; rfl)) ?_; (with_reducible refine (weigh_Implied.calls a1 t201 t202 t203 t204 t205 t206 _ A12.out).mono ?_); rintro e w20 ⟨rfl, hb⟩; refine ⟨_, rfl, ?_⟩; replace HB := Aside0.mk (below_step (pB HB.out) hb); (try clear hb); (try clear hb2); (try clear hk); (try clear hi)) | ((with_reducible refine gate_dst (N := 5) rfl ?_); refine box_event ?hg (N := 5) ?hd (cs := #[.int .i64 0, .int .i64 0, .int .i64 0, .int .i64 0, .int .i64 0, .int .i64 0]) (t := 46) ?hr ?_; (case hd => rfl); (case hg => rfl); (case hr => first | (go_simp; done) | (go_simp; rfl)); intro gb207 hg w21 hbox hb; have BK207 := Aside0.mk (hbox); have GW207 := geL hg HB.out; have GE207 := geL hg HB.out; replace HB := Aside0.mk (below_step (pB HB.out) hb); clear hb hbox hg) | ((with_reducible refine gate_dst (N := 6) rfl ?_); refine box_event ?hg (N := 6) ?hd (cs := #[.int .i64 0, .int .i64 0, .int .i64 0, .int .i64 0, .int .i64 0, .int .i64 0]) (t := 46) ?hr ?_; (case hd => rfl); (case hg => rfl); (case hr => first | (go_simp; done) | (go_simp; rfl)); intro gb208 hg w22 hbox hb; have BK208 := Aside0.mk (hbox); have GW208 := geL hg HB.out; have GE208 := geL hg HB.out; have NB207_208 := neL hg BK207.out; have NB208_207 := neG hg BK207.out; replace BK207 := Aside0.mk (blk_below (pb BK207.out) hb); replace HB := Aside0.mk (below_step (pB HB.out) hb); clear hb hbox hg; have hnb23 := NB207_208.out; have hnc23 := NB208_207.out; have hcz24_0 : w22.cell? ⟨gb207, 0, none⟩ = some (.int .i64 0) := blk_cell BK207.out 0; have hcz24_1 : w22.cell? ⟨gb207, 1, none⟩ = some (.int .i64 0) := blk_cell BK207.out 1; have hcz24_2 : w22.cell? ⟨gb207, 2, none⟩ = some (.int .i64 0) := blk_cell BK207.out 2; have hcz24_3 : w22.cell? ⟨gb207, 3, none⟩ = some (.int .i64 0) := blk_cell BK207.out 3; have hcz24_4 : w22.cell? ⟨gb207, 4, none⟩ = some (.int .i64 0) := blk_cell BK207.out 4; have hcz24_5 : w22.cell? ⟨gb207, 5, none⟩ = some (.int .i64 0) := blk_cell BK207.out 5; have hfz24_0 := blk_frozen BK207.out 0; have hfz24_1 := blk_frozen BK207.out 1; have hfz24_2 := blk_frozen BK207.out 2; have hfz24_3 := blk_frozen BK207.out 3; have hfz24_4 := blk_frozen BK207.out 4; have hfz24_5 := blk_frozen BK207.out 5; have hcz25_0 : w22.cell? ⟨gb208, 0, none⟩ = some (.int .i64 0) := blk_cell BK208.out 0; have hcz25_1 : w22.cell? ⟨gb208, 1, none⟩ = some (.int .i64 0) := blk_cell BK208.out 1; have hcz25_2 : w22.cell? ⟨gb208, 2, none⟩ = some (.int .i64 0) := blk_cell BK208.out 2; have hcz25_3 : w22.cell? ⟨gb208, 3, none⟩ = some (.int .i64 0) := blk_cell BK208.out 3; have hcz25_4 : w22.cell? ⟨gb208, 4, none⟩ = some (.int .i64 0) := blk_cell BK208.out 4; have hcz25_5 : w22.cell? ⟨gb208, 5, none⟩ = some (.int .i64 0) := blk_cell BK208.out 5; have hfz25_0 := blk_frozen BK208.out 0; have hfz25_1 := blk_frozen BK208.out 1; have hfz25_2 := blk_frozen BK208.out 2; have hfz25_3 := blk_frozen BK208.out 3; have hfz25_4 := blk_frozen BK208.out 4; have hfz25_5 := blk_frozen BK208.out 5))
     have n0_ : Aside0 (((((((((((((w22.setCell ⟨gb207, 0, none⟩ (.int .i64 t195)).setCell ⟨gb207, 1, none⟩ (.int .i64 t196)).setCell ⟨gb207, 2, none⟩ (.int .i64 t197)).setCell ⟨gb207, 3, none⟩ (.int .i64 t198)).setCell ⟨gb207, 4, none⟩ (.int .i64 t199)).setCell ⟨gb207, 5, none⟩ (.int .i64 t200)).setCell ⟨gb208, 0, none⟩ (.int .i64 t201)).setCell ⟨gb208, 1, none⟩ (.int .i64 t202)).setCell ⟨gb208, 2, none⟩ (.int .i64 t203)).setCell ⟨gb208, 3, none⟩ (.int .i64 t204)).setCell ⟨gb208, 4, none⟩ (.int .i64 t205)).setCell ⟨gb208, 5, none⟩ (.int .i64 t206)).heap[gb207]? = some (.cells #[.int .i64 t195, .int .i64 t196, .int .i64 t197, .int .i64 t198, .int .i64 t199, .int .i64 t200] 46 (0, 0))) := ⟨by (with_reducible repeat (first | refine blk_drewN ?_ _ | refine blk_drew ?_ | refine blk_alloc ?_ _)); refine blk_far ?_ NB207_208.out _; (with_reducible repeat (first | refine blk_drewN ?_ _ | refine blk_drew ?_ | refine blk_alloc ?_ _)); refine blk_far ?_ NB207_208.out _; (with_reducible repeat (first | refine blk_drewN ?_ _ | refine blk_drew ?_ | refine blk_alloc ?_ _)); refine blk_far ?_ NB207_208.out _; (with_reducible repeat (first | refine blk_drewN ?_ _ | refine blk_drew ?_ | refine blk_alloc ?_ _)); refine blk_far ?_ NB207_208.out _; (with_reducible repeat (first | refine blk_drewN ?_ _ | refine blk_drew ?_ | refine blk_alloc ?_ _)); refine blk_far ?_ NB207_208.out _; (with_reducible repeat (first | refine blk_drewN ?_ _ | refine blk_drew ?_ | refine blk_alloc ?_ _)); refine blk_far ?_ NB207_208.out _; (with_reducible repeat (first | refine blk_drewN ?_ _ | refine blk_drew ?_ | refine blk_alloc ?_ _)); refine blk_put (cs := #[.int .i64 t195, .int .i64 t196, .int .i64 t197, .int .i64 t198, .int .i64 t199, .int .i64 0]) ?_ 5 _ rfl; (with_reducible repeat (first | refine blk_drewN ?_ _ | refine blk_drew ?_ | refine blk_alloc ?_ _)); refine blk_put (cs := #[.int .i64 t195, .int .i64 t196, .int .i64 t197, .int .i64 t198, .int .i64 0, .int .i64 0]) ?_ 4 _ rfl; (with_reducible repeat (first | refine blk_drewN ?_ _ | refine blk_drew ?_ | refine blk_alloc ?_ _)); refine blk_put (cs := #[.int .i64 t195, .int .i64 t196, .int .i64 t197, .int .i64 0, .int .i64 0, .int .i64 0]) ?_ 3 _ rfl; (with_reducible repeat (first | refine blk_drewN ?_ _ | refine blk_drew ?_ | refine blk_alloc ?_ _)); refine blk_put (cs := #[.int .i64 t195, .int .i64 t196, .int .i64 0, .int .i64 0, .int .i64 0, .int .i64 0]) ?_ 2 _ rfl; (with_reducible repeat (first | refine blk_drewN ?_ _ | refine blk_drew ?_ | refine blk_alloc ?_ _)); refine blk_put (cs := #[.int .i64 t195, .int .i64 0, .int .i64 0, .int .i64 0, .int .i64 0, .int .i64 0]) ?_ 1 _ rfl; (with_reducible repeat (first | refine blk_drewN ?_ _ | refine blk_drew ?_ | refine blk_alloc ?_ _)); refine blk_put (cs := #[.int .i64 0, .int .i64 0, .int .i64 0, .int .i64 0, .int .i64 0, .int .i64 0]) ?_ 0 _ rfl; (with_reducible repeat (first | refine blk_drewN ?_ _ | refine blk_drew ?_ | refine blk_alloc ?_ _)); exact BK207.out⟩
     have n1_ : Aside0 (((((((((((((w22.setCell ⟨gb207, 0, none⟩ (.int .i64 t195)).setCell ⟨gb207, 1, none⟩ (.int .i64 t196)).setCell ⟨gb207, 2, none⟩ (.int .i64 t197)).setCell ⟨gb207, 3, none⟩ (.int .i64 t198)).setCell ⟨gb207, 4, none⟩ (.int .i64 t199)).setCell ⟨gb207, 5, none⟩ (.int .i64 t200)).setCell ⟨gb208, 0, none⟩ (.int .i64 t201)).setCell ⟨gb208, 1, none⟩ (.int .i64 t202)).setCell ⟨gb208, 2, none⟩ (.int .i64 t203)).setCell ⟨gb208, 3, none⟩ (.int .i64 t204)).setCell ⟨gb208, 4, none⟩ (.int .i64 t205)).setCell ⟨gb208, 5, none⟩ (.int .i64 t206)).heap[gb208]? = some (.cells #[.int .i64 t201, .int .i64 t202, .int .i64 t203, .int .i64 t204, .int .i64 t205, .int .i64 t206] 46 (0, 0))) := ⟨by (with_reducible repeat (first | refine blk_drewN ?_ _ | refine blk_drew ?_ | refine blk_alloc ?_ _)); refine blk_put (cs := #[.int .i64 t201, .int .i64 t202, .int .i64 t203, .int .i64 t204, .int .i64 t205, .int .i64 0]) ?_ 5 _ rfl; (with_reducible repeat (first | refine blk_drewN ?_ _ | refine blk_drew ?_ | refine blk_alloc ?_ _)); refine blk_put (cs := #[.int .i64 t201, .int .i64 t202, .int .i64 t203, .int .i64 t204, .int .i64 0, .int .i64 0]) ?_ 4 _ rfl; (with_reducible repeat (first | refine blk_drewN ?_ _ | refine blk_drew ?_ | refine blk_alloc ?_ _)); refine blk_put (cs := #[.int .i64 t201, .int .i64 t202, .int .i64 t203, .int .i64 0, .int .i64 0, .int .i64 0]) ?_ 3 _ rfl; (with_reducible repeat (first | refine blk_drewN ?_ _ | refine blk_drew ?_ | refine blk_alloc ?_ _)); refine blk_put (cs := #[.int .i64 t201, .int .i64 t202, .int .i64 0, .int .i64 0, .int .i64 0, .int .i64 0]) ?_ 2 _ rfl; (with_reducible repeat (first | refine blk_drewN ?_ _ | refine blk_drew ?_ | refine blk_alloc ?_ _)); refine blk_put (cs := #[.int .i64 t201, .int .i64 0, .int .i64 0, .int .i64 0, .int .i64 0, .int .i64 0]) ?_ 1 _ rfl; (with_reducible repeat (first | refine blk_drewN ?_ _ | refine blk_drew ?_ | refine blk_alloc ?_ _)); refine blk_put (cs := #[.int .i64 0, .int .i64 0, .int .i64 0, .int .i64 0, .int .i64 0, .int .i64 0]) ?_ 0 _ rfl; (with_reducible repeat (first | refine blk_drewN ?_ _ | refine blk_drew ?_ | refine blk_alloc ?_ _)); refine blk_far ?_ NB208_207.out _; (with_reducible repeat (first | refine blk_drewN ?_ _ | refine blk_drew ?_ | refine blk_alloc ?_ _)); refine blk_far ?_ NB208_207.out _; (with_reducible repeat (first | refine blk_drewN ?_ _ | refine blk_drew ?_ | refine blk_alloc ?_ _)); refine blk_far ?_ NB208_207.out _; (with_reducible repeat (first | refine blk_drewN ?_ _ | refine blk_drew ?_ | refine blk_alloc ?_ _)); refine blk_far ?_ NB208_207.out _; (with_reducible repeat (first | refine blk_drewN ?_ _ | refine blk_drew ?_ | refine blk_alloc ?_ _)); refine blk_far ?_ NB208_207.out _; (with_reducible repeat (first | refine blk_drewN ?_ _ | refine blk_drew ?_ | refine blk_alloc ?_ _)); refine blk_far ?_ NB208_207.out _; (with_reducible repeat (first | refine blk_drewN ?_ _ | refine blk_drew ?_ | refine blk_alloc ?_ _)); exact BK208.out⟩
     have n2_ : Aside0 (Below w.heap.size w ((((((((((((w22.setCell ⟨gb207, 0, none⟩ (.int .i64 t195)).setCell ⟨gb207, 1, none⟩ (.int .i64 t196)).setCell ⟨gb207, 2, none⟩ (.int .i64 t197)).setCell ⟨gb207, 3, none⟩ (.int .i64 t198)).setCell ⟨gb207, 4, none⟩ (.int .i64 t199)).setCell ⟨gb207, 5, none⟩ (.int .i64 t200)).setCell ⟨gb208, 0, none⟩ (.int .i64 t201)).setCell ⟨gb208, 1, none⟩ (.int .i64 t202)).setCell ⟨gb208, 2, none⟩ (.int .i64 t203)).setCell ⟨gb208, 3, none⟩ (.int .i64 t204)).setCell ⟨gb208, 4, none⟩ (.int .i64 t205)).setCell ⟨gb208, 5, none⟩ (.int .i64 t206))) := ⟨by repeat (first | (with_reducible first | exact HB.out | apply below_alloc | apply pw_below_drewN | apply below_drew1 | refine below_set ?_ GE207.out | refine below_set ?_ GE208.out) | exact HB.out)⟩
     (try clear BK207)
     (try clear BK208)
     (try clear HB)
     generalize ((((((((((((w22.setCell ⟨gb207, 0, none⟩ (.int .i64 t195)).setCell ⟨gb207, 1, none⟩ (.int .i64 t196)).setCell ⟨gb207, 2, none⟩ (.int .i64 t197)).setCell ⟨gb207, 3, none⟩ (.int .i64 t198)).setCell ⟨gb207, 4, none⟩ (.int .i64 t199)).setCell ⟨gb207, 5, none⟩ (.int .i64 t200)).setCell ⟨gb208, 0, none⟩ (.int .i64 t201)).setCell ⟨gb208, 1, none⟩ (.int .i64 t202)).setCell ⟨gb208, 2, none⟩ (.int .i64 t203)).setCell ⟨gb208, 3, none⟩ (.int .i64 t204)).setCell ⟨gb208, 4, none⟩ (.int .i64 t205)).setCell ⟨gb208, 5, none⟩ (.int .i64 t206)) = w26 at n0_ n1_ n2_ ⊢
     have BK207 := n0_
     have BK208 := n1_
     have HB := n2_
     clear n0_ n1_ n2_
     replace BK207 := Aside0.mk (blk_drew BK207.out)
     replace BK208 := Aside0.mk (blk_drew BK208.out)
     replace HB := Aside0.mk (below_drew1 HB.out)
     refine start_ (n := 33) (S := fun w' => w'.cell? ⟨gb207, 0, none⟩ = some (.int .i64 t195) ∧ w'.cell? ⟨gb207, 1, none⟩ = some (.int .i64 t196) ∧ w'.cell? ⟨gb207, 2, none⟩ = some (.int .i64 t197) ∧ w'.cell? ⟨gb207, 3, none⟩ = some (.int .i64 t198) ∧ w'.cell? ⟨gb207, 4, none⟩ = some (.int .i64 t199) ∧ w'.cell? ⟨gb207, 5, none⟩ = some (.int .i64 t200) ∧ w'.cell? ⟨gb208, 0, none⟩ = some (.int .i64 t201) ∧ w'.cell? ⟨gb208, 1, none⟩ = some (.int .i64 t202) ∧ w'.cell? ⟨gb208, 2, none⟩ = some (.int .i64 t203) ∧ w'.cell? ⟨gb208, 3, none⟩ = some (.int .i64 t204) ∧ w'.cell? ⟨gb208, 4, none⟩ = some (.int .i64 t205) ∧ w'.cell? ⟨gb208, 5, none⟩ = some (.int .i64 t206)) (ds := []) (fl 0 33) (by kernel_rfl) rfl rfl ⟨blk_cell BK207.out 0, blk_cell BK207.out 1, blk_cell BK207.out 2, blk_cell BK207.out 3, blk_cell BK207.out 4, blk_cell BK207.out 5, blk_cell BK208.out 0, blk_cell BK208.out 1, blk_cell BK208.out 2, blk_cell BK208.out 3, blk_cell BK208.out 4, blk_cell BK208.out 5⟩ (fun hHeld => ?_); refine with_tabW gazetteerlaw3_WeighImplied.tab7 gazetteerlaw3_WeighImplied.bits7 (fun HT_ HW_ => ?_)
     generalize w26.drew = w27 at BK207 BK208 HB hHeld ⊢
     refine pure_ (i := 0) (N := some 47) (v := ?_) (a' := ?_) (fl 1 32) rfl rfl (any_of HT_.out (by kernel_rfl)) (fun _ _ _ h => h) (Or.inl ⟨by rfl, ?_⟩) ?_ ?_
     rotate_left
     · intro w'
       go_simp
       with_reducible rfl
     rotate_left
     · simp only [Act.put, List.setIfInBounds_toArray, List.set_cons_zero, List.set_cons_succ, i64_w, i32_w]; rfl
     refine pure_ (i := 1) (N := some 48) (v := ?_) (a' := ?_) (fl 2 31) rfl rfl (any_of HT_.out (by kernel_rfl)) (fun _ _ _ h => h) (Or.inl ⟨by rfl, ?_⟩) ?_ ?_
     rotate_left
     · intro w'
       go_simp
       with_reducible rfl
     rotate_left
     · simp only [Act.put, List.setIfInBounds_toArray, List.set_cons_zero, List.set_cons_succ, i64_w, i32_w]; rfl
     refine pure_ (i := 2) (N := some 49) (v := ?_) (a' := ?_) (fl 3 30) rfl rfl (any_of HT_.out (by kernel_rfl)) (fun _ _ _ h => h) (Or.inl ⟨by rfl, ?_⟩) ?_ ?_
     rotate_left
     · intro w'
       go_simp
       with_reducible rfl
     rotate_left
     · simp only [Act.put, List.setIfInBounds_toArray, List.set_cons_zero, List.set_cons_succ, i64_w, i32_w]; rfl
     refine pure_ (i := 3) (N := some 50) (v := ?_) (a' := ?_) (fl 4 29) rfl rfl (any_of HT_.out (by kernel_rfl)) (fun _ _ _ h => h) (Or.inl ⟨by rfl, ?_⟩) ?_ ?_
     rotate_left
     · intro w'
       go_simp
       with_reducible rfl
     rotate_left
     · simp only [Act.put, List.setIfInBounds_toArray, List.set_cons_zero, List.set_cons_succ, i64_w, i32_w]; rfl
     refine pure_ (i := 4) (N := some 51) (v := ?_) (a' := ?_) (fl 5 28) rfl rfl (any_of HT_.out (by kernel_rfl)) (fun _ _ _ h => h) (Or.inl ⟨by rfl, ?_⟩) ?_ ?_
     rotate_left
     · intro w'
       go_simp
       with_reducible rfl
     rotate_left
     · simp only [Act.put, List.setIfInBounds_toArray, List.set_cons_zero, List.set_cons_succ, i64_w, i32_w]; rfl
     refine pure_ (i := 5) (N := some 52) (v := ?_) (a' := ?_) (fl 6 27) rfl rfl (any_of HT_.out (by kernel_rfl)) (fun _ _ _ h => h) (Or.inl ⟨by rfl, ?_⟩) ?_ ?_
     rotate_left
     · intro w'
       go_simp
       with_reducible rfl
     rotate_left
     · simp only [Act.put, List.setIfInBounds_toArray, List.set_cons_zero, List.set_cons_succ, i64_w, i32_w]; rfl
     refine pure_ (i := 9) (N := some 56) (v := ?_) (a' := ?_) #[true, true, true, true, true, true, false, false, false, true, false, false, false, false, false, false, false, false, false, false, false, false, false, false, false, false, false, false, false, false, false, false, false] rfl rfl (any_of HT_.out (by kernel_rfl)) (fun _ _ _ h => h) (Or.inl ⟨by rfl, ?_⟩) ?_ ?_
     rotate_left
     · intro w'
       go_simp
       with_reducible rfl
     rotate_left
     · simp only [Act.put, List.setIfInBounds_toArray, List.set_cons_zero, List.set_cons_succ, i64_w, i32_w]; rfl
     refine pure_ (i := 10) (N := some 57) (v := ?_) (a' := ?_) #[true, true, true, true, true, true, false, false, false, true, true, false, false, false, false, false, false, false, false, false, false, false, false, false, false, false, false, false, false, false, false, false, false] rfl rfl (any_of HT_.out (by kernel_rfl)) (fun _ _ _ h => h) (Or.inl ⟨by rfl, ?_⟩) ?_ ?_
     rotate_left
     · intro w'
       go_simp
       with_reducible rfl
     rotate_left
     · simp only [Act.put, List.setIfInBounds_toArray, List.set_cons_zero, List.set_cons_succ, i64_w, i32_w]; rfl
     refine pure_ (i := 11) (N := some 58) (v := ?_) (a' := ?_) #[true, true, true, true, true, true, false, false, false, true, true, true, false, false, false, false, false, false, false, false, false, false, false, false, false, false, false, false, false, false, false, false, false] rfl rfl (any_of HT_.out (by kernel_rfl)) (fun _ _ _ h => h) (Or.inl ⟨by rfl, ?_⟩) ?_ ?_
     rotate_left
     · intro w'
       go_simp
       with_reducible rfl
     rotate_left
     · simp only [Act.put, List.setIfInBounds_toArray, List.set_cons_zero, List.set_cons_succ, i64_w, i32_w]; rfl
     refine take_ (i := 6) (N := some 53) (v := ?_) (a' := ?_) #[true, true, true, true, true, true, true, false, false, true, true, true, false, false, false, false, false, false, false, false, false, false, false, false, false, false, false, false, false, false, false, false, false] rfl rfl (take_ofW HT_.out HW_.out (by kernel_rfl)) (fun _ _ _ h => h) (Or.inl ⟨by rfl, ?_⟩) hHeld ?_ ?_
     rotate_left
     · rintro w' ⟨s0, s1, s2, s3, s4, s5, s6, s7, s8, s9, s10, s11⟩; go_simp; with_reducible rfl
     rotate_left
     · simp only [Act.put, List.setIfInBounds_toArray, List.set_cons_zero, List.set_cons_succ, i64_w, i32_w]; rfl
     refine take_ (i := 7) (N := some 54) (v := ?_) (a' := ?_) #[true, true, true, true, true, true, true, true, false, true, true, true, false, false, false, false, false, false, false, false, false, false, false, false, false, false, false, false, false, false, false, false, false] rfl rfl (take_ofW HT_.out HW_.out (by kernel_rfl)) (fun _ _ _ h => h) (Or.inl ⟨by rfl, ?_⟩) hHeld ?_ ?_
     rotate_left
     · rintro w' ⟨s0, s1, s2, s3, s4, s5, s6, s7, s8, s9, s10, s11⟩; go_simp; with_reducible rfl
     rotate_left
     · simp only [Act.put, List.setIfInBounds_toArray, List.set_cons_zero, List.set_cons_succ, i64_w, i32_w]; rfl
     refine pure_ (i := 8) (N := some 55) (v := ?_) (a' := ?_) (fl 12 21) rfl rfl (any_of HT_.out (by kernel_rfl)) (fun _ _ _ h => h) (Or.inl ⟨by rfl, ?_⟩) ?_ ?_
     rotate_left
     · intro w'
       go_simp
       with_reducible rfl
     rotate_left
     · simp only [Act.put, List.setIfInBounds_toArray, List.set_cons_zero, List.set_cons_succ, i64_w, i32_w]; rfl
     refine pure_ (i := 12) (N := some 59) (v := ?_) (a' := ?_) (fl 13 20) rfl rfl (any_of HT_.out (by kernel_rfl)) (fun _ _ _ h => h) (Or.inl ⟨by rfl, ?_⟩) ?_ ?_
     rotate_left
     · intro w'
       go_simp
       with_reducible rfl
     rotate_left
     · simp only [Act.put, List.setIfInBounds_toArray, List.set_cons_zero, List.set_cons_succ, i64_w, i32_w]; rfl
     refine pure_ (i := 13) (N := some 60) (v := ?_) (a' := ?_) (fl 14 19) rfl rfl (any_of HT_.out (by kernel_rfl)) (fun _ _ _ h => h) (Or.inl ⟨by rfl, ?_⟩) ?_ ?_
     rotate_left
     · intro w'
       go_simp
       with_reducible rfl
     rotate_left
     · simp only [Act.put, List.setIfInBounds_toArray, List.set_cons_zero, List.set_cons_succ, i64_w, i32_w]; rfl
     refine pure_ (i := 14) (N := some 61) (v := ?_) (a' := ?_) (fl 15 18) rfl rfl (any_of HT_.out (by kernel_rfl)) (fun _ _ _ h => h) (Or.inl ⟨by rfl, ?_⟩) ?_ ?_
     rotate_left
     · intro w'
       go_simp
       with_reducible rfl
     rotate_left
     · simp only [Act.put, List.setIfInBounds_toArray, List.set_cons_zero, List.set_cons_succ, i64_w, i32_w]; rfl
     refine pure_ (i := 16) (N := some 63) (v := ?_) (a' := ?_) #[true, true, true, true, true, true, true, true, true, true, true, true, true, true, true, false, true, false, false, false, false, false, false, false, false, false, false, false, false, false, false, false, false] rfl rfl (any_of HT_.out (by kernel_rfl)) (fun _ _ _ h => h) (Or.inl ⟨by rfl, ?_⟩) ?_ ?_
     rotate_left
     · intro w'
       go_simp
       with_reducible rfl
     rotate_left
     · simp only [Act.put, List.setIfInBounds_toArray, List.set_cons_zero, List.set_cons_succ, i64_w, i32_w]; rfl
     refine take_ (i := 15) (N := some 62) (v := ?_) (a' := ?_) (fl 17 16) rfl rfl (take_ofW HT_.out HW_.out (by kernel_rfl)) (fun _ _ _ h => h) (Or.inl ⟨by rfl, ?_⟩) hHeld ?_ ?_
     rotate_left
     · rintro w' ⟨s0, s1, s2, s3, s4, s5, s6, s7, s8, s9, s10, s11⟩; go_simp; with_reducible rfl
     rotate_left
     · simp only [Act.put, List.setIfInBounds_toArray, List.set_cons_zero, List.set_cons_succ, i64_w, i32_w]; rfl
     refine one_ (i := 17) (N := some 64) (fl 18 15) rfl rfl (one_of HT_.out (by kernel_rfl)) (by decide) (fun K hK => ?_)
     refine goes_ Try.func21 (by kernel_rfl) rfl #[.int .i32 a0] (by rfl) rfl rfl (by (try simp only [List.map_toArray, List.map_cons, List.map_nil]); first | done | rfl | (simp only [List.length_drop, List.length_take]; done) | (simp only [List.length_drop, List.length_take]; rfl)) ?_
     with_reducible refine (gazetteerref1_Implied.calls a0 t209 t210 t211 t212 t213 t214 _ A16.out).mono ?_
     rintro e w28 ⟨rfl, hb⟩
     refine ⟨_, rfl, ?_⟩
     replace BK207 := Aside0.mk (blk_below (pb BK207.out) hb)
     replace BK208 := Aside0.mk (blk_below (pb BK208.out) hb)
     replace HB := Aside0.mk (below_step (pB HB.out) hb)
     (try clear hb)
     (try clear hb2)
     (try clear hk)
     (try clear hi)
     refine hK.out _ _ ⟨blk_cell BK207.out 0, blk_cell BK207.out 1, blk_cell BK207.out 2, blk_cell BK207.out 3, blk_cell BK207.out 4, blk_cell BK207.out 5, blk_cell BK208.out 0, blk_cell BK208.out 1, blk_cell BK208.out 2, blk_cell BK208.out 3, blk_cell BK208.out 4, blk_cell BK208.out 5⟩ (fun hHeld => ?_)
     clear hK K
     refine norm_ (a' := ?_) ?_ ?_
     rotate_left
     · show Act.put _ (some 64) _ = _; simp only [Act.put, List.setIfInBounds_toArray, List.set_cons_zero, List.set_cons_succ, i64_w, i32_w]; rfl
     refine pure_ (i := 18) (N := some 65) (v := ?_) (a' := ?_) (fl 19 14) rfl rfl (any_of HT_.out (by kernel_rfl)) (fun _ _ _ h => h) (Or.inl ⟨by rfl, ?_⟩) ?_ ?_
     rotate_left
     · intro w'
       go_simp
       with_reducible rfl
     rotate_left
     · simp only [Act.put, List.setIfInBounds_toArray, List.set_cons_zero, List.set_cons_succ, i64_w, i32_w]; rfl
     refine pure_ (i := 19) (N := some 66) (v := ?_) (a' := ?_) (fl 20 13) rfl rfl (any_of HT_.out (by kernel_rfl)) (fun _ _ _ h => h) (Or.inl ⟨by rfl, ?_⟩) ?_ ?_
     rotate_left
     · intro w'
       go_simp
       with_reducible rfl
     rotate_left
     · simp only [Act.put, List.setIfInBounds_toArray, List.set_cons_zero, List.set_cons_succ, i64_w, i32_w]; rfl
     refine pure_ (i := 20) (N := some 67) (v := ?_) (a' := ?_) (fl 21 12) rfl rfl (any_of HT_.out (by kernel_rfl)) (fun _ _ _ h => h) (Or.inl ⟨by rfl, ?_⟩) ?_ ?_
     rotate_left
     · intro w'
       go_simp
       with_reducible rfl
     rotate_left
     · simp only [Act.put, List.setIfInBounds_toArray, List.set_cons_zero, List.set_cons_succ, i64_w, i32_w]; rfl
     refine pure_ (i := 21) (N := some 68) (v := ?_) (a' := ?_) (fl 22 11) rfl rfl (any_of HT_.out (by kernel_rfl)) (fun _ _ _ h => h) (Or.inl ⟨by rfl, ?_⟩) ?_ ?_
     rotate_left
     · intro w'
       go_simp
       with_reducible rfl
     rotate_left
     · simp only [Act.put, List.setIfInBounds_toArray, List.set_cons_zero, List.set_cons_succ, i64_w, i32_w]; rfl
     refine pure_ (i := 22) (N := some 69) (v := ?_) (a' := ?_) (fl 23 10) rfl rfl (any_of HT_.out (by kernel_rfl)) (fun _ _ _ h => h) (Or.inl ⟨by rfl, ?_⟩) ?_ ?_
     rotate_left
     · intro w'
       go_simp
       with_reducible rfl
     rotate_left
     · simp only [Act.put, List.setIfInBounds_toArray, List.set_cons_zero, List.set_cons_succ, i64_w, i32_w]; rfl
     refine take_ (i := 23) (N := some 70) (v := ?_) (a' := ?_) (fl 24 9) rfl rfl (take_ofW HT_.out HW_.out (by kernel_rfl)) (fun _ _ _ h => h) (Or.inl ⟨by rfl, ?_⟩) hHeld ?_ ?_
     rotate_left
     · rintro w' ⟨s0, s1, s2, s3, s4, s5, s6, s7, s8, s9, s10, s11⟩; go_simp; with_reducible rfl
     rotate_left
     · simp only [Act.put, List.setIfInBounds_toArray, List.set_cons_zero, List.set_cons_succ, i64_w, i32_w]; rfl
     refine pure_ (i := 24) (N := some 71) (v := ?_) (a' := ?_) (fl 25 8) rfl rfl (any_of HT_.out (by kernel_rfl)) (fun _ _ _ h => h) (Or.inl ⟨by rfl, ?_⟩) ?_ ?_
     rotate_left
     · intro w'
       go_simp
       with_reducible rfl
     rotate_left
     · simp only [Act.put, List.setIfInBounds_toArray, List.set_cons_zero, List.set_cons_succ, i64_w, i32_w]; rfl
     refine pure_ (i := 25) (N := some 72) (v := ?_) (a' := ?_) (fl 26 7) rfl rfl (any_of HT_.out (by kernel_rfl)) (fun _ _ _ h => h) (Or.inl ⟨by rfl, ?_⟩) ?_ ?_
     rotate_left
     · intro w'
       go_simp
       with_reducible rfl
     rotate_left
     · simp only [Act.put, List.setIfInBounds_toArray, List.set_cons_zero, List.set_cons_succ, i64_w, i32_w]; rfl
     refine pure_ (i := 26) (N := some 73) (v := ?_) (a' := ?_) (fl 27 6) rfl rfl (any_of HT_.out (by kernel_rfl)) (fun _ _ _ h => h) (Or.inl ⟨by rfl, ?_⟩) ?_ ?_
     rotate_left
     · intro w'
       go_simp
       with_reducible rfl
     rotate_left
     · simp only [Act.put, List.setIfInBounds_toArray, List.set_cons_zero, List.set_cons_succ, i64_w, i32_w]; rfl
     refine pure_ (i := 27) (N := some 74) (v := ?_) (a' := ?_) (fl 28 5) rfl rfl (any_of HT_.out (by kernel_rfl)) (fun _ _ _ h => h) (Or.inl ⟨by rfl, ?_⟩) ?_ ?_
     rotate_left
     · intro w'
       go_simp
       with_reducible rfl
     rotate_left
     · simp only [Act.put, List.setIfInBounds_toArray, List.set_cons_zero, List.set_cons_succ, i64_w, i32_w]; rfl
     refine pure_ (i := 28) (N := some 75) (v := ?_) (a' := ?_) (fl 29 4) rfl rfl (any_of HT_.out (by kernel_rfl)) (fun _ _ _ h => h) (Or.inl ⟨by rfl, ?_⟩) ?_ ?_
     rotate_left
     · intro w'
       go_simp
       with_reducible rfl
     rotate_left
     · simp only [Act.put, List.setIfInBounds_toArray, List.set_cons_zero, List.set_cons_succ, i64_w, i32_w]; rfl
     refine take_ (i := 29) (N := some 76) (v := ?_) (a' := ?_) (fl 30 3) rfl rfl (take_ofW HT_.out HW_.out (by kernel_rfl)) (fun _ _ _ h => h) (Or.inl ⟨by rfl, ?_⟩) hHeld ?_ ?_
     rotate_left
     · rintro w' ⟨s0, s1, s2, s3, s4, s5, s6, s7, s8, s9, s10, s11⟩; go_simp; with_reducible rfl
     rotate_left
     · simp only [Act.put, List.setIfInBounds_toArray, List.set_cons_zero, List.set_cons_succ, i64_w, i32_w]; rfl
     refine pure_ (i := 30) (N := some 77) (v := ?_) (a' := ?_) (fl 31 2) rfl rfl (any_of HT_.out (by kernel_rfl)) (fun _ _ _ h => h) (Or.inl ⟨by rfl, ?_⟩) ?_ ?_
     rotate_left
     · intro w'
       go_simp
       with_reducible rfl
     rotate_left
     · simp only [Act.put, List.setIfInBounds_toArray, List.set_cons_zero, List.set_cons_succ, i64_w, i32_w]; rfl
     refine pure_ (i := 31) (N := some 78) (v := ?_) (a' := ?_) (fl 32 1) rfl rfl (any_of HT_.out (by kernel_rfl)) (fun _ _ _ h => h) (Or.inl ⟨by rfl, ?_⟩) ?_ ?_
     rotate_left
     · intro w'
       go_simp
       with_reducible rfl
     rotate_left
     · simp only [Act.put, List.setIfInBounds_toArray, List.set_cons_zero, List.set_cons_succ, i64_w, i32_w]; rfl
     refine pure_ (i := 32) (N := some 4) (v := ?_) (a' := ?_) (fl 33 0) rfl rfl (any_of HT_.out (by kernel_rfl)) (fun _ _ _ h => h) (Or.inl ⟨by rfl, ?_⟩) ?_ ?_
     rotate_left
     · intro w'
       go_simp
       with_reducible rfl
     rotate_left
     · simp only [Act.put, List.setIfInBounds_toArray, List.set_cons_zero, List.set_cons_succ, i64_w, i32_w]; rfl
     refine done_ (done_of HT_.out (by kernel_rfl)) ?_
     try go_wp2
     go_ret
     exact ⟨by first | rfl | (simp [errW_none, errW_some] <;> rfl) | (simp [*, errW_none, errW_some] <;> rfl), by repeat (first | (with_reducible first | exact HB.out | apply below_alloc | apply pw_below_drewN | apply below_drew1 | refine below_set ?_ GE207.out | refine below_set ?_ GE208.out) | exact HB.out)⟩
    rw [if_neg c13] at H
    have c13b0 : decide (t195 < t201) = false := decide_eq_false c13
    clear c13
    by_cases c29 : t195 = t201
    rotate_left
    ·
     rw [if_neg c29] at H
     have c29b0 : (t195 == t201) = false := beq_eq_false_iff_ne.mpr c29
     have c29b1 : (t195 != t201) = true := bne_iff_ne.mpr c29
     by_cases c45 : (false == (decide (a0 < a1))) = true
     rotate_left
     · rw [if_neg c45] at H
       have c45b0 : (false == (decide (a0 < a1))) = false := by simpa using c45
       (try (have c45b1 : decide (false = (decide (a0 < a1))) = false := by simpa using c45))
       (try (have c45b2 : (false == (decide (a0 < a1))) = false := by simpa using c45))
       (try (have c45b3 : ¬ (false = (decide (a0 < a1))) := by simpa using c45))
       clear c45
       exact absurd H (by rw [HLT.out]; repeat' first | (with_reducible exact dead_none) | (with_reducible exact dead_false) | (with_reducible refine dead_ite ?_ ?_) | (with_reducible refine dead_bind (fun _ => ?_)) | (refine dead_ite ?_ ?_) | (refine dead_bind (fun _ => ?_)) | (simp; done))
     rw [if_pos c45] at H
     have c45b0 : (false == (decide (a0 < a1))) = true := c45
     (try (have c45b1 : decide (false = (decide (a0 < a1))) = true := by simpa using c45))
     (try (have c45b2 : (false == (decide (a0 < a1))) = true := by simpa using c45))
     clear c45
     by_cases c46 : (((t195 == t201 && (t196 == t202 && (t197 == t203))) && ((t198 == t204 && (t199 == t205 && (t200 == t206))))) == (a0 == a1)) = true
     rotate_left
     ·
      rw [if_neg c46] at H
      have c46b0 : (((t195 == t201 && (t196 == t202 && (t197 == t203))) && ((t198 == t204 && (t199 == t205 && (t200 == t206))))) == (a0 == a1)) = false := by simpa using c46
      (try (have c46b7 := c46b0; simp only [c29b0, Bool.true_and] at c46b7))
      (try (have c46b1 : decide (((t195 == t201 && (t196 == t202 && (t197 == t203))) && ((t198 == t204 && (t199 == t205 && (t200 == t206))))) = (a0 == a1)) = false := by simpa using c46))
      (try (have c46b2 : (((t195 == t201 && (t196 == t202 && (t197 == t203))) && ((t198 == t204 && (t199 == t205 && (t200 == t206))))) == (a0 == a1)) = false := by simpa using c46))
      (try (have c46b3 : ¬ (((t195 == t201 && (t196 == t202 && (t197 == t203))) && ((t198 == t204 && (t199 == t205 && (t200 == t206))))) = (a0 == a1)) := by simpa using c46))
      clear c46
      exact absurd H (by rw [HLT.out]; repeat' first | (with_reducible exact dead_none) | (with_reducible exact dead_false) | (with_reducible refine dead_ite ?_ ?_) | (with_reducible refine dead_bind (fun _ => ?_)) | (refine dead_ite ?_ ?_) | (refine dead_bind (fun _ => ?_)) | (simp; done))
     rw [if_pos c46] at H
     have c46b0 : (((t195 == t201 && (t196 == t202 && (t197 == t203))) && ((t198 == t204 && (t199 == t205 && (t200 == t206))))) == (a0 == a1)) = true := c46
     (try (have c46b7 := c46b0; simp only [c29b0, Bool.true_and] at c46b7))
     (try (have c46b8 : (a0 == a1) = false := by simpa [c29b0] using c46b0))
     (try (have c46b1 : decide (((t195 == t201 && (t196 == t202 && (t197 == t203))) && ((t198 == t204 && (t199 == t205 && (t200 == t206))))) = (a0 == a1)) = true := by simpa using c46))
     (try (have c46b2 : (((t195 == t201 && (t196 == t202 && (t197 == t203))) && ((t198 == t204 && (t199 == t205 && (t200 == t206))))) == (a0 == a1)) = true := by simpa using c46))
     clear c46
     replace H := Option.bind_eq_some_iff.mp H
     obtain ⟨⟨t221, t222, t223, t224, t225, t226⟩, A470, H⟩ := H
     replace H : (if ((t195 == t221 && (t196 == t222 && (t197 == t223))) && ((t198 == t224 && (t199 == t225 && (t200 == t226))))) = true then (if t195 ≤ 65535 then (some (decide (t198 > 60000))) else (some false)) else (some false)) = some r := H
     have A47 := Aside0.mk A470
     clear A470
     by_cases c48 : ((t195 == t221 && (t196 == t222 && (t197 == t223))) && ((t198 == t224 && (t199 == t225 && (t200 == t226))))) = true
     rotate_left
     · rw [if_neg c48] at H
       have c48b0 : ((t195 == t221 && (t196 == t222 && (t197 == t223))) && ((t198 == t224 && (t199 == t225 && (t200 == t226))))) = false := by simpa using c48
       clear c48
       exact absurd H (by rw [HLT.out]; repeat' first | (with_reducible exact dead_none) | (with_reducible exact dead_false) | (with_reducible refine dead_ite ?_ ?_) | (with_reducible refine dead_bind (fun _ => ?_)) | (refine dead_ite ?_ ?_) | (refine dead_bind (fun _ => ?_)) | (simp; done))
     rw [if_pos c48] at H
     have c48b0 : ((t195 == t221 && (t196 == t222 && (t197 == t223))) && ((t198 == t224 && (t199 == t225 && (t200 == t226))))) = true := c48
     clear c48
     by_cases c49 : t195 ≤ 65535
     rotate_left
     · rw [if_neg c49] at H
       have c49b0 : decide (t195 ≤ 65535) = false := decide_eq_false c49
       clear c49
       exact absurd H (by rw [HLT.out]; repeat' first | (with_reducible exact dead_none) | (with_reducible exact dead_false) | (with_reducible refine dead_ite ?_ ?_) | (with_reducible refine dead_bind (fun _ => ?_)) | (refine dead_ite ?_ ?_) | (refine dead_bind (fun _ => ?_)) | (simp; done))
     rw [if_pos c49] at H
     have c49b0 : decide (t195 ≤ 65535) = true := decide_eq_true c49
     clear c49
     obtain rfl := Option.some.inj H
     try go_wp2_with (first | ((with_reducible refine gate_callee (f := 18) rfl ?_); refine goesL_ (some 19) rfl rfl Try.func18 (by kernel_rfl) rfl #[.int .i32 a0] rfl (by (try simp only [List.map_toArray, List.map_cons, List.map_nil]); first | done | rfl | (simp only [List.length_drop, List.length_take]; done) | (simp only [List.length_drop, List.length_take]; rfl)) ?_; (with_reducible refine (weigh_Implied.calls a0 t195 t196 t197 t198 t199 t200 _ A11.out).mono ?_); rintro e w50 ⟨rfl, hb⟩; refine ⟨_, rfl, ?_⟩; replace HB := Aside0.mk (below_step (pB HB.out) hb); (try clear hb); (try clear hb2); (try clear hk); (try clear hi)) | ((with_reducible refine gate_callee (f := 18) rfl ?_); refine goesL_ (some 21) rfl rfl Try.func18 (by kernel_rfl) rfl #[.int .i32 a1] rfl (by (try simp only [List.map_toArray, List.map_cons, List.map_nil]); first | done | rfl | (simp only [List.length_drop, List.length_take]; done) | (simp only [List.length_drop, List.length_take]; rfl)) ?_; (with_reducible refine (weigh_Implied.calls a1 t201 t202 t203 t204 t205 t206 _ A12.out).mono ?_); rintro e w51 ⟨rfl, hb⟩; refine ⟨_, rfl, ?_⟩; replace HB := Aside0.mk (below_step (pB HB.out) hb); (try clear hb); (try clear hb2); (try clear hk); (try clear hi)) | ((with_reducible refine gate_dst (N := 5) rfl ?_); refine box_event ?hg (N := 5) ?hd (cs := #[.int .i64 0, .int .i64 0, .int .i64 0, .int .i64 0, .int .i64 0, .int .i64 0]) (t := 46) ?hr ?_; (case hd => rfl); (case hg => rfl); (case hr => first | (go_simp; done) | (go_simp; rfl)); intro gb207 hg w52 hbox hb; have BK207 := Aside0.mk (hbox); have GW207 := geL hg HB.out; have GE207 := geL hg HB.out; replace HB := Aside0.mk (below_step (pB HB.out) hb); clear hb hbox hg) | ((with_reducible refine gate_dst (N := 6) rfl ?_); refine box_event ?hg (N := 6) ?hd (cs := #[.int .i64 0, .int .i64 0, .int .i64 0, .int .i64 0, .int .i64 0, .int .i64 0]) (t := 46) ?hr ?_; (case hd => rfl); (case hg => rfl); (case hr => first | (go_simp; done) | (go_simp; rfl)); intro gb208 hg w53 hbox hb; have BK208 := Aside0.mk (hbox); have GW208 := geL hg HB.out; have GE208 := geL hg HB.out; have NB207_208 := neL hg BK207.out; have NB208_207 := neG hg BK207.out; replace BK207 := Aside0.mk (blk_below (pb BK207.out) hb); replace HB := Aside0.mk (below_step (pB HB.out) hb); clear hb hbox hg; have hnb54 := NB207_208.out; have hnc54 := NB208_207.out; have hcz55_0 : w53.cell? ⟨gb207, 0, none⟩ = some (.int .i64 0) := blk_cell BK207.out 0; have hcz55_1 : w53.cell? ⟨gb207, 1, none⟩ = some (.int .i64 0) := blk_cell BK207.out 1; have hcz55_2 : w53.cell? ⟨gb207, 2, none⟩ = some (.int .i64 0) := blk_cell BK207.out 2; have hcz55_3 : w53.cell? ⟨gb207, 3, none⟩ = some (.int .i64 0) := blk_cell BK207.out 3; have hcz55_4 : w53.cell? ⟨gb207, 4, none⟩ = some (.int .i64 0) := blk_cell BK207.out 4; have hcz55_5 : w53.cell? ⟨gb207, 5, none⟩ = some (.int .i64 0) := blk_cell BK207.out 5; have hfz55_0 := blk_frozen BK207.out 0; have hfz55_1 := blk_frozen BK207.out 1; have hfz55_2 := blk_frozen BK207.out 2; have hfz55_3 := blk_frozen BK207.out 3; have hfz55_4 := blk_frozen BK207.out 4; have hfz55_5 := blk_frozen BK207.out 5; have hcz56_0 : w53.cell? ⟨gb208, 0, none⟩ = some (.int .i64 0) := blk_cell BK208.out 0; have hcz56_1 : w53.cell? ⟨gb208, 1, none⟩ = some (.int .i64 0) := blk_cell BK208.out 1; have hcz56_2 : w53.cell? ⟨gb208, 2, none⟩ = some (.int .i64 0) := blk_cell BK208.out 2; have hcz56_3 : w53.cell? ⟨gb208, 3, none⟩ = some (.int .i64 0) := blk_cell BK208.out 3; have hcz56_4 : w53.cell? ⟨gb208, 4, none⟩ = some (.int .i64 0) := blk_cell BK208.out 4; have hcz56_5 : w53.cell? ⟨gb208, 5, none⟩ = some (.int .i64 0) := blk_cell BK208.out 5; have hfz56_0 := blk_frozen BK208.out 0; have hfz56_1 := blk_frozen BK208.out 1; have hfz56_2 := blk_frozen BK208.out 2; have hfz56_3 := blk_frozen BK208.out 3; have hfz56_4 := blk_frozen BK208.out 4; have hfz56_5 := blk_frozen BK208.out 5))
     have n0_ : Aside0 (((((((((((((w53.setCell ⟨gb207, 0, none⟩ (.int .i64 t195)).setCell ⟨gb207, 1, none⟩ (.int .i64 t196)).setCell ⟨gb207, 2, none⟩ (.int .i64 t197)).setCell ⟨gb207, 3, none⟩ (.int .i64 t198)).setCell ⟨gb207, 4, none⟩ (.int .i64 t199)).setCell ⟨gb207, 5, none⟩ (.int .i64 t200)).setCell ⟨gb208, 0, none⟩ (.int .i64 t201)).setCell ⟨gb208, 1, none⟩ (.int .i64 t202)).setCell ⟨gb208, 2, none⟩ (.int .i64 t203)).setCell ⟨gb208, 3, none⟩ (.int .i64 t204)).setCell ⟨gb208, 4, none⟩ (.int .i64 t205)).setCell ⟨gb208, 5, none⟩ (.int .i64 t206)).heap[gb207]? = some (.cells #[.int .i64 t195, .int .i64 t196, .int .i64 t197, .int .i64 t198, .int .i64 t199, .int .i64 t200] 46 (0, 0))) := ⟨by (with_reducible repeat (first | refine blk_drewN ?_ _ | refine blk_drew ?_ | refine blk_alloc ?_ _)); refine blk_far ?_ NB207_208.out _; (with_reducible repeat (first | refine blk_drewN ?_ _ | refine blk_drew ?_ | refine blk_alloc ?_ _)); refine blk_far ?_ NB207_208.out _; (with_reducible repeat (first | refine blk_drewN ?_ _ | refine blk_drew ?_ | refine blk_alloc ?_ _)); refine blk_far ?_ NB207_208.out _; (with_reducible repeat (first | refine blk_drewN ?_ _ | refine blk_drew ?_ | refine blk_alloc ?_ _)); refine blk_far ?_ NB207_208.out _; (with_reducible repeat (first | refine blk_drewN ?_ _ | refine blk_drew ?_ | refine blk_alloc ?_ _)); refine blk_far ?_ NB207_208.out _; (with_reducible repeat (first | refine blk_drewN ?_ _ | refine blk_drew ?_ | refine blk_alloc ?_ _)); refine blk_far ?_ NB207_208.out _; (with_reducible repeat (first | refine blk_drewN ?_ _ | refine blk_drew ?_ | refine blk_alloc ?_ _)); refine blk_put (cs := #[.int .i64 t195, .int .i64 t196, .int .i64 t197, .int .i64 t198, .int .i64 t199, .int .i64 0]) ?_ 5 _ rfl; (with_reducible repeat (first | refine blk_drewN ?_ _ | refine blk_drew ?_ | refine blk_alloc ?_ _)); refine blk_put (cs := #[.int .i64 t195, .int .i64 t196, .int .i64 t197, .int .i64 t198, .int .i64 0, .int .i64 0]) ?_ 4 _ rfl; (with_reducible repeat (first | refine blk_drewN ?_ _ | refine blk_drew ?_ | refine blk_alloc ?_ _)); refine blk_put (cs := #[.int .i64 t195, .int .i64 t196, .int .i64 t197, .int .i64 0, .int .i64 0, .int .i64 0]) ?_ 3 _ rfl; (with_reducible repeat (first | refine blk_drewN ?_ _ | refine blk_drew ?_ | refine blk_alloc ?_ _)); refine blk_put (cs := #[.int .i64 t195, .int .i64 t196, .int .i64 0, .int .i64 0, .int .i64 0, .int .i64 0]) ?_ 2 _ rfl; (with_reducible repeat (first | refine blk_drewN ?_ _ | refine blk_drew ?_ | refine blk_alloc ?_ _)); refine blk_put (cs := #[.int .i64 t195, .int .i64 0, .int .i64 0, .int .i64 0, .int .i64 0, .int .i64 0]) ?_ 1 _ rfl; (with_reducible repeat (first | refine blk_drewN ?_ _ | refine blk_drew ?_ | refine blk_alloc ?_ _)); refine blk_put (cs := #[.int .i64 0, .int .i64 0, .int .i64 0, .int .i64 0, .int .i64 0, .int .i64 0]) ?_ 0 _ rfl; (with_reducible repeat (first | refine blk_drewN ?_ _ | refine blk_drew ?_ | refine blk_alloc ?_ _)); exact BK207.out⟩
     have n1_ : Aside0 (((((((((((((w53.setCell ⟨gb207, 0, none⟩ (.int .i64 t195)).setCell ⟨gb207, 1, none⟩ (.int .i64 t196)).setCell ⟨gb207, 2, none⟩ (.int .i64 t197)).setCell ⟨gb207, 3, none⟩ (.int .i64 t198)).setCell ⟨gb207, 4, none⟩ (.int .i64 t199)).setCell ⟨gb207, 5, none⟩ (.int .i64 t200)).setCell ⟨gb208, 0, none⟩ (.int .i64 t201)).setCell ⟨gb208, 1, none⟩ (.int .i64 t202)).setCell ⟨gb208, 2, none⟩ (.int .i64 t203)).setCell ⟨gb208, 3, none⟩ (.int .i64 t204)).setCell ⟨gb208, 4, none⟩ (.int .i64 t205)).setCell ⟨gb208, 5, none⟩ (.int .i64 t206)).heap[gb208]? = some (.cells #[.int .i64 t201, .int .i64 t202, .int .i64 t203, .int .i64 t204, .int .i64 t205, .int .i64 t206] 46 (0, 0))) := ⟨by (with_reducible repeat (first | refine blk_drewN ?_ _ | refine blk_drew ?_ | refine blk_alloc ?_ _)); refine blk_put (cs := #[.int .i64 t201, .int .i64 t202, .int .i64 t203, .int .i64 t204, .int .i64 t205, .int .i64 0]) ?_ 5 _ rfl; (with_reducible repeat (first | refine blk_drewN ?_ _ | refine blk_drew ?_ | refine blk_alloc ?_ _)); refine blk_put (cs := #[.int .i64 t201, .int .i64 t202, .int .i64 t203, .int .i64 t204, .int .i64 0, .int .i64 0]) ?_ 4 _ rfl; (with_reducible repeat (first | refine blk_drewN ?_ _ | refine blk_drew ?_ | refine blk_alloc ?_ _)); refine blk_put (cs := #[.int .i64 t201, .int .i64 t202, .int .i64 t203, .int .i64 0, .int .i64 0, .int .i64 0]) ?_ 3 _ rfl; (with_reducible repeat (first | refine blk_drewN ?_ _ | refine blk_drew ?_ | refine blk_alloc ?_ _)); refine blk_put (cs := #[.int .i64 t201, .int .i64 t202, .int .i64 0, .int .i64 0, .int .i64 0, .int .i64 0]) ?_ 2 _ rfl; (with_reducible repeat (first | refine blk_drewN ?_ _ | refine blk_drew ?_ | refine blk_alloc ?_ _)); refine blk_put (cs := #[.int .i64 t201, .int .i64 0, .int .i64 0, .int .i64 0, .int .i64 0, .int .i64 0]) ?_ 1 _ rfl; (with_reducible repeat (first | refine blk_drewN ?_ _ | refine blk_drew ?_ | refine blk_alloc ?_ _)); refine blk_put (cs := #[.int .i64 0, .int .i64 0, .int .i64 0, .int .i64 0, .int .i64 0, .int .i64 0]) ?_ 0 _ rfl; (with_reducible repeat (first | refine blk_drewN ?_ _ | refine blk_drew ?_ | refine blk_alloc ?_ _)); refine blk_far ?_ NB208_207.out _; (with_reducible repeat (first | refine blk_drewN ?_ _ | refine blk_drew ?_ | refine blk_alloc ?_ _)); refine blk_far ?_ NB208_207.out _; (with_reducible repeat (first | refine blk_drewN ?_ _ | refine blk_drew ?_ | refine blk_alloc ?_ _)); refine blk_far ?_ NB208_207.out _; (with_reducible repeat (first | refine blk_drewN ?_ _ | refine blk_drew ?_ | refine blk_alloc ?_ _)); refine blk_far ?_ NB208_207.out _; (with_reducible repeat (first | refine blk_drewN ?_ _ | refine blk_drew ?_ | refine blk_alloc ?_ _)); refine blk_far ?_ NB208_207.out _; (with_reducible repeat (first | refine blk_drewN ?_ _ | refine blk_drew ?_ | refine blk_alloc ?_ _)); refine blk_far ?_ NB208_207.out _; (with_reducible repeat (first | refine blk_drewN ?_ _ | refine blk_drew ?_ | refine blk_alloc ?_ _)); exact BK208.out⟩
     have n2_ : Aside0 (Below w.heap.size w ((((((((((((w53.setCell ⟨gb207, 0, none⟩ (.int .i64 t195)).setCell ⟨gb207, 1, none⟩ (.int .i64 t196)).setCell ⟨gb207, 2, none⟩ (.int .i64 t197)).setCell ⟨gb207, 3, none⟩ (.int .i64 t198)).setCell ⟨gb207, 4, none⟩ (.int .i64 t199)).setCell ⟨gb207, 5, none⟩ (.int .i64 t200)).setCell ⟨gb208, 0, none⟩ (.int .i64 t201)).setCell ⟨gb208, 1, none⟩ (.int .i64 t202)).setCell ⟨gb208, 2, none⟩ (.int .i64 t203)).setCell ⟨gb208, 3, none⟩ (.int .i64 t204)).setCell ⟨gb208, 4, none⟩ (.int .i64 t205)).setCell ⟨gb208, 5, none⟩ (.int .i64 t206))) := ⟨by repeat (first | (with_reducible first | exact HB.out | apply below_alloc | apply pw_below_drewN | apply below_drew1 | refine below_set ?_ GE207.out | refine below_set ?_ GE208.out) | exact HB.out)⟩
     (try clear BK207)
     (try clear BK208)
     (try clear HB)
     generalize ((((((((((((w53.setCell ⟨gb207, 0, none⟩ (.int .i64 t195)).setCell ⟨gb207, 1, none⟩ (.int .i64 t196)).setCell ⟨gb207, 2, none⟩ (.int .i64 t197)).setCell ⟨gb207, 3, none⟩ (.int .i64 t198)).setCell ⟨gb207, 4, none⟩ (.int .i64 t199)).setCell ⟨gb207, 5, none⟩ (.int .i64 t200)).setCell ⟨gb208, 0, none⟩ (.int .i64 t201)).setCell ⟨gb208, 1, none⟩ (.int .i64 t202)).setCell ⟨gb208, 2, none⟩ (.int .i64 t203)).setCell ⟨gb208, 3, none⟩ (.int .i64 t204)).setCell ⟨gb208, 4, none⟩ (.int .i64 t205)).setCell ⟨gb208, 5, none⟩ (.int .i64 t206)) = w57 at n0_ n1_ n2_ ⊢
     have BK207 := n0_
     have BK208 := n1_
     have HB := n2_
     clear n0_ n1_ n2_
     replace BK207 := Aside0.mk (blk_drew BK207.out)
     replace BK208 := Aside0.mk (blk_drew BK208.out)
     replace HB := Aside0.mk (below_drew1 HB.out)
     refine start_ (n := 33) (S := fun w' => w'.cell? ⟨gb207, 0, none⟩ = some (.int .i64 t195) ∧ w'.cell? ⟨gb207, 1, none⟩ = some (.int .i64 t196) ∧ w'.cell? ⟨gb207, 2, none⟩ = some (.int .i64 t197) ∧ w'.cell? ⟨gb207, 3, none⟩ = some (.int .i64 t198) ∧ w'.cell? ⟨gb207, 4, none⟩ = some (.int .i64 t199) ∧ w'.cell? ⟨gb207, 5, none⟩ = some (.int .i64 t200) ∧ w'.cell? ⟨gb208, 0, none⟩ = some (.int .i64 t201) ∧ w'.cell? ⟨gb208, 1, none⟩ = some (.int .i64 t202) ∧ w'.cell? ⟨gb208, 2, none⟩ = some (.int .i64 t203) ∧ w'.cell? ⟨gb208, 3, none⟩ = some (.int .i64 t204) ∧ w'.cell? ⟨gb208, 4, none⟩ = some (.int .i64 t205) ∧ w'.cell? ⟨gb208, 5, none⟩ = some (.int .i64 t206)) (ds := []) (fl 0 33) (by kernel_rfl) rfl rfl ⟨blk_cell BK207.out 0, blk_cell BK207.out 1, blk_cell BK207.out 2, blk_cell BK207.out 3, blk_cell BK207.out 4, blk_cell BK207.out 5, blk_cell BK208.out 0, blk_cell BK208.out 1, blk_cell BK208.out 2, blk_cell BK208.out 3, blk_cell BK208.out 4, blk_cell BK208.out 5⟩ (fun hHeld => ?_); refine with_tabW gazetteerlaw3_WeighImplied.tab7 gazetteerlaw3_WeighImplied.bits7 (fun HT_ HW_ => ?_)
     generalize w57.drew = w58 at BK207 BK208 HB hHeld ⊢
     refine pure_ (i := 0) (N := some 47) (v := ?_) (a' := ?_) (fl 1 32) rfl rfl (any_of HT_.out (by kernel_rfl)) (fun _ _ _ h => h) (Or.inl ⟨by rfl, ?_⟩) ?_ ?_
     rotate_left
     · intro w'
       go_simp
       with_reducible rfl
     rotate_left
     · simp only [Act.put, List.setIfInBounds_toArray, List.set_cons_zero, List.set_cons_succ, i64_w, i32_w]; rfl
     refine pure_ (i := 1) (N := some 48) (v := ?_) (a' := ?_) (fl 2 31) rfl rfl (any_of HT_.out (by kernel_rfl)) (fun _ _ _ h => h) (Or.inl ⟨by rfl, ?_⟩) ?_ ?_
     rotate_left
     · intro w'
       go_simp
       with_reducible rfl
     rotate_left
     · simp only [Act.put, List.setIfInBounds_toArray, List.set_cons_zero, List.set_cons_succ, i64_w, i32_w]; rfl
     refine pure_ (i := 2) (N := some 49) (v := ?_) (a' := ?_) (fl 3 30) rfl rfl (any_of HT_.out (by kernel_rfl)) (fun _ _ _ h => h) (Or.inl ⟨by rfl, ?_⟩) ?_ ?_
     rotate_left
     · intro w'
       go_simp
       with_reducible rfl
     rotate_left
     · simp only [Act.put, List.setIfInBounds_toArray, List.set_cons_zero, List.set_cons_succ, i64_w, i32_w]; rfl
     refine pure_ (i := 3) (N := some 50) (v := ?_) (a' := ?_) (fl 4 29) rfl rfl (any_of HT_.out (by kernel_rfl)) (fun _ _ _ h => h) (Or.inl ⟨by rfl, ?_⟩) ?_ ?_
     rotate_left
     · intro w'
       go_simp
       with_reducible rfl
     rotate_left
     · simp only [Act.put, List.setIfInBounds_toArray, List.set_cons_zero, List.set_cons_succ, i64_w, i32_w]; rfl
     refine pure_ (i := 4) (N := some 51) (v := ?_) (a' := ?_) (fl 5 28) rfl rfl (any_of HT_.out (by kernel_rfl)) (fun _ _ _ h => h) (Or.inl ⟨by rfl, ?_⟩) ?_ ?_
     rotate_left
     · intro w'
       go_simp
       with_reducible rfl
     rotate_left
     · simp only [Act.put, List.setIfInBounds_toArray, List.set_cons_zero, List.set_cons_succ, i64_w, i32_w]; rfl
     refine pure_ (i := 5) (N := some 52) (v := ?_) (a' := ?_) (fl 6 27) rfl rfl (any_of HT_.out (by kernel_rfl)) (fun _ _ _ h => h) (Or.inl ⟨by rfl, ?_⟩) ?_ ?_
     rotate_left
     · intro w'
       go_simp
       with_reducible rfl
     rotate_left
     · simp only [Act.put, List.setIfInBounds_toArray, List.set_cons_zero, List.set_cons_succ, i64_w, i32_w]; rfl
     refine pure_ (i := 9) (N := some 56) (v := ?_) (a' := ?_) #[true, true, true, true, true, true, false, false, false, true, false, false, false, false, false, false, false, false, false, false, false, false, false, false, false, false, false, false, false, false, false, false, false] rfl rfl (any_of HT_.out (by kernel_rfl)) (fun _ _ _ h => h) (Or.inl ⟨by rfl, ?_⟩) ?_ ?_
     rotate_left
     · intro w'
       go_simp
       with_reducible rfl
     rotate_left
     · simp only [Act.put, List.setIfInBounds_toArray, List.set_cons_zero, List.set_cons_succ, i64_w, i32_w]; rfl
     refine pure_ (i := 10) (N := some 57) (v := ?_) (a' := ?_) #[true, true, true, true, true, true, false, false, false, true, true, false, false, false, false, false, false, false, false, false, false, false, false, false, false, false, false, false, false, false, false, false, false] rfl rfl (any_of HT_.out (by kernel_rfl)) (fun _ _ _ h => h) (Or.inl ⟨by rfl, ?_⟩) ?_ ?_
     rotate_left
     · intro w'
       go_simp
       with_reducible rfl
     rotate_left
     · simp only [Act.put, List.setIfInBounds_toArray, List.set_cons_zero, List.set_cons_succ, i64_w, i32_w]; rfl
     refine pure_ (i := 11) (N := some 58) (v := ?_) (a' := ?_) #[true, true, true, true, true, true, false, false, false, true, true, true, false, false, false, false, false, false, false, false, false, false, false, false, false, false, false, false, false, false, false, false, false] rfl rfl (any_of HT_.out (by kernel_rfl)) (fun _ _ _ h => h) (Or.inl ⟨by rfl, ?_⟩) ?_ ?_
     rotate_left
     · intro w'
       go_simp
       with_reducible rfl
     rotate_left
     · simp only [Act.put, List.setIfInBounds_toArray, List.set_cons_zero, List.set_cons_succ, i64_w, i32_w]; rfl
     refine take_ (i := 6) (N := some 53) (v := ?_) (a' := ?_) #[true, true, true, true, true, true, true, false, false, true, true, true, false, false, false, false, false, false, false, false, false, false, false, false, false, false, false, false, false, false, false, false, false] rfl rfl (take_ofW HT_.out HW_.out (by kernel_rfl)) (fun _ _ _ h => h) (Or.inl ⟨by rfl, ?_⟩) hHeld ?_ ?_
     rotate_left
     · rintro w' ⟨s0, s1, s2, s3, s4, s5, s6, s7, s8, s9, s10, s11⟩; go_simp; with_reducible rfl
     rotate_left
     · simp only [Act.put, List.setIfInBounds_toArray, List.set_cons_zero, List.set_cons_succ, i64_w, i32_w]; rfl
     refine take_ (i := 7) (N := some 54) (v := ?_) (a' := ?_) #[true, true, true, true, true, true, true, true, false, true, true, true, false, false, false, false, false, false, false, false, false, false, false, false, false, false, false, false, false, false, false, false, false] rfl rfl (take_ofW HT_.out HW_.out (by kernel_rfl)) (fun _ _ _ h => h) (Or.inl ⟨by rfl, ?_⟩) hHeld ?_ ?_
     rotate_left
     · rintro w' ⟨s0, s1, s2, s3, s4, s5, s6, s7, s8, s9, s10, s11⟩; go_simp; with_reducible rfl
     rotate_left
     · simp only [Act.put, List.setIfInBounds_toArray, List.set_cons_zero, List.set_cons_succ, i64_w, i32_w]; rfl
     refine pure_ (i := 8) (N := some 55) (v := ?_) (a' := ?_) (fl 12 21) rfl rfl (any_of HT_.out (by kernel_rfl)) (fun _ _ _ h => h) (Or.inl ⟨by rfl, ?_⟩) ?_ ?_
     rotate_left
     · intro w'
       go_simp
       with_reducible rfl
     rotate_left
     · simp only [Act.put, List.setIfInBounds_toArray, List.set_cons_zero, List.set_cons_succ, i64_w, i32_w]; rfl
     refine pure_ (i := 12) (N := some 59) (v := ?_) (a' := ?_) (fl 13 20) rfl rfl (any_of HT_.out (by kernel_rfl)) (fun _ _ _ h => h) (Or.inl ⟨by rfl, ?_⟩) ?_ ?_
     rotate_left
     · intro w'
       go_simp
       with_reducible rfl
     rotate_left
     · simp only [Act.put, List.setIfInBounds_toArray, List.set_cons_zero, List.set_cons_succ, i64_w, i32_w]; rfl
     refine pure_ (i := 13) (N := some 60) (v := ?_) (a' := ?_) (fl 14 19) rfl rfl (any_of HT_.out (by kernel_rfl)) (fun _ _ _ h => h) (Or.inl ⟨by rfl, ?_⟩) ?_ ?_
     rotate_left
     · intro w'
       go_simp
       with_reducible rfl
     rotate_left
     · simp only [Act.put, List.setIfInBounds_toArray, List.set_cons_zero, List.set_cons_succ, i64_w, i32_w]; rfl
     refine pure_ (i := 14) (N := some 61) (v := ?_) (a' := ?_) (fl 15 18) rfl rfl (any_of HT_.out (by kernel_rfl)) (fun _ _ _ h => h) (Or.inl ⟨by rfl, ?_⟩) ?_ ?_
     rotate_left
     · intro w'
       go_simp
       with_reducible rfl
     rotate_left
     · simp only [Act.put, List.setIfInBounds_toArray, List.set_cons_zero, List.set_cons_succ, i64_w, i32_w]; rfl
     refine pure_ (i := 16) (N := some 63) (v := ?_) (a' := ?_) #[true, true, true, true, true, true, true, true, true, true, true, true, true, true, true, false, true, false, false, false, false, false, false, false, false, false, false, false, false, false, false, false, false] rfl rfl (any_of HT_.out (by kernel_rfl)) (fun _ _ _ h => h) (Or.inl ⟨by rfl, ?_⟩) ?_ ?_
     rotate_left
     · intro w'
       go_simp
       with_reducible rfl
     rotate_left
     · simp only [Act.put, List.setIfInBounds_toArray, List.set_cons_zero, List.set_cons_succ, i64_w, i32_w]; rfl
     refine take_ (i := 15) (N := some 62) (v := ?_) (a' := ?_) (fl 17 16) rfl rfl (take_ofW HT_.out HW_.out (by kernel_rfl)) (fun _ _ _ h => h) (Or.inl ⟨by rfl, ?_⟩) hHeld ?_ ?_
     rotate_left
     · rintro w' ⟨s0, s1, s2, s3, s4, s5, s6, s7, s8, s9, s10, s11⟩; go_simp; with_reducible rfl
     rotate_left
     · simp only [Act.put, List.setIfInBounds_toArray, List.set_cons_zero, List.set_cons_succ, i64_w, i32_w]; rfl
     refine one_ (i := 17) (N := some 64) (fl 18 15) rfl rfl (one_of HT_.out (by kernel_rfl)) (by decide) (fun K hK => ?_)
     refine goes_ Try.func21 (by kernel_rfl) rfl #[.int .i32 a0] (by rfl) rfl rfl (by (try simp only [List.map_toArray, List.map_cons, List.map_nil]); first | done | rfl | (simp only [List.length_drop, List.length_take]; done) | (simp only [List.length_drop, List.length_take]; rfl)) ?_
     with_reducible refine (gazetteerref1_Implied.calls a0 t221 t222 t223 t224 t225 t226 _ A47.out).mono ?_
     rintro e w59 ⟨rfl, hb⟩
     refine ⟨_, rfl, ?_⟩
     replace BK207 := Aside0.mk (blk_below (pb BK207.out) hb)
     replace BK208 := Aside0.mk (blk_below (pb BK208.out) hb)
     replace HB := Aside0.mk (below_step (pB HB.out) hb)
     (try clear hb)
     (try clear hb2)
     (try clear hk)
     (try clear hi)
     refine hK.out _ _ ⟨blk_cell BK207.out 0, blk_cell BK207.out 1, blk_cell BK207.out 2, blk_cell BK207.out 3, blk_cell BK207.out 4, blk_cell BK207.out 5, blk_cell BK208.out 0, blk_cell BK208.out 1, blk_cell BK208.out 2, blk_cell BK208.out 3, blk_cell BK208.out 4, blk_cell BK208.out 5⟩ (fun hHeld => ?_)
     clear hK K
     refine norm_ (a' := ?_) ?_ ?_
     rotate_left
     · show Act.put _ (some 64) _ = _; simp only [Act.put, List.setIfInBounds_toArray, List.set_cons_zero, List.set_cons_succ, i64_w, i32_w]; rfl
     refine pure_ (i := 18) (N := some 65) (v := ?_) (a' := ?_) (fl 19 14) rfl rfl (any_of HT_.out (by kernel_rfl)) (fun _ _ _ h => h) (Or.inl ⟨by rfl, ?_⟩) ?_ ?_
     rotate_left
     · intro w'
       go_simp
       with_reducible rfl
     rotate_left
     · simp only [Act.put, List.setIfInBounds_toArray, List.set_cons_zero, List.set_cons_succ, i64_w, i32_w]; rfl
     refine pure_ (i := 19) (N := some 66) (v := ?_) (a' := ?_) (fl 20 13) rfl rfl (any_of HT_.out (by kernel_rfl)) (fun _ _ _ h => h) (Or.inl ⟨by rfl, ?_⟩) ?_ ?_
     rotate_left
     · intro w'
       go_simp
       with_reducible rfl
     rotate_left
     · simp only [Act.put, List.setIfInBounds_toArray, List.set_cons_zero, List.set_cons_succ, i64_w, i32_w]; rfl
     refine pure_ (i := 20) (N := some 67) (v := ?_) (a' := ?_) (fl 21 12) rfl rfl (any_of HT_.out (by kernel_rfl)) (fun _ _ _ h => h) (Or.inl ⟨by rfl, ?_⟩) ?_ ?_
     rotate_left
     · intro w'
       go_simp
       with_reducible rfl
     rotate_left
     · simp only [Act.put, List.setIfInBounds_toArray, List.set_cons_zero, List.set_cons_succ, i64_w, i32_w]; rfl
     refine pure_ (i := 21) (N := some 68) (v := ?_) (a' := ?_) (fl 22 11) rfl rfl (any_of HT_.out (by kernel_rfl)) (fun _ _ _ h => h) (Or.inl ⟨by rfl, ?_⟩) ?_ ?_
     rotate_left
     · intro w'
       go_simp
       with_reducible rfl
     rotate_left
     · simp only [Act.put, List.setIfInBounds_toArray, List.set_cons_zero, List.set_cons_succ, i64_w, i32_w]; rfl
     refine pure_ (i := 22) (N := some 69) (v := ?_) (a' := ?_) (fl 23 10) rfl rfl (any_of HT_.out (by kernel_rfl)) (fun _ _ _ h => h) (Or.inl ⟨by rfl, ?_⟩) ?_ ?_
     rotate_left
     · intro w'
       go_simp
       with_reducible rfl
     rotate_left
     · simp only [Act.put, List.setIfInBounds_toArray, List.set_cons_zero, List.set_cons_succ, i64_w, i32_w]; rfl
     refine take_ (i := 23) (N := some 70) (v := ?_) (a' := ?_) (fl 24 9) rfl rfl (take_ofW HT_.out HW_.out (by kernel_rfl)) (fun _ _ _ h => h) (Or.inl ⟨by rfl, ?_⟩) hHeld ?_ ?_
     rotate_left
     · rintro w' ⟨s0, s1, s2, s3, s4, s5, s6, s7, s8, s9, s10, s11⟩; go_simp; with_reducible rfl
     rotate_left
     · simp only [Act.put, List.setIfInBounds_toArray, List.set_cons_zero, List.set_cons_succ, i64_w, i32_w]; rfl
     refine pure_ (i := 24) (N := some 71) (v := ?_) (a' := ?_) (fl 25 8) rfl rfl (any_of HT_.out (by kernel_rfl)) (fun _ _ _ h => h) (Or.inl ⟨by rfl, ?_⟩) ?_ ?_
     rotate_left
     · intro w'
       go_simp
       with_reducible rfl
     rotate_left
     · simp only [Act.put, List.setIfInBounds_toArray, List.set_cons_zero, List.set_cons_succ, i64_w, i32_w]; rfl
     refine pure_ (i := 25) (N := some 72) (v := ?_) (a' := ?_) (fl 26 7) rfl rfl (any_of HT_.out (by kernel_rfl)) (fun _ _ _ h => h) (Or.inl ⟨by rfl, ?_⟩) ?_ ?_
     rotate_left
     · intro w'
       go_simp
       with_reducible rfl
     rotate_left
     · simp only [Act.put, List.setIfInBounds_toArray, List.set_cons_zero, List.set_cons_succ, i64_w, i32_w]; rfl
     refine pure_ (i := 26) (N := some 73) (v := ?_) (a' := ?_) (fl 27 6) rfl rfl (any_of HT_.out (by kernel_rfl)) (fun _ _ _ h => h) (Or.inl ⟨by rfl, ?_⟩) ?_ ?_
     rotate_left
     · intro w'
       go_simp
       with_reducible rfl
     rotate_left
     · simp only [Act.put, List.setIfInBounds_toArray, List.set_cons_zero, List.set_cons_succ, i64_w, i32_w]; rfl
     refine pure_ (i := 27) (N := some 74) (v := ?_) (a' := ?_) (fl 28 5) rfl rfl (any_of HT_.out (by kernel_rfl)) (fun _ _ _ h => h) (Or.inl ⟨by rfl, ?_⟩) ?_ ?_
     rotate_left
     · intro w'
       go_simp
       with_reducible rfl
     rotate_left
     · simp only [Act.put, List.setIfInBounds_toArray, List.set_cons_zero, List.set_cons_succ, i64_w, i32_w]; rfl
     refine pure_ (i := 28) (N := some 75) (v := ?_) (a' := ?_) (fl 29 4) rfl rfl (any_of HT_.out (by kernel_rfl)) (fun _ _ _ h => h) (Or.inl ⟨by rfl, ?_⟩) ?_ ?_
     rotate_left
     · intro w'
       go_simp
       with_reducible rfl
     rotate_left
     · simp only [Act.put, List.setIfInBounds_toArray, List.set_cons_zero, List.set_cons_succ, i64_w, i32_w]; rfl
     refine take_ (i := 29) (N := some 76) (v := ?_) (a' := ?_) (fl 30 3) rfl rfl (take_ofW HT_.out HW_.out (by kernel_rfl)) (fun _ _ _ h => h) (Or.inl ⟨by rfl, ?_⟩) hHeld ?_ ?_
     rotate_left
     · rintro w' ⟨s0, s1, s2, s3, s4, s5, s6, s7, s8, s9, s10, s11⟩; go_simp; with_reducible rfl
     rotate_left
     · simp only [Act.put, List.setIfInBounds_toArray, List.set_cons_zero, List.set_cons_succ, i64_w, i32_w]; rfl
     refine pure_ (i := 30) (N := some 77) (v := ?_) (a' := ?_) (fl 31 2) rfl rfl (any_of HT_.out (by kernel_rfl)) (fun _ _ _ h => h) (Or.inl ⟨by rfl, ?_⟩) ?_ ?_
     rotate_left
     · intro w'
       go_simp
       with_reducible rfl
     rotate_left
     · simp only [Act.put, List.setIfInBounds_toArray, List.set_cons_zero, List.set_cons_succ, i64_w, i32_w]; rfl
     refine pure_ (i := 31) (N := some 78) (v := ?_) (a' := ?_) (fl 32 1) rfl rfl (any_of HT_.out (by kernel_rfl)) (fun _ _ _ h => h) (Or.inl ⟨by rfl, ?_⟩) ?_ ?_
     rotate_left
     · intro w'
       go_simp
       with_reducible rfl
     rotate_left
     · simp only [Act.put, List.setIfInBounds_toArray, List.set_cons_zero, List.set_cons_succ, i64_w, i32_w]; rfl
     refine pure_ (i := 32) (N := some 4) (v := ?_) (a' := ?_) (fl 33 0) rfl rfl (any_of HT_.out (by kernel_rfl)) (fun _ _ _ h => h) (Or.inl ⟨by rfl, ?_⟩) ?_ ?_
     rotate_left
     · intro w'
       go_simp
       with_reducible rfl
     rotate_left
     · simp only [Act.put, List.setIfInBounds_toArray, List.set_cons_zero, List.set_cons_succ, i64_w, i32_w]; rfl
     refine done_ (done_of HT_.out (by kernel_rfl)) ?_
     try go_wp2
     go_ret
     exact ⟨by first | rfl | (simp [errW_none, errW_some] <;> rfl) | (simp [*, errW_none, errW_some] <;> rfl), by repeat (first | (with_reducible first | exact HB.out | apply below_alloc | apply pw_below_drewN | apply below_drew1 | refine below_set ?_ GE207.out | refine below_set ?_ GE208.out) | exact HB.out)⟩
    rw [if_pos c29] at H
    have c29b0 : (t195 == t201) = true := beq_iff_eq.mpr c29
    have c29b1 : (t195 != t201) = false := bne_eq_false_iff_eq.mpr c29
    clear c29
    by_cases c30 : ((decide (t198 < t204)) == (decide (a0 < a1))) = true
    rotate_left
    · rw [if_neg c30] at H
      have c30b0 : ((decide (t198 < t204)) == (decide (a0 < a1))) = false := by simpa using c30
      (try (have c30b1 : decide ((decide (t198 < t204)) = (decide (a0 < a1))) = false := by simpa using c30))
      (try (have c30b2 : ((decide (t198 < t204)) == (decide (a0 < a1))) = false := by simpa using c30))
      (try (have c30b3 : ¬ ((decide (t198 < t204)) = (decide (a0 < a1))) := by simpa using c30))
      clear c30
      exact absurd H (by rw [HLT.out]; repeat' first | (with_reducible exact dead_none) | (with_reducible exact dead_false) | (with_reducible refine dead_ite ?_ ?_) | (with_reducible refine dead_bind (fun _ => ?_)) | (refine dead_ite ?_ ?_) | (refine dead_bind (fun _ => ?_)) | (simp; done))
    rw [if_pos c30] at H
    have c30b0 : ((decide (t198 < t204)) == (decide (a0 < a1))) = true := c30
    (try (have c30b1 : decide ((decide (t198 < t204)) = (decide (a0 < a1))) = true := by simpa using c30))
    (try (have c30b2 : ((decide (t198 < t204)) == (decide (a0 < a1))) = true := by simpa using c30))
    clear c30
    by_cases c31 : (((t195 == t201 && (t196 == t202 && (t197 == t203))) && ((t198 == t204 && (t199 == t205 && (t200 == t206))))) == (a0 == a1)) = true
    rotate_left
    ·
     rw [if_neg c31] at H
     have c31b0 : (((t195 == t201 && (t196 == t202 && (t197 == t203))) && ((t198 == t204 && (t199 == t205 && (t200 == t206))))) == (a0 == a1)) = false := by simpa using c31
     (try (have c31b7 := c31b0; simp only [c29b0, Bool.true_and] at c31b7))
     (try (have c31b1 : decide (((t195 == t201 && (t196 == t202 && (t197 == t203))) && ((t198 == t204 && (t199 == t205 && (t200 == t206))))) = (a0 == a1)) = false := by simpa using c31))
     (try (have c31b2 : (((t195 == t201 && (t196 == t202 && (t197 == t203))) && ((t198 == t204 && (t199 == t205 && (t200 == t206))))) == (a0 == a1)) = false := by simpa using c31))
     (try (have c31b3 : ¬ (((t195 == t201 && (t196 == t202 && (t197 == t203))) && ((t198 == t204 && (t199 == t205 && (t200 == t206))))) = (a0 == a1)) := by simpa using c31))
     clear c31
     exact absurd H (by rw [HLT.out]; repeat' first | (with_reducible exact dead_none) | (with_reducible exact dead_false) | (with_reducible refine dead_ite ?_ ?_) | (with_reducible refine dead_bind (fun _ => ?_)) | (refine dead_ite ?_ ?_) | (refine dead_bind (fun _ => ?_)) | (simp; done))
    rw [if_pos c31] at H
    have c31b0 : (((t195 == t201 && (t196 == t202 && (t197 == t203))) && ((t198 == t204 && (t199 == t205 && (t200 == t206))))) == (a0 == a1)) = true := c31
    (try (have c31b7 := c31b0; simp only [c29b0, Bool.true_and] at c31b7))
    (try (have c31b8 : (a0 == a1) = false := by simpa [c29b0] using c31b0))
    (try (have c31b1 : decide (((t195 == t201 && (t196 == t202 && (t197 == t203))) && ((t198 == t204 && (t199 == t205 && (t200 == t206))))) = (a0 == a1)) = true := by simpa using c31))
    (try (have c31b2 : (((t195 == t201 && (t196 == t202 && (t197 == t203))) && ((t198 == t204 && (t199 == t205 && (t200 == t206))))) == (a0 == a1)) = true := by simpa using c31))
    clear c31
    replace H := Option.bind_eq_some_iff.mp H
    obtain ⟨⟨t215, t216, t217, t218, t219, t220⟩, A320, H⟩ := H
    replace H : (if ((t195 == t215 && (t196 == t216 && (t197 == t217))) && ((t198 == t218 && (t199 == t219 && (t200 == t220))))) = true then (if t195 ≤ 65535 then (some (decide (t198 > 60000))) else (some false)) else (some false)) = some r := H
    have A32 := Aside0.mk A320
    clear A320
    by_cases c33 : ((t195 == t215 && (t196 == t216 && (t197 == t217))) && ((t198 == t218 && (t199 == t219 && (t200 == t220))))) = true
    rotate_left
    · rw [if_neg c33] at H
      have c33b0 : ((t195 == t215 && (t196 == t216 && (t197 == t217))) && ((t198 == t218 && (t199 == t219 && (t200 == t220))))) = false := by simpa using c33
      clear c33
      exact absurd H (by rw [HLT.out]; repeat' first | (with_reducible exact dead_none) | (with_reducible exact dead_false) | (with_reducible refine dead_ite ?_ ?_) | (with_reducible refine dead_bind (fun _ => ?_)) | (refine dead_ite ?_ ?_) | (refine dead_bind (fun _ => ?_)) | (simp; done))
    rw [if_pos c33] at H
    have c33b0 : ((t195 == t215 && (t196 == t216 && (t197 == t217))) && ((t198 == t218 && (t199 == t219 && (t200 == t220))))) = true := c33
    clear c33
    by_cases c34 : t195 ≤ 65535
    rotate_left
    · rw [if_neg c34] at H
      have c34b0 : decide (t195 ≤ 65535) = false := decide_eq_false c34
      clear c34
      exact absurd H (by rw [HLT.out]; repeat' first | (with_reducible exact dead_none) | (with_reducible exact dead_false) | (with_reducible refine dead_ite ?_ ?_) | (with_reducible refine dead_bind (fun _ => ?_)) | (refine dead_ite ?_ ?_) | (refine dead_bind (fun _ => ?_)) | (simp; done))
    rw [if_pos c34] at H
    have c34b0 : decide (t195 ≤ 65535) = true := decide_eq_true c34
    clear c34
    obtain rfl := Option.some.inj H
    try go_wp2_with (first | ((with_reducible refine gate_callee (f := 18) rfl ?_); refine goesL_ (some 19) rfl rfl Try.func18 (by kernel_rfl) rfl #[.int .i32 a0] rfl (by (try simp only [List.map_toArray, List.map_cons, List.map_nil]); first | done | rfl | (simp only [List.length_drop, List.length_take]; done) | (simp only [List.length_drop, List.length_take]; rfl)) ?_; (with_reducible refine (weigh_Implied.calls a0 t195 t196 t197 t198 t199 t200 _ A11.out).mono ?_); rintro e w35 ⟨rfl, hb⟩; refine ⟨_, rfl, ?_⟩; replace HB := Aside0.mk (below_step (pB HB.out) hb); (try clear hb); (try clear hb2); (try clear hk); (try clear hi)) | ((with_reducible refine gate_callee (f := 18) rfl ?_); refine goesL_ (some 21) rfl rfl Try.func18 (by kernel_rfl) rfl #[.int .i32 a1] rfl (by (try simp only [List.map_toArray, List.map_cons, List.map_nil]); first | done | rfl | (simp only [List.length_drop, List.length_take]; done) | (simp only [List.length_drop, List.length_take]; rfl)) ?_; (with_reducible refine (weigh_Implied.calls a1 t201 t202 t203 t204 t205 t206 _ A12.out).mono ?_); rintro e w36 ⟨rfl, hb⟩; refine ⟨_, rfl, ?_⟩; replace HB := Aside0.mk (below_step (pB HB.out) hb); (try clear hb); (try clear hb2); (try clear hk); (try clear hi)) | ((with_reducible refine gate_dst (N := 5) rfl ?_); refine box_event ?hg (N := 5) ?hd (cs := #[.int .i64 0, .int .i64 0, .int .i64 0, .int .i64 0, .int .i64 0, .int .i64 0]) (t := 46) ?hr ?_; (case hd => rfl); (case hg => rfl); (case hr => first | (go_simp; done) | (go_simp; rfl)); intro gb207 hg w37 hbox hb; have BK207 := Aside0.mk (hbox); have GW207 := geL hg HB.out; have GE207 := geL hg HB.out; replace HB := Aside0.mk (below_step (pB HB.out) hb); clear hb hbox hg) | ((with_reducible refine gate_dst (N := 6) rfl ?_); refine box_event ?hg (N := 6) ?hd (cs := #[.int .i64 0, .int .i64 0, .int .i64 0, .int .i64 0, .int .i64 0, .int .i64 0]) (t := 46) ?hr ?_; (case hd => rfl); (case hg => rfl); (case hr => first | (go_simp; done) | (go_simp; rfl)); intro gb208 hg w38 hbox hb; have BK208 := Aside0.mk (hbox); have GW208 := geL hg HB.out; have GE208 := geL hg HB.out; have NB207_208 := neL hg BK207.out; have NB208_207 := neG hg BK207.out; replace BK207 := Aside0.mk (blk_below (pb BK207.out) hb); replace HB := Aside0.mk (below_step (pB HB.out) hb); clear hb hbox hg; have hnb39 := NB207_208.out; have hnc39 := NB208_207.out; have hcz40_0 : w38.cell? ⟨gb207, 0, none⟩ = some (.int .i64 0) := blk_cell BK207.out 0; have hcz40_1 : w38.cell? ⟨gb207, 1, none⟩ = some (.int .i64 0) := blk_cell BK207.out 1; have hcz40_2 : w38.cell? ⟨gb207, 2, none⟩ = some (.int .i64 0) := blk_cell BK207.out 2; have hcz40_3 : w38.cell? ⟨gb207, 3, none⟩ = some (.int .i64 0) := blk_cell BK207.out 3; have hcz40_4 : w38.cell? ⟨gb207, 4, none⟩ = some (.int .i64 0) := blk_cell BK207.out 4; have hcz40_5 : w38.cell? ⟨gb207, 5, none⟩ = some (.int .i64 0) := blk_cell BK207.out 5; have hfz40_0 := blk_frozen BK207.out 0; have hfz40_1 := blk_frozen BK207.out 1; have hfz40_2 := blk_frozen BK207.out 2; have hfz40_3 := blk_frozen BK207.out 3; have hfz40_4 := blk_frozen BK207.out 4; have hfz40_5 := blk_frozen BK207.out 5; have hcz41_0 : w38.cell? ⟨gb208, 0, none⟩ = some (.int .i64 0) := blk_cell BK208.out 0; have hcz41_1 : w38.cell? ⟨gb208, 1, none⟩ = some (.int .i64 0) := blk_cell BK208.out 1; have hcz41_2 : w38.cell? ⟨gb208, 2, none⟩ = some (.int .i64 0) := blk_cell BK208.out 2; have hcz41_3 : w38.cell? ⟨gb208, 3, none⟩ = some (.int .i64 0) := blk_cell BK208.out 3; have hcz41_4 : w38.cell? ⟨gb208, 4, none⟩ = some (.int .i64 0) := blk_cell BK208.out 4; have hcz41_5 : w38.cell? ⟨gb208, 5, none⟩ = some (.int .i64 0) := blk_cell BK208.out 5; have hfz41_0 := blk_frozen BK208.out 0; have hfz41_1 := blk_frozen BK208.out 1; have hfz41_2 := blk_frozen BK208.out 2; have hfz41_3 := blk_frozen BK208.out 3; have hfz41_4 := blk_frozen BK208.out 4; have hfz41_5 := blk_frozen BK208.out 5))
    have n0_ : Aside0 (((((((((((((w38.setCell ⟨gb207, 0, none⟩ (.int .i64 t195)).setCell ⟨gb207, 1, none⟩ (.int .i64 t196)).setCell ⟨gb207, 2, none⟩ (.int .i64 t197)).setCell ⟨gb207, 3, none⟩ (.int .i64 t198)).setCell ⟨gb207, 4, none⟩ (.int .i64 t199)).setCell ⟨gb207, 5, none⟩ (.int .i64 t200)).setCell ⟨gb208, 0, none⟩ (.int .i64 t201)).setCell ⟨gb208, 1, none⟩ (.int .i64 t202)).setCell ⟨gb208, 2, none⟩ (.int .i64 t203)).setCell ⟨gb208, 3, none⟩ (.int .i64 t204)).setCell ⟨gb208, 4, none⟩ (.int .i64 t205)).setCell ⟨gb208, 5, none⟩ (.int .i64 t206)).heap[gb207]? = some (.cells #[.int .i64 t195, .int .i64 t196, .int .i64 t197, .int .i64 t198, .int .i64 t199, .int .i64 t200] 46 (0, 0))) := ⟨by (with_reducible repeat (first | refine blk_drewN ?_ _ | refine blk_drew ?_ | refine blk_alloc ?_ _)); refine blk_far ?_ NB207_208.out _; (with_reducible repeat (first | refine blk_drewN ?_ _ | refine blk_drew ?_ | refine blk_alloc ?_ _)); refine blk_far ?_ NB207_208.out _; (with_reducible repeat (first | refine blk_drewN ?_ _ | refine blk_drew ?_ | refine blk_alloc ?_ _)); refine blk_far ?_ NB207_208.out _; (with_reducible repeat (first | refine blk_drewN ?_ _ | refine blk_drew ?_ | refine blk_alloc ?_ _)); refine blk_far ?_ NB207_208.out _; (with_reducible repeat (first | refine blk_drewN ?_ _ | refine blk_drew ?_ | refine blk_alloc ?_ _)); refine blk_far ?_ NB207_208.out _; (with_reducible repeat (first | refine blk_drewN ?_ _ | refine blk_drew ?_ | refine blk_alloc ?_ _)); refine blk_far ?_ NB207_208.out _; (with_reducible repeat (first | refine blk_drewN ?_ _ | refine blk_drew ?_ | refine blk_alloc ?_ _)); refine blk_put (cs := #[.int .i64 t195, .int .i64 t196, .int .i64 t197, .int .i64 t198, .int .i64 t199, .int .i64 0]) ?_ 5 _ rfl; (with_reducible repeat (first | refine blk_drewN ?_ _ | refine blk_drew ?_ | refine blk_alloc ?_ _)); refine blk_put (cs := #[.int .i64 t195, .int .i64 t196, .int .i64 t197, .int .i64 t198, .int .i64 0, .int .i64 0]) ?_ 4 _ rfl; (with_reducible repeat (first | refine blk_drewN ?_ _ | refine blk_drew ?_ | refine blk_alloc ?_ _)); refine blk_put (cs := #[.int .i64 t195, .int .i64 t196, .int .i64 t197, .int .i64 0, .int .i64 0, .int .i64 0]) ?_ 3 _ rfl; (with_reducible repeat (first | refine blk_drewN ?_ _ | refine blk_drew ?_ | refine blk_alloc ?_ _)); refine blk_put (cs := #[.int .i64 t195, .int .i64 t196, .int .i64 0, .int .i64 0, .int .i64 0, .int .i64 0]) ?_ 2 _ rfl; (with_reducible repeat (first | refine blk_drewN ?_ _ | refine blk_drew ?_ | refine blk_alloc ?_ _)); refine blk_put (cs := #[.int .i64 t195, .int .i64 0, .int .i64 0, .int .i64 0, .int .i64 0, .int .i64 0]) ?_ 1 _ rfl; (with_reducible repeat (first | refine blk_drewN ?_ _ | refine blk_drew ?_ | refine blk_alloc ?_ _)); refine blk_put (cs := #[.int .i64 0, .int .i64 0, .int .i64 0, .int .i64 0, .int .i64 0, .int .i64 0]) ?_ 0 _ rfl; (with_reducible repeat (first | refine blk_drewN ?_ _ | refine blk_drew ?_ | refine blk_alloc ?_ _)); exact BK207.out⟩
    have n1_ : Aside0 (((((((((((((w38.setCell ⟨gb207, 0, none⟩ (.int .i64 t195)).setCell ⟨gb207, 1, none⟩ (.int .i64 t196)).setCell ⟨gb207, 2, none⟩ (.int .i64 t197)).setCell ⟨gb207, 3, none⟩ (.int .i64 t198)).setCell ⟨gb207, 4, none⟩ (.int .i64 t199)).setCell ⟨gb207, 5, none⟩ (.int .i64 t200)).setCell ⟨gb208, 0, none⟩ (.int .i64 t201)).setCell ⟨gb208, 1, none⟩ (.int .i64 t202)).setCell ⟨gb208, 2, none⟩ (.int .i64 t203)).setCell ⟨gb208, 3, none⟩ (.int .i64 t204)).setCell ⟨gb208, 4, none⟩ (.int .i64 t205)).setCell ⟨gb208, 5, none⟩ (.int .i64 t206)).heap[gb208]? = some (.cells #[.int .i64 t201, .int .i64 t202, .int .i64 t203, .int .i64 t204, .int .i64 t205, .int .i64 t206] 46 (0, 0))) := ⟨by (with_reducible repeat (first | refine blk_drewN ?_ _ | refine blk_drew ?_ | refine blk_alloc ?_ _)); refine blk_put (cs := #[.int .i64 t201, .int .i64 t202, .int .i64 t203, .int .i64 t204, .int .i64 t205, .int .i64 0]) ?_ 5 _ rfl; (with_reducible repeat (first | refine blk_drewN ?_ _ | refine blk_drew ?_ | refine blk_alloc ?_ _)); refine blk_put (cs := #[.int .i64 t201, .int .i64 t202, .int .i64 t203, .int .i64 t204, .int .i64 0, .int .i64 0]) ?_ 4 _ rfl; (with_reducible repeat (first | refine blk_drewN ?_ _ | refine blk_drew ?_ | refine blk_alloc ?_ _)); refine blk_put (cs := #[.int .i64 t201, .int .i64 t202, .int .i64 t203, .int .i64 0, .int .i64 0, .int .i64 0]) ?_ 3 _ rfl; (with_reducible repeat (first | refine blk_drewN ?_ _ | refine blk_drew ?_ | refine blk_alloc ?_ _)); refine blk_put (cs := #[.int .i64 t201, .int .i64 t202, .int .i64 0, .int .i64 0, .int .i64 0, .int .i64 0]) ?_ 2 _ rfl; (with_reducible repeat (first | refine blk_drewN ?_ _ | refine blk_drew ?_ | refine blk_alloc ?_ _)); refine blk_put (cs := #[.int .i64 t201, .int .i64 0, .int .i64 0, .int .i64 0, .int .i64 0, .int .i64 0]) ?_ 1 _ rfl; (with_reducible repeat (first | refine blk_drewN ?_ _ | refine blk_drew ?_ | refine blk_alloc ?_ _)); refine blk_put (cs := #[.int .i64 0, .int .i64 0, .int .i64 0, .int .i64 0, .int .i64 0, .int .i64 0]) ?_ 0 _ rfl; (with_reducible repeat (first | refine blk_drewN ?_ _ | refine blk_drew ?_ | refine blk_alloc ?_ _)); refine blk_far ?_ NB208_207.out _; (with_reducible repeat (first | refine blk_drewN ?_ _ | refine blk_drew ?_ | refine blk_alloc ?_ _)); refine blk_far ?_ NB208_207.out _; (with_reducible repeat (first | refine blk_drewN ?_ _ | refine blk_drew ?_ | refine blk_alloc ?_ _)); refine blk_far ?_ NB208_207.out _; (with_reducible repeat (first | refine blk_drewN ?_ _ | refine blk_drew ?_ | refine blk_alloc ?_ _)); refine blk_far ?_ NB208_207.out _; (with_reducible repeat (first | refine blk_drewN ?_ _ | refine blk_drew ?_ | refine blk_alloc ?_ _)); refine blk_far ?_ NB208_207.out _; (with_reducible repeat (first | refine blk_drewN ?_ _ | refine blk_drew ?_ | refine blk_alloc ?_ _)); refine blk_far ?_ NB208_207.out _; (with_reducible repeat (first | refine blk_drewN ?_ _ | refine blk_drew ?_ | refine blk_alloc ?_ _)); exact BK208.out⟩
    have n2_ : Aside0 (Below w.heap.size w ((((((((((((w38.setCell ⟨gb207, 0, none⟩ (.int .i64 t195)).setCell ⟨gb207, 1, none⟩ (.int .i64 t196)).setCell ⟨gb207, 2, none⟩ (.int .i64 t197)).setCell ⟨gb207, 3, none⟩ (.int .i64 t198)).setCell ⟨gb207, 4, none⟩ (.int .i64 t199)).setCell ⟨gb207, 5, none⟩ (.int .i64 t200)).setCell ⟨gb208, 0, none⟩ (.int .i64 t201)).setCell ⟨gb208, 1, none⟩ (.int .i64 t202)).setCell ⟨gb208, 2, none⟩ (.int .i64 t203)).setCell ⟨gb208, 3, none⟩ (.int .i64 t204)).setCell ⟨gb208, 4, none⟩ (.int .i64 t205)).setCell ⟨gb208, 5, none⟩ (.int .i64 t206))) := ⟨by repeat (first | (with_reducible first | exact HB.out | apply below_alloc | apply pw_below_drewN | apply below_drew1 | refine below_set ?_ GE207.out | refine below_set ?_ GE208.out) | exact HB.out)⟩
    (try clear BK207)
    (try clear BK208)
    (try clear HB)
    generalize ((((((((((((w38.setCell ⟨gb207, 0, none⟩ (.int .i64 t195)).setCell ⟨gb207, 1, none⟩ (.int .i64 t196)).setCell ⟨gb207, 2, none⟩ (.int .i64 t197)).setCell ⟨gb207, 3, none⟩ (.int .i64 t198)).setCell ⟨gb207, 4, none⟩ (.int .i64 t199)).setCell ⟨gb207, 5, none⟩ (.int .i64 t200)).setCell ⟨gb208, 0, none⟩ (.int .i64 t201)).setCell ⟨gb208, 1, none⟩ (.int .i64 t202)).setCell ⟨gb208, 2, none⟩ (.int .i64 t203)).setCell ⟨gb208, 3, none⟩ (.int .i64 t204)).setCell ⟨gb208, 4, none⟩ (.int .i64 t205)).setCell ⟨gb208, 5, none⟩ (.int .i64 t206)) = w42 at n0_ n1_ n2_ ⊢
    have BK207 := n0_
    have BK208 := n1_
    have HB := n2_
    clear n0_ n1_ n2_
    replace BK207 := Aside0.mk (blk_drew BK207.out)
    replace BK208 := Aside0.mk (blk_drew BK208.out)
    replace HB := Aside0.mk (below_drew1 HB.out)
    refine start_ (n := 33) (S := fun w' => w'.cell? ⟨gb207, 0, none⟩ = some (.int .i64 t195) ∧ w'.cell? ⟨gb207, 1, none⟩ = some (.int .i64 t196) ∧ w'.cell? ⟨gb207, 2, none⟩ = some (.int .i64 t197) ∧ w'.cell? ⟨gb207, 3, none⟩ = some (.int .i64 t198) ∧ w'.cell? ⟨gb207, 4, none⟩ = some (.int .i64 t199) ∧ w'.cell? ⟨gb207, 5, none⟩ = some (.int .i64 t200) ∧ w'.cell? ⟨gb208, 0, none⟩ = some (.int .i64 t201) ∧ w'.cell? ⟨gb208, 1, none⟩ = some (.int .i64 t202) ∧ w'.cell? ⟨gb208, 2, none⟩ = some (.int .i64 t203) ∧ w'.cell? ⟨gb208, 3, none⟩ = some (.int .i64 t204) ∧ w'.cell? ⟨gb208, 4, none⟩ = some (.int .i64 t205) ∧ w'.cell? ⟨gb208, 5, none⟩ = some (.int .i64 t206)) (ds := []) (fl 0 33) (by kernel_rfl) rfl rfl ⟨blk_cell BK207.out 0, blk_cell BK207.out 1, blk_cell BK207.out 2, blk_cell BK207.out 3, blk_cell BK207.out 4, blk_cell BK207.out 5, blk_cell BK208.out 0, blk_cell BK208.out 1, blk_cell BK208.out 2, blk_cell BK208.out 3, blk_cell BK208.out 4, blk_cell BK208.out 5⟩ (fun hHeld => ?_); refine with_tabW gazetteerlaw3_WeighImplied.tab7 gazetteerlaw3_WeighImplied.bits7 (fun HT_ HW_ => ?_)
    generalize w42.drew = w43 at BK207 BK208 HB hHeld ⊢
    refine pure_ (i := 0) (N := some 47) (v := ?_) (a' := ?_) (fl 1 32) rfl rfl (any_of HT_.out (by kernel_rfl)) (fun _ _ _ h => h) (Or.inl ⟨by rfl, ?_⟩) ?_ ?_
    rotate_left
    · intro w'
      go_simp
      with_reducible rfl
    rotate_left
    · simp only [Act.put, List.setIfInBounds_toArray, List.set_cons_zero, List.set_cons_succ, i64_w, i32_w]; rfl
    refine pure_ (i := 1) (N := some 48) (v := ?_) (a' := ?_) (fl 2 31) rfl rfl (any_of HT_.out (by kernel_rfl)) (fun _ _ _ h => h) (Or.inl ⟨by rfl, ?_⟩) ?_ ?_
    rotate_left
    · intro w'
      go_simp
      with_reducible rfl
    rotate_left
    · simp only [Act.put, List.setIfInBounds_toArray, List.set_cons_zero, List.set_cons_succ, i64_w, i32_w]; rfl
    refine pure_ (i := 2) (N := some 49) (v := ?_) (a' := ?_) (fl 3 30) rfl rfl (any_of HT_.out (by kernel_rfl)) (fun _ _ _ h => h) (Or.inl ⟨by rfl, ?_⟩) ?_ ?_
    rotate_left
    · intro w'
      go_simp
      with_reducible rfl
    rotate_left
    · simp only [Act.put, List.setIfInBounds_toArray, List.set_cons_zero, List.set_cons_succ, i64_w, i32_w]; rfl
    refine pure_ (i := 3) (N := some 50) (v := ?_) (a' := ?_) (fl 4 29) rfl rfl (any_of HT_.out (by kernel_rfl)) (fun _ _ _ h => h) (Or.inl ⟨by rfl, ?_⟩) ?_ ?_
    rotate_left
    · intro w'
      go_simp
      with_reducible rfl
    rotate_left
    · simp only [Act.put, List.setIfInBounds_toArray, List.set_cons_zero, List.set_cons_succ, i64_w, i32_w]; rfl
    refine pure_ (i := 4) (N := some 51) (v := ?_) (a' := ?_) (fl 5 28) rfl rfl (any_of HT_.out (by kernel_rfl)) (fun _ _ _ h => h) (Or.inl ⟨by rfl, ?_⟩) ?_ ?_
    rotate_left
    · intro w'
      go_simp
      with_reducible rfl
    rotate_left
    · simp only [Act.put, List.setIfInBounds_toArray, List.set_cons_zero, List.set_cons_succ, i64_w, i32_w]; rfl
    refine pure_ (i := 5) (N := some 52) (v := ?_) (a' := ?_) (fl 6 27) rfl rfl (any_of HT_.out (by kernel_rfl)) (fun _ _ _ h => h) (Or.inl ⟨by rfl, ?_⟩) ?_ ?_
    rotate_left
    · intro w'
      go_simp
      with_reducible rfl
    rotate_left
    · simp only [Act.put, List.setIfInBounds_toArray, List.set_cons_zero, List.set_cons_succ, i64_w, i32_w]; rfl
    refine pure_ (i := 9) (N := some 56) (v := ?_) (a' := ?_) #[true, true, true, true, true, true, false, false, false, true, false, false, false, false, false, false, false, false, false, false, false, false, false, false, false, false, false, false, false, false, false, false, false] rfl rfl (any_of HT_.out (by kernel_rfl)) (fun _ _ _ h => h) (Or.inl ⟨by rfl, ?_⟩) ?_ ?_
    rotate_left
    · intro w'
      go_simp
      with_reducible rfl
    rotate_left
    · simp only [Act.put, List.setIfInBounds_toArray, List.set_cons_zero, List.set_cons_succ, i64_w, i32_w]; rfl
    refine pure_ (i := 10) (N := some 57) (v := ?_) (a' := ?_) #[true, true, true, true, true, true, false, false, false, true, true, false, false, false, false, false, false, false, false, false, false, false, false, false, false, false, false, false, false, false, false, false, false] rfl rfl (any_of HT_.out (by kernel_rfl)) (fun _ _ _ h => h) (Or.inl ⟨by rfl, ?_⟩) ?_ ?_
    rotate_left
    · intro w'
      go_simp
      with_reducible rfl
    rotate_left
    · simp only [Act.put, List.setIfInBounds_toArray, List.set_cons_zero, List.set_cons_succ, i64_w, i32_w]; rfl
    refine pure_ (i := 11) (N := some 58) (v := ?_) (a' := ?_) #[true, true, true, true, true, true, false, false, false, true, true, true, false, false, false, false, false, false, false, false, false, false, false, false, false, false, false, false, false, false, false, false, false] rfl rfl (any_of HT_.out (by kernel_rfl)) (fun _ _ _ h => h) (Or.inl ⟨by rfl, ?_⟩) ?_ ?_
    rotate_left
    · intro w'
      go_simp
      with_reducible rfl
    rotate_left
    · simp only [Act.put, List.setIfInBounds_toArray, List.set_cons_zero, List.set_cons_succ, i64_w, i32_w]; rfl
    refine take_ (i := 6) (N := some 53) (v := ?_) (a' := ?_) #[true, true, true, true, true, true, true, false, false, true, true, true, false, false, false, false, false, false, false, false, false, false, false, false, false, false, false, false, false, false, false, false, false] rfl rfl (take_ofW HT_.out HW_.out (by kernel_rfl)) (fun _ _ _ h => h) (Or.inl ⟨by rfl, ?_⟩) hHeld ?_ ?_
    rotate_left
    · rintro w' ⟨s0, s1, s2, s3, s4, s5, s6, s7, s8, s9, s10, s11⟩; go_simp; with_reducible rfl
    rotate_left
    · simp only [Act.put, List.setIfInBounds_toArray, List.set_cons_zero, List.set_cons_succ, i64_w, i32_w]; rfl
    refine take_ (i := 7) (N := some 54) (v := ?_) (a' := ?_) #[true, true, true, true, true, true, true, true, false, true, true, true, false, false, false, false, false, false, false, false, false, false, false, false, false, false, false, false, false, false, false, false, false] rfl rfl (take_ofW HT_.out HW_.out (by kernel_rfl)) (fun _ _ _ h => h) (Or.inl ⟨by rfl, ?_⟩) hHeld ?_ ?_
    rotate_left
    · rintro w' ⟨s0, s1, s2, s3, s4, s5, s6, s7, s8, s9, s10, s11⟩; go_simp; with_reducible rfl
    rotate_left
    · simp only [Act.put, List.setIfInBounds_toArray, List.set_cons_zero, List.set_cons_succ, i64_w, i32_w]; rfl
    refine pure_ (i := 8) (N := some 55) (v := ?_) (a' := ?_) (fl 12 21) rfl rfl (any_of HT_.out (by kernel_rfl)) (fun _ _ _ h => h) (Or.inl ⟨by rfl, ?_⟩) ?_ ?_
    rotate_left
    · intro w'
      go_simp
      with_reducible rfl
    rotate_left
    · simp only [Act.put, List.setIfInBounds_toArray, List.set_cons_zero, List.set_cons_succ, i64_w, i32_w]; rfl
    refine pure_ (i := 12) (N := some 59) (v := ?_) (a' := ?_) (fl 13 20) rfl rfl (any_of HT_.out (by kernel_rfl)) (fun _ _ _ h => h) (Or.inl ⟨by rfl, ?_⟩) ?_ ?_
    rotate_left
    · intro w'
      go_simp
      with_reducible rfl
    rotate_left
    · simp only [Act.put, List.setIfInBounds_toArray, List.set_cons_zero, List.set_cons_succ, i64_w, i32_w]; rfl
    refine pure_ (i := 13) (N := some 60) (v := ?_) (a' := ?_) (fl 14 19) rfl rfl (any_of HT_.out (by kernel_rfl)) (fun _ _ _ h => h) (Or.inl ⟨by rfl, ?_⟩) ?_ ?_
    rotate_left
    · intro w'
      go_simp
      with_reducible rfl
    rotate_left
    · simp only [Act.put, List.setIfInBounds_toArray, List.set_cons_zero, List.set_cons_succ, i64_w, i32_w]; rfl
    refine pure_ (i := 14) (N := some 61) (v := ?_) (a' := ?_) (fl 15 18) rfl rfl (any_of HT_.out (by kernel_rfl)) (fun _ _ _ h => h) (Or.inl ⟨by rfl, ?_⟩) ?_ ?_
    rotate_left
    · intro w'
      go_simp
      with_reducible rfl
    rotate_left
    · simp only [Act.put, List.setIfInBounds_toArray, List.set_cons_zero, List.set_cons_succ, i64_w, i32_w]; rfl
    refine pure_ (i := 16) (N := some 63) (v := ?_) (a' := ?_) #[true, true, true, true, true, true, true, true, true, true, true, true, true, true, true, false, true, false, false, false, false, false, false, false, false, false, false, false, false, false, false, false, false] rfl rfl (any_of HT_.out (by kernel_rfl)) (fun _ _ _ h => h) (Or.inl ⟨by rfl, ?_⟩) ?_ ?_
    rotate_left
    · intro w'
      go_simp
      with_reducible rfl
    rotate_left
    · simp only [Act.put, List.setIfInBounds_toArray, List.set_cons_zero, List.set_cons_succ, i64_w, i32_w]; rfl
    refine take_ (i := 15) (N := some 62) (v := ?_) (a' := ?_) (fl 17 16) rfl rfl (take_ofW HT_.out HW_.out (by kernel_rfl)) (fun _ _ _ h => h) (Or.inl ⟨by rfl, ?_⟩) hHeld ?_ ?_
    rotate_left
    · rintro w' ⟨s0, s1, s2, s3, s4, s5, s6, s7, s8, s9, s10, s11⟩; go_simp; with_reducible rfl
    rotate_left
    · simp only [Act.put, List.setIfInBounds_toArray, List.set_cons_zero, List.set_cons_succ, i64_w, i32_w]; rfl
    refine one_ (i := 17) (N := some 64) (fl 18 15) rfl rfl (one_of HT_.out (by kernel_rfl)) (by decide) (fun K hK => ?_)
    refine goes_ Try.func21 (by kernel_rfl) rfl #[.int .i32 a0] (by rfl) rfl rfl (by (try simp only [List.map_toArray, List.map_cons, List.map_nil]); first | done | rfl | (simp only [List.length_drop, List.length_take]; done) | (simp only [List.length_drop, List.length_take]; rfl)) ?_
    with_reducible refine (gazetteerref1_Implied.calls a0 t215 t216 t217 t218 t219 t220 _ A32.out).mono ?_
    rintro e w44 ⟨rfl, hb⟩
    refine ⟨_, rfl, ?_⟩
    replace BK207 := Aside0.mk (blk_below (pb BK207.out) hb)
    replace BK208 := Aside0.mk (blk_below (pb BK208.out) hb)
    replace HB := Aside0.mk (below_step (pB HB.out) hb)
    (try clear hb)
    (try clear hb2)
    (try clear hk)
    (try clear hi)
    refine hK.out _ _ ⟨blk_cell BK207.out 0, blk_cell BK207.out 1, blk_cell BK207.out 2, blk_cell BK207.out 3, blk_cell BK207.out 4, blk_cell BK207.out 5, blk_cell BK208.out 0, blk_cell BK208.out 1, blk_cell BK208.out 2, blk_cell BK208.out 3, blk_cell BK208.out 4, blk_cell BK208.out 5⟩ (fun hHeld => ?_)
    clear hK K
    refine norm_ (a' := ?_) ?_ ?_
    rotate_left
    · show Act.put _ (some 64) _ = _; simp only [Act.put, List.setIfInBounds_toArray, List.set_cons_zero, List.set_cons_succ, i64_w, i32_w]; rfl
    refine pure_ (i := 18) (N := some 65) (v := ?_) (a' := ?_) (fl 19 14) rfl rfl (any_of HT_.out (by kernel_rfl)) (fun _ _ _ h => h) (Or.inl ⟨by rfl, ?_⟩) ?_ ?_
    rotate_left
    · intro w'
      go_simp
      with_reducible rfl
    rotate_left
    · simp only [Act.put, List.setIfInBounds_toArray, List.set_cons_zero, List.set_cons_succ, i64_w, i32_w]; rfl
    refine pure_ (i := 19) (N := some 66) (v := ?_) (a' := ?_) (fl 20 13) rfl rfl (any_of HT_.out (by kernel_rfl)) (fun _ _ _ h => h) (Or.inl ⟨by rfl, ?_⟩) ?_ ?_
    rotate_left
    · intro w'
      go_simp
      with_reducible rfl
    rotate_left
    · simp only [Act.put, List.setIfInBounds_toArray, List.set_cons_zero, List.set_cons_succ, i64_w, i32_w]; rfl
    refine pure_ (i := 20) (N := some 67) (v := ?_) (a' := ?_) (fl 21 12) rfl rfl (any_of HT_.out (by kernel_rfl)) (fun _ _ _ h => h) (Or.inl ⟨by rfl, ?_⟩) ?_ ?_
    rotate_left
    · intro w'
      go_simp
      with_reducible rfl
    rotate_left
    · simp only [Act.put, List.setIfInBounds_toArray, List.set_cons_zero, List.set_cons_succ, i64_w, i32_w]; rfl
    refine pure_ (i := 21) (N := some 68) (v := ?_) (a' := ?_) (fl 22 11) rfl rfl (any_of HT_.out (by kernel_rfl)) (fun _ _ _ h => h) (Or.inl ⟨by rfl, ?_⟩) ?_ ?_
    rotate_left
    · intro w'
      go_simp
      with_reducible rfl
    rotate_left
    · simp only [Act.put, List.setIfInBounds_toArray, List.set_cons_zero, List.set_cons_succ, i64_w, i32_w]; rfl
    refine pure_ (i := 22) (N := some 69) (v := ?_) (a' := ?_) (fl 23 10) rfl rfl (any_of HT_.out (by kernel_rfl)) (fun _ _ _ h => h) (Or.inl ⟨by rfl, ?_⟩) ?_ ?_
    rotate_left
    · intro w'
      go_simp
      with_reducible rfl
    rotate_left
    · simp only [Act.put, List.setIfInBounds_toArray, List.set_cons_zero, List.set_cons_succ, i64_w, i32_w]; rfl
    refine take_ (i := 23) (N := some 70) (v := ?_) (a' := ?_) (fl 24 9) rfl rfl (take_ofW HT_.out HW_.out (by kernel_rfl)) (fun _ _ _ h => h) (Or.inl ⟨by rfl, ?_⟩) hHeld ?_ ?_
    rotate_left
    · rintro w' ⟨s0, s1, s2, s3, s4, s5, s6, s7, s8, s9, s10, s11⟩; go_simp; with_reducible rfl
    rotate_left
    · simp only [Act.put, List.setIfInBounds_toArray, List.set_cons_zero, List.set_cons_succ, i64_w, i32_w]; rfl
    refine pure_ (i := 24) (N := some 71) (v := ?_) (a' := ?_) (fl 25 8) rfl rfl (any_of HT_.out (by kernel_rfl)) (fun _ _ _ h => h) (Or.inl ⟨by rfl, ?_⟩) ?_ ?_
    rotate_left
    · intro w'
      go_simp
      with_reducible rfl
    rotate_left
    · simp only [Act.put, List.setIfInBounds_toArray, List.set_cons_zero, List.set_cons_succ, i64_w, i32_w]; rfl
    refine pure_ (i := 25) (N := some 72) (v := ?_) (a' := ?_) (fl 26 7) rfl rfl (any_of HT_.out (by kernel_rfl)) (fun _ _ _ h => h) (Or.inl ⟨by rfl, ?_⟩) ?_ ?_
    rotate_left
    · intro w'
      go_simp
      with_reducible rfl
    rotate_left
    · simp only [Act.put, List.setIfInBounds_toArray, List.set_cons_zero, List.set_cons_succ, i64_w, i32_w]; rfl
    refine pure_ (i := 26) (N := some 73) (v := ?_) (a' := ?_) (fl 27 6) rfl rfl (any_of HT_.out (by kernel_rfl)) (fun _ _ _ h => h) (Or.inl ⟨by rfl, ?_⟩) ?_ ?_
    rotate_left
    · intro w'
      go_simp
      with_reducible rfl
    rotate_left
    · simp only [Act.put, List.setIfInBounds_toArray, List.set_cons_zero, List.set_cons_succ, i64_w, i32_w]; rfl
    refine pure_ (i := 27) (N := some 74) (v := ?_) (a' := ?_) (fl 28 5) rfl rfl (any_of HT_.out (by kernel_rfl)) (fun _ _ _ h => h) (Or.inl ⟨by rfl, ?_⟩) ?_ ?_
    rotate_left
    · intro w'
      go_simp
      with_reducible rfl
    rotate_left
    · simp only [Act.put, List.setIfInBounds_toArray, List.set_cons_zero, List.set_cons_succ, i64_w, i32_w]; rfl
    refine pure_ (i := 28) (N := some 75) (v := ?_) (a' := ?_) (fl 29 4) rfl rfl (any_of HT_.out (by kernel_rfl)) (fun _ _ _ h => h) (Or.inl ⟨by rfl, ?_⟩) ?_ ?_
    rotate_left
    · intro w'
      go_simp
      with_reducible rfl
    rotate_left
    · simp only [Act.put, List.setIfInBounds_toArray, List.set_cons_zero, List.set_cons_succ, i64_w, i32_w]; rfl
    refine take_ (i := 29) (N := some 76) (v := ?_) (a' := ?_) (fl 30 3) rfl rfl (take_ofW HT_.out HW_.out (by kernel_rfl)) (fun _ _ _ h => h) (Or.inl ⟨by rfl, ?_⟩) hHeld ?_ ?_
    rotate_left
    · rintro w' ⟨s0, s1, s2, s3, s4, s5, s6, s7, s8, s9, s10, s11⟩; go_simp; with_reducible rfl
    rotate_left
    · simp only [Act.put, List.setIfInBounds_toArray, List.set_cons_zero, List.set_cons_succ, i64_w, i32_w]; rfl
    refine pure_ (i := 30) (N := some 77) (v := ?_) (a' := ?_) (fl 31 2) rfl rfl (any_of HT_.out (by kernel_rfl)) (fun _ _ _ h => h) (Or.inl ⟨by rfl, ?_⟩) ?_ ?_
    rotate_left
    · intro w'
      go_simp
      with_reducible rfl
    rotate_left
    · simp only [Act.put, List.setIfInBounds_toArray, List.set_cons_zero, List.set_cons_succ, i64_w, i32_w]; rfl
    refine pure_ (i := 31) (N := some 78) (v := ?_) (a' := ?_) (fl 32 1) rfl rfl (any_of HT_.out (by kernel_rfl)) (fun _ _ _ h => h) (Or.inl ⟨by rfl, ?_⟩) ?_ ?_
    rotate_left
    · intro w'
      go_simp
      with_reducible rfl
    rotate_left
    · simp only [Act.put, List.setIfInBounds_toArray, List.set_cons_zero, List.set_cons_succ, i64_w, i32_w]; rfl
    refine pure_ (i := 32) (N := some 4) (v := ?_) (a' := ?_) (fl 33 0) rfl rfl (any_of HT_.out (by kernel_rfl)) (fun _ _ _ h => h) (Or.inl ⟨by rfl, ?_⟩) ?_ ?_
    rotate_left
    · intro w'
      go_simp
      with_reducible rfl
    rotate_left
    · simp only [Act.put, List.setIfInBounds_toArray, List.set_cons_zero, List.set_cons_succ, i64_w, i32_w]; rfl
    refine done_ (done_of HT_.out (by kernel_rfl)) ?_
    try go_wp2
    go_ret
    exact ⟨by first | rfl | (simp [errW_none, errW_some] <;> rfl) | (simp [*, errW_none, errW_some] <;> rfl), by repeat (first | (with_reducible first | exact HB.out | apply below_alloc | apply pw_below_drewN | apply below_drew1 | refine below_set ?_ GE207.out | refine below_set ?_ GE208.out) | exact HB.out)⟩
end Go.Proofs.Ytfagobhhhljajaa.PWeighImplied

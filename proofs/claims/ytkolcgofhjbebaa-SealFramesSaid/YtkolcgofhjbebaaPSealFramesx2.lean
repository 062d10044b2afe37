-- printed by a program of this session (wip/tools), a turned form of the kit's print
import Derived.Test.YtkolcgofhjbebaaPSealFramesx0
import Derived.Test.YtkolcgofhjbebaaPSealFramesx1
namespace Go.Proofs.Ytkolcgofhjbebaa.PSealFrames
open Go.RowKit Go.Proofs.YtkolcgofhjbebaaW.PrintWords Go.Proofs.YtkolcgofhjbebaaW.PrintLast Go.Proofs.YtkolcgofhjbebaaW.PrintMore
attribute [local go_sem] max2_int min2_int max_two min_two max_three min_three max_four min_four max2_str min2_str str_geq str_leq str_gtr   -- for this text's walks alone
set_option linter.unusedVariables false
set_option linter.unusedSimpArgs false

/-! ### gazetteerlaw8_SealFrames: function 5 -/
mutual
def gazetteerlaw8_SealFrames.j0 : Nat → Int → List Int → List Int → Bool → Option (Bool)
  | 0, _, _, _, _ => none
  | k + 1, x0, x1, x2, x24 => if x24 = true then (some true) else ((seal_Frame.f k x0 x1).bind fun bt166 => ((gazetteerref5_Frame.f k x0 x1).bind fun bt170 => (if bt166.2 = bt170.2 then (if (strOfNums bt166.1).toList = (strOfNums bt170.1).toList then ((seal_Sum.f k x1).bind fun t174 => ((gazetteerref5_Sum.f k x1).bind fun t175 => (gazetteerlaw8_SealFrames.j1 k x0 x1 x2 bt166.1 bt166.2 (t174 != t175)))) else (gazetteerlaw8_SealFrames.j1 k x0 x1 x2 bt166.1 bt166.2 true)) else (gazetteerlaw8_SealFrames.j1 k x0 x1 x2 bt166.1 bt166.2 true))))
def gazetteerlaw8_SealFrames.j1 : Nat → Int → List Int → List Int → List Int → Int → Bool → Option (Bool)
  | 0, _, _, _, _, _, _ => none
  | k + 1, x0, x1, x2, x7, x8, x53 => if x53 = true then (some false) else (if x8 = 0 then ((some (([] : List Int) : List Int)).bind fun y176 => (if y176.length + x7.length < 140737488355328 then ((some (y176 ++ x7 : List Int)).bind fun y179 => (if y179.length + x2.length < 140737488355328 then ((seal_Open.f k (y179 ++ x2)).bind fun bt185 => (if bt185.2.2.2 = 0 then (if bt185.1 = x0 then (if (strOfNums bt185.2.1).toList = (strOfNums x1).toList then (some (bt185.2.2.1 == (x7.length : Int))) else (some false)) else (some false)) else (some false))) else (none))) else (none))) else (some true))
end
def gazetteerlaw8_SealFrames.f (k : Nat) (a0 : Int) (l1 : List Int) (l2 : List Int) : Option (Bool) := (gazetteerlaw8_awake.f k).bind fun t165 => (if t165 = true then (if (l1.length : Int) > 33000 then (gazetteerlaw8_SealFrames.j0 k a0 l1 l2 true) else (gazetteerlaw8_SealFrames.j0 k a0 l1 l2 (decide ((l2.length : Int) > 1000)))) else (some false))
theorem gazetteerlaw8_SealFrames.mono_l : ∀ k, (∀ y0 y1 y2 y3, LeO (gazetteerlaw8_SealFrames.j0 k y0 y1 y2 y3) (gazetteerlaw8_SealFrames.j0 (k + 1) y0 y1 y2 y3)) ∧ (∀ y0 y1 y2 y3 y4 y5, LeO (gazetteerlaw8_SealFrames.j1 k y0 y1 y2 y3 y4 y5) (gazetteerlaw8_SealFrames.j1 (k + 1) y0 y1 y2 y3 y4 y5))
  | 0 => ⟨fun _ _ _ _ r h => by simp [gazetteerlaw8_SealFrames.j0] at h, fun _ _ _ _ _ _ r h => by simp [gazetteerlaw8_SealFrames.j1] at h⟩
  | k + 1 => by
    obtain ⟨ih0, ih1⟩ := gazetteerlaw8_SealFrames.mono_l k
    refine ⟨?_, ?_⟩
    · intro y0 y1 y2 y3
      unfold gazetteerlaw8_SealFrames.j0
      repeat' first
      | (with_reducible exact ih0 _ _ _ _)
      | (with_reducible exact ih1 _ _ _ _ _ _)
      | (with_reducible exact gazetteerlaw8_awake.mono _)
      | (with_reducible exact gazetteerref5_Frame.mono _ _ _)
      | (with_reducible exact gazetteerref5_Sum.mono _ _)
      | (with_reducible exact seal_Frame.mono _ _ _)
      | (with_reducible exact seal_Open.mono _ _)
      | (with_reducible exact seal_Sum.mono _ _)
      | (with_reducible exact LeO.refl _)
      | (with_reducible exact LeO.none _)
      | (with_reducible refine LeO.ite ?_ ?_)
      | (with_reducible refine LeO.bind ?_ (fun _ => ?_))
      | exact ih0 _ _ _ _
      | exact ih1 _ _ _ _ _ _
      | exact gazetteerlaw8_awake.mono _
      | exact gazetteerref5_Frame.mono _ _ _
      | exact gazetteerref5_Sum.mono _ _
      | exact seal_Frame.mono _ _ _
      | exact seal_Open.mono _ _
      | exact seal_Sum.mono _ _
      | exact LeO.none _
      | refine LeO.ite ?_ ?_
      | refine LeO.bind ?_ (fun _ => ?_)
    · intro y0 y1 y2 y3 y4 y5
      unfold gazetteerlaw8_SealFrames.j1
      repeat' first
      | (with_reducible exact ih0 _ _ _ _)
      | (with_reducible exact ih1 _ _ _ _ _ _)
      | (with_reducible exact gazetteerlaw8_awake.mono _)
      | (with_reducible exact gazetteerref5_Frame.mono _ _ _)
      | (with_reducible exact gazetteerref5_Sum.mono _ _)
      | (with_reducible exact seal_Frame.mono _ _ _)
      | (with_reducible exact seal_Open.mono _ _)
      | (with_reducible exact seal_Sum.mono _ _)
      | (with_reducible exact LeO.refl _)
      | (with_reducible exact LeO.none _)
      | (with_reducible refine LeO.ite ?_ ?_)
      | (with_reducible refine LeO.bind ?_ (fun _ => ?_))
      | exact ih0 _ _ _ _
      | exact ih1 _ _ _ _ _ _
      | exact gazetteerlaw8_awake.mono _
      | exact gazetteerref5_Frame.mono _ _ _
      | exact gazetteerref5_Sum.mono _ _
      | exact seal_Frame.mono _ _ _
      | exact seal_Open.mono _ _
      | exact seal_Sum.mono _ _
      | exact LeO.none _
      | refine LeO.ite ?_ ?_
      | refine LeO.bind ?_ (fun _ => ?_)
theorem gazetteerlaw8_SealFrames.mono : ∀ a0 a1 a2 k, LeO (gazetteerlaw8_SealFrames.f k a0 a1 a2) (gazetteerlaw8_SealFrames.f (k + 1) a0 a1 a2) := by
  intro a0 a1 a2 k
  obtain ⟨ih0, ih1⟩ := gazetteerlaw8_SealFrames.mono_l k
  unfold gazetteerlaw8_SealFrames.f
  repeat' first
      | (with_reducible exact ih0 _ _ _ _)
      | (with_reducible exact ih1 _ _ _ _ _ _)
      | (with_reducible exact gazetteerlaw8_awake.mono _)
      | (with_reducible exact gazetteerref5_Frame.mono _ _ _)
      | (with_reducible exact gazetteerref5_Sum.mono _ _)
      | (with_reducible exact seal_Frame.mono _ _ _)
      | (with_reducible exact seal_Open.mono _ _)
      | (with_reducible exact seal_Sum.mono _ _)
      | (with_reducible exact LeO.refl _)
      | (with_reducible exact LeO.none _)
      | (with_reducible refine LeO.ite ?_ ?_)
      | (with_reducible refine LeO.bind ?_ (fun _ => ?_))
      | exact ih0 _ _ _ _
      | exact ih1 _ _ _ _ _ _
      | exact gazetteerlaw8_awake.mono _
      | exact gazetteerref5_Frame.mono _ _ _
      | exact gazetteerref5_Sum.mono _ _
      | exact seal_Frame.mono _ _ _
      | exact seal_Open.mono _ _
      | exact seal_Sum.mono _ _
      | exact LeO.none _
      | refine LeO.ite ?_ ?_
      | refine LeO.bind ?_ (fun _ => ?_)
set_option maxHeartbeats 8000000 in
set_option maxRecDepth 100000 in
theorem gazetteerlaw8_SealFrames.calls (k : Nat) (a0 : Int) (A1 : Option Addr) (c1 : Nat) (l1 : List Int) (A2 : Option Addr) (c2 : Nat) (l2 : List Int) (r : Bool) (w : World) (hr1 : Kd.C (Kd.int .u8) w A1 l1.length l1) (hc1 : l1.length ≤ c1) (hr2 : Kd.C (Kd.int .u8) w A2 l2.length l2) (hc2 : l2.length ≤ c2) (HLT0 : r = true) (h : gazetteerlaw8_SealFrames.f k a0 l1 l2 = some r) :
    Calls Try.prog 5 #[.int .u8 a0, .slice A1 l1.length c1, .slice A2 l2.length c2] w fun e w' => e = .returned (.bool r) ∧ Below w.heap.size w w' := by
  have HLT := Aside0.mk HLT0
  clear HLT0
  have HR1 := Aside0.mk hr1
  have HC1 := Aside0.mk hc1
  clear hr1 hc1
  have HR2 := Aside0.mk hr2
  have HC2 := Aside0.mk hc2
  clear hr2 hc2
  have HB := Aside0.mk (Below.refl w.heap.size w)
  have H : ((gazetteerlaw8_awake.f k).bind fun t165 => (if t165 = true then (if (l1.length : Int) > 33000 then (gazetteerlaw8_SealFrames.j0 k a0 l1 l2 true) else (gazetteerlaw8_SealFrames.j0 k a0 l1 l2 (decide ((l2.length : Int) > 1000)))) else (some false))) = some r := h
  clear h
  replace H := Option.bind_eq_some_iff.mp H
  obtain ⟨t165, A40, H⟩ := H
  replace H : (if t165 = true then (if (l1.length : Int) > 33000 then (gazetteerlaw8_SealFrames.j0 k a0 l1 l2 true) else (gazetteerlaw8_SealFrames.j0 k a0 l1 l2 (decide ((l2.length : Int) > 1000)))) else (some false)) = some r := H
  have A4 := Aside0.mk A40
  clear A40
  by_cases c5 : t165 = true
  · subst c5
    have H1 : (if (l1.length : Int) > 33000 then (gazetteerlaw8_SealFrames.j0 k a0 l1 l2 true) else (gazetteerlaw8_SealFrames.j0 k a0 l1 l2 (decide ((l2.length : Int) > 1000)))) = some r := by rw [if_pos rfl] at H; exact H
    clear H
    have H := H1
    clear H1
    have HC6 := Aside0.mk H
    clear H
    go_enter Try.func5, Try.ntmps5
    go_upto_region 3 with (first | ((with_reducible refine gate_callee (f := 19) rfl ?_); refine goesL_ (some 15) rfl rfl Try.func19 (by kernel_rfl) rfl #[] rfl (by (try simp only [List.map_toArray, List.map_cons, List.map_nil]); first | done | rfl | (simp only [List.length_drop, List.length_take]; done) | (simp only [List.length_drop, List.length_take]; rfl)) ?_; (with_reducible refine (gazetteerlaw8_awake.calls k  true _ A4.out).mono ?_); rintro e w7 ⟨rfl, hb⟩; refine ⟨_, rfl, ?_⟩; have n0_ := Aside0.mk (below_step (by repeat (first | (with_reducible first | exact HB.out | apply below_alloc | apply pw_below_drewN | apply below_drew1) | exact HB.out)) hb); clear HB; have HB := n0_; clear n0_; (try clear hb); (try clear hb2); (try clear hk); (try clear hi)))
    (try simp only [Act.put, List.setIfInBounds_toArray, List.set_cons_zero, List.set_cons_succ])
    go_cut [24] (fun v24 wc => ∃ (kq : Nat) (x24_5 : Bool), v24 = .bool x24_5 ∧ Aside0 (gazetteerlaw8_SealFrames.j0 kq a0 l1 l2 x24_5 = some r) ∧ Aside0 (kq ≤ k) ∧ Aside0 (Below w.heap.size w wc))
    case first =>
      have H := HC6.out
      clear HC6
      by_cases c8 : (l1.length : Int) > 33000
      · rw [if_pos c8] at H
        have c8b0 : decide (33000 < (l1.length : Int)) = true := decide_eq_true c8
        have c8b1 : decide (33000 < l1.length) = true := decide_eq_true (by omega)
        clear c8
        (first | rw [c8b0] | (simp only [i64_w, i32_w]; rw [c8b0]) | skip)
        have H' := Aside0.mk H
        clear H
        go_wp2
        go_meet
        case rel => exact ⟨_, (true), (by first | rfl | (simp; done) | (simp [*]; done)), H', ⟨by first | omega | exact Nat.le_refl _⟩, ⟨by repeat (first | (with_reducible first | exact HB.out | apply below_alloc | apply pw_below_drewN | apply below_drew1) | exact HB.out)⟩⟩
      · rw [if_neg c8] at H
        have c8b0 : decide (33000 < (l1.length : Int)) = false := decide_eq_false c8
        have c8b1 : decide (33000 < l1.length) = false := decide_eq_false (by omega)
        clear c8
        (first | rw [c8b0] | (simp only [i64_w, i32_w]; rw [c8b0]) | skip)
        have H' := Aside0.mk H
        clear H
        go_wp2
        go_meet
        case rel => exact ⟨_, (decide ((l2.length : Int) > 1000)), (by first | rfl | (simp; done) | (simp [*]; done)), H', ⟨by first | omega | exact Nat.le_refl _⟩, ⟨by repeat (first | (with_reducible first | exact HB.out | apply below_alloc | apply pw_below_drewN | apply below_drew1) | exact HB.out)⟩⟩
    case rest =>
      clear HC6
      try clear c1
      try clear c2
      try clear p2
      try clear c5
      try clear c8
      try clear c8b0
      try clear c8b1
      obtain ⟨kq, x24_5, rfl, HA, HJ5, HB⟩ := hcut
      cases kq with
      | zero => exact absurd HA.out (by simp [gazetteerlaw8_SealFrames.j0])
      | succ kj5 =>
        have H := HA.out
        clear HA
        simp only [gazetteerlaw8_SealFrames.j0] at H
        by_cases c9 : x24_5 = true
        · subst c9
          have H1 : (some true) = some r := by rw [if_pos rfl] at H; exact H
          clear H
          have H := H1
          clear H1
          obtain rfl := Option.some.inj H
          go_wp2
          go_ret
          exact ⟨by first | rfl | (simp [errW_none, errW_some] <;> rfl) | (simp [*, errW_none, errW_some] <;> rfl), by repeat (first | (with_reducible first | exact HB.out | apply below_alloc | apply pw_below_drewN | apply below_drew1) | exact HB.out)⟩
        · replace c9 := Bool.eq_false_iff.mpr c9
          subst c9
          have H1 : ((seal_Frame.f kj5 a0 l1).bind fun bt166 => ((gazetteerref5_Frame.f kj5 a0 l1).bind fun bt170 => (if bt166.2 = bt170.2 then (if (strOfNums bt166.1).toList = (strOfNums bt170.1).toList then ((seal_Sum.f kj5 l1).bind fun t174 => ((gazetteerref5_Sum.f kj5 l1).bind fun t175 => (gazetteerlaw8_SealFrames.j1 kj5 a0 l1 l2 bt166.1 bt166.2 (t174 != t175)))) else (gazetteerlaw8_SealFrames.j1 kj5 a0 l1 l2 bt166.1 bt166.2 true)) else (gazetteerlaw8_SealFrames.j1 kj5 a0 l1 l2 bt166.1 bt166.2 true)))) = some r := by rw [if_neg (show ¬ (false = true) by decide)] at H; exact H
          clear H
          have H := H1
          clear H1
          replace H := Option.bind_eq_some_iff.mp H
          obtain ⟨⟨t166, t167⟩, A100, H⟩ := H
          replace H : ((gazetteerref5_Frame.f kj5 a0 l1).bind fun bt170 => (if t167 = bt170.2 then (if (strOfNums t166).toList = (strOfNums bt170.1).toList then ((seal_Sum.f kj5 l1).bind fun t174 => ((gazetteerref5_Sum.f kj5 l1).bind fun t175 => (gazetteerlaw8_SealFrames.j1 kj5 a0 l1 l2 t166 t167 (t174 != t175)))) else (gazetteerlaw8_SealFrames.j1 kj5 a0 l1 l2 t166 t167 true)) else (gazetteerlaw8_SealFrames.j1 kj5 a0 l1 l2 t166 t167 true))) = some r := H
          have A10 := Aside0.mk A100
          clear A100
          replace H := Option.bind_eq_some_iff.mp H
          obtain ⟨⟨t170, t171⟩, A110, H⟩ := H
          replace H : (if t167 = t171 then (if (strOfNums t166).toList = (strOfNums t170).toList then ((seal_Sum.f kj5 l1).bind fun t174 => ((gazetteerref5_Sum.f kj5 l1).bind fun t175 => (gazetteerlaw8_SealFrames.j1 kj5 a0 l1 l2 t166 t167 (t174 != t175)))) else (gazetteerlaw8_SealFrames.j1 kj5 a0 l1 l2 t166 t167 true)) else (gazetteerlaw8_SealFrames.j1 kj5 a0 l1 l2 t166 t167 true)) = some r := H
          have A11 := Aside0.mk A110
          clear A110
          have HC12 := Aside0.mk H
          clear H
          go_upto_region 7 with (first | ((with_reducible refine gate_callee (f := 20) rfl ?_); refine goesL_ (some 28) rfl rfl Try.func20 (by kernel_rfl) rfl #[.int .u8 a0, .slice A1 l1.length c1] rfl (by (try simp only [List.map_toArray, List.map_cons, List.map_nil]); first | done | rfl | (simp only [List.length_drop, List.length_take]; done) | (simp only [List.length_drop, List.length_take]; rfl)) ?_; (with_reducible refine (seal_Frame.calls kj5 a0 _ _ l1 t166 t167 _ ?side1 ?side2 A10.out).mono ?_); (case side1 => repeat (first | exact (Kd.C_below HR1.out HB.out) | (with_reducible refine Kd.C_alloc ?_ _) | (with_reducible refine Kd.C_drewN ?_ _) | (with_reducible refine Kd.C_drew ?_))); (case side2 => exact HC1.out); rintro e w13 ⟨v168, rfl, ho0, hb⟩; refine ⟨_, rfl, ?_⟩; have n0_ := Aside0.mk (Kd.R_lower ho0 (below_size (by repeat (first | (with_reducible first | exact HB.out | apply below_alloc | apply pw_below_drewN | apply below_drew1) | exact HB.out)))); have n1_ := Aside0.mk (below_step (by repeat (first | (with_reducible first | exact HB.out | apply below_alloc | apply pw_below_drewN | apply below_drew1) | exact HB.out)) hb); clear HB; have HO169 := n0_; have HB := n1_; clear n0_ n1_; (try clear hb); (try clear hb2); (try clear hk); (try clear hi); (try clear ho0)) | ((with_reducible refine gate_callee (f := 21) rfl ?_); refine goesL_ (some 34) rfl rfl Try.func21 (by kernel_rfl) rfl #[.int .u8 a0, .slice A1 l1.length c1] rfl (by (try simp only [List.map_toArray, List.map_cons, List.map_nil]); first | done | rfl | (simp only [List.length_drop, List.length_take]; done) | (simp only [List.length_drop, List.length_take]; rfl)) ?_; (with_reducible refine (gazetteerref5_Frame.calls kj5 a0 _ _ l1 t170 t171 _ ?side1 ?side2 A11.out).mono ?_); (case side1 => repeat (first | exact (Kd.C_below HR1.out HB.out) | (with_reducible refine Kd.C_alloc ?_ _) | (with_reducible refine Kd.C_drewN ?_ _) | (with_reducible refine Kd.C_drew ?_))); (case side2 => exact HC1.out); rintro e w14 ⟨v172, rfl, ho0, hb⟩; refine ⟨_, rfl, ?_⟩; have n0_ := Aside0.mk (Kd.R_elder' (by (with_reducible repeat (first | apply Kd.R_alloc | apply Kd.R_drewN | apply Kd.R_drew)); exact HO169.out) (Kd.R_base ho0) hb); have n1_ := Aside0.mk (Kd.R_lower (Kd.R_new' ho0 (Kd.R_lt (by (with_reducible repeat (first | apply Kd.R_alloc | apply Kd.R_drewN | apply Kd.R_drew)); exact HO169.out))) (below_size (by repeat (first | (with_reducible first | exact HB.out | apply below_alloc | apply pw_below_drewN | apply below_drew1) | exact HB.out)))); have n2_ := Aside0.mk (below_step (by repeat (first | (with_reducible first | exact HB.out | apply below_alloc | apply pw_below_drewN | apply below_drew1) | exact HB.out)) hb); clear HO169; clear HB; have HO169 := n0_; have HO173 := n1_; have HB := n2_; clear n0_ n1_ n2_; (try clear hb); (try clear hb2); (try clear hk); (try clear hi); (try clear ho0)))
          (try simp only [Act.put, List.setIfInBounds_toArray, List.set_cons_zero, List.set_cons_succ])
          go_cut [53] (fun v53 wc => ∃ (kq : Nat) (x53_11 : Bool), v53 = .bool x53_11 ∧ Aside0 (gazetteerlaw8_SealFrames.j1 kq a0 l1 l2 t166 t167 x53_11 = some r) ∧ Aside0 (kq ≤ kj5) ∧ Aside0 (Kd.R (Kd.int .u8) 5 wc w.heap.size (fun _ => True) v168 t166) ∧ Aside0 (Below w.heap.size w wc))
          case first =>
            have H := HC12.out
            clear HC12
            by_cases c15 : t167 = t171
            · rw [if_pos c15] at H
              have c15b0 : (t167 == t171) = true := beq_iff_eq.mpr c15
              have c15b1 : (t167 != t171) = false := bne_eq_false_iff_eq.mpr c15
              clear c15
              (first | rw [c15b0] | (simp only [i64_w, i32_w]; rw [c15b0]) | skip)
              by_cases c16 : (strOfNums t166).toList = (strOfNums t170).toList
              · rw [if_pos c16] at H
                have c16b0 : ((strOfNums t166).toList == (strOfNums t170).toList) = true := beq_iff_eq.mpr c16
                have c16b1 : ((strOfNums t166).toList != (strOfNums t170).toList) = false := bne_eq_false_iff_eq.mpr c16
                clear c16
                replace H := Option.bind_eq_some_iff.mp H
                obtain ⟨t174, A170, H⟩ := H
                replace H : ((gazetteerref5_Sum.f kj5 l1).bind fun t175 => (gazetteerlaw8_SealFrames.j1 kj5 a0 l1 l2 t166 t167 (t174 != t175))) = some r := H
                have A17 := Aside0.mk A170
                clear A170
                replace H := Option.bind_eq_some_iff.mp H
                obtain ⟨t175, A180, H⟩ := H
                replace H : (gazetteerlaw8_SealFrames.j1 kj5 a0 l1 l2 t166 t167 (t174 != t175)) = some r := H
                have A18 := Aside0.mk A180
                clear A180
                have H' := Aside0.mk H
                clear H
                have hcv19 := own_string (P := Try.prog) Try.underlying22 Try.underlying5 Try.underlying9 (Kd.own_of_R HO169.out)
                have hcv20 := own_string (P := Try.prog) Try.underlying22 Try.underlying5 Try.underlying9 (Kd.own_of_R HO173.out)
                go_wp2_with (first | (go_at_call 22; (with_reducible refine (seal_Sum.calls kj5 _ _ l1 t174 _ ?side1 ?side2 A17.out).mono ?_); (case side1 => repeat (first | exact (Kd.C_below HR1.out HB.out) | (with_reducible refine Kd.C_alloc ?_ _) | (with_reducible refine Kd.C_drewN ?_ _) | (with_reducible refine Kd.C_drew ?_))); (case side2 => exact HC1.out); rintro e w' ⟨rfl, ⟨nd, rfl⟩⟩) | (go_at_call 23; (with_reducible refine (gazetteerref5_Sum.calls kj5 _ _ l1 t175 _ ?side1 ?side2 A18.out).mono ?_); (case side1 => repeat (first | exact (Kd.C_below HR1.out (by repeat (first | (with_reducible first | exact HB.out | apply below_alloc | apply pw_below_drewN | apply below_drew1) | exact HB.out))) | (with_reducible refine Kd.C_alloc ?_ _) | (with_reducible refine Kd.C_drewN ?_ _) | (with_reducible refine Kd.C_drew ?_))); (case side2 => exact HC1.out); rintro e w' ⟨rfl, ⟨nd, rfl⟩⟩))
                go_meet
                case rel => exact ⟨_, ((t174 != t175)), (by first | rfl | (simp; done) | (simp [*]; done)), H', ⟨by have := HJ5.out; first | omega | exact Nat.le_refl _⟩, ⟨by (with_reducible repeat (first | apply Kd.R_alloc | apply Kd.R_drewN | apply Kd.R_drew)); exact Kd.R_mono HO169.out (fun _ hk => trivial)⟩, ⟨by repeat (first | (with_reducible first | exact HB.out | apply below_alloc | apply pw_below_drewN | apply below_drew1) | exact HB.out)⟩⟩
              · rw [if_neg c16] at H
                have c16b0 : ((strOfNums t166).toList == (strOfNums t170).toList) = false := beq_eq_false_iff_ne.mpr c16
                have c16b1 : ((strOfNums t166).toList != (strOfNums t170).toList) = true := bne_iff_ne.mpr c16
                have H' := Aside0.mk H
                clear H
                have hcv21 := own_string (P := Try.prog) Try.underlying22 Try.underlying5 Try.underlying9 (Kd.own_of_R HO169.out)
                have hcv22 := own_string (P := Try.prog) Try.underlying22 Try.underlying5 Try.underlying9 (Kd.own_of_R HO173.out)
                go_wp2
                go_meet
                case rel => exact ⟨_, (true), (by first | rfl | (simp; done) | (simp [*]; done)), H', ⟨by have := HJ5.out; first | omega | exact Nat.le_refl _⟩, ⟨by (with_reducible repeat (first | apply Kd.R_alloc | apply Kd.R_drewN | apply Kd.R_drew)); exact Kd.R_mono HO169.out (fun _ hk => trivial)⟩, ⟨by repeat (first | (with_reducible first | exact HB.out | apply below_alloc | apply pw_below_drewN | apply below_drew1) | exact HB.out)⟩⟩
            · rw [if_neg c15] at H
              have c15b0 : (t167 == t171) = false := beq_eq_false_iff_ne.mpr c15
              have c15b1 : (t167 != t171) = true := bne_iff_ne.mpr c15
              (first | rw [c15b0] | (simp only [i64_w, i32_w]; rw [c15b0]) | skip)
              have H' := Aside0.mk H
              clear H
              go_wp2
              go_meet
              case rel => exact ⟨_, (true), (by first | rfl | (simp; done) | (simp [*]; done)), H', ⟨by have := HJ5.out; first | omega | exact Nat.le_refl _⟩, ⟨by (with_reducible repeat (first | apply Kd.R_alloc | apply Kd.R_drewN | apply Kd.R_drew)); exact Kd.R_mono HO169.out (fun _ hk => trivial)⟩, ⟨by repeat (first | (with_reducible first | exact HB.out | apply below_alloc | apply pw_below_drewN | apply below_drew1) | exact HB.out)⟩⟩
          case rest =>
            clear HC12
            try clear c1
            try clear hcv1
            try clear c2
            try clear p2
            try clear hcv2
            try clear c5
            try clear c8
            try clear c8b0
            try clear c8b1
            try clear c9
            try clear c15
            try clear c15b0
            try clear c15b1
            try clear c16
            try clear c16b0
            try clear c16b1
            try clear c19
            try clear hcv19
            try clear c20
            try clear hcv20
            try clear c21
            try clear hcv21
            try clear hcv22
            try clear p2
            obtain ⟨kq, x53_11, rfl, HA, HJ11, HO_7, HB⟩ := hcut
            cases kq with
            | zero => exact absurd HA.out (by simp [gazetteerlaw8_SealFrames.j1])
            | succ kj11 =>
              have H := HA.out
              clear HA
              simp only [gazetteerlaw8_SealFrames.j1] at H
              by_cases c23 : x53_11 = true
              · subst c23
                have H1 : (some false) = some r := by rw [if_pos rfl] at H; exact H
                clear H
                have H := H1
                clear H1
                exact absurd H (by rw [HLT.out]; repeat' first | (with_reducible exact dead_none) | (with_reducible exact dead_false) | (with_reducible refine dead_ite ?_ ?_) | (with_reducible refine dead_bind (fun _ => ?_)) | (refine dead_ite ?_ ?_) | (refine dead_bind (fun _ => ?_)) | (simp; done))
              · replace c23 := Bool.eq_false_iff.mpr c23
                subst c23
                have H1 : (if t167 = 0 then ((some (([] : List Int) : List Int)).bind fun y176 => (if y176.length + t166.length < 140737488355328 then ((some (y176 ++ t166 : List Int)).bind fun y179 => (if y179.length + l2.length < 140737488355328 then ((seal_Open.f kj11 (y179 ++ l2)).bind fun bt185 => (if bt185.2.2.2 = 0 then (if bt185.1 = a0 then (if (strOfNums bt185.2.1).toList = (strOfNums l1).toList then (some (bt185.2.2.1 == (t166.length : Int))) else (some false)) else (some false)) else (some false))) else (none))) else (none))) else (some true)) = some r := by rw [if_neg (show ¬ (false = true) by decide)] at H; exact H
                clear H
                have H := H1
                clear H1
                by_cases c24 : t167 = 0
                · rw [if_pos c24] at H
                  have c24b0 : (t167 == 0) = true := beq_iff_eq.mpr c24
                  have c24b1 : (t167 != 0) = false := bne_eq_false_iff_eq.mpr c24
                  clear c24
                  obtain ⟨y176, hy176⟩ : ∃ y_ : List Int, y_ = (([] : List Int)) := ⟨_, rfl⟩
                  replace H : (if y176.length + t166.length < 140737488355328 then ((some (y176 ++ t166 : List Int)).bind fun y179 => (if y179.length + l2.length < 140737488355328 then ((seal_Open.f kj11 (y179 ++ l2)).bind fun bt185 => (if bt185.2.2.2 = 0 then (if bt185.1 = a0 then (if (strOfNums bt185.2.1).toList = (strOfNums l1).toList then (some (bt185.2.2.1 == (t166.length : Int))) else (some false)) else (some false)) else (some false))) else (none))) else (none)) = some r := by first | (rw [hy176]; with_reducible exact H) | (have H2_ := (Option.bind_some _ _).symm.trans H; rw [hy176]; with_reducible exact H2_) | (have H2_ := (Option.bind_some _ _).symm.trans H; with_reducible exact H2_) | with_reducible exact H | (rw [hy176]; exact H) | exact H
                  have Ny176 := Aside0.mk hy176
                  clear hy176
                  by_cases c25 : y176.length + t166.length < 140737488355328
                  · rw [if_pos c25] at H
                    have LMc25 := Aside0.mk c25
                    clear c25
                    obtain ⟨y179, hy179⟩ : ∃ y_ : List Int, y_ = (y176 ++ t166) := ⟨_, rfl⟩
                    replace H : (if y179.length + l2.length < 140737488355328 then ((seal_Open.f kj11 (y179 ++ l2)).bind fun bt185 => (if bt185.2.2.2 = 0 then (if bt185.1 = a0 then (if (strOfNums bt185.2.1).toList = (strOfNums l1).toList then (some (bt185.2.2.1 == (t166.length : Int))) else (some false)) else (some false)) else (some false))) else (none)) = some r := by first | (rw [hy179]; with_reducible exact H) | (have H2_ := (Option.bind_some _ _).symm.trans H; rw [hy179]; with_reducible exact H2_) | (have H2_ := (Option.bind_some _ _).symm.trans H; with_reducible exact H2_) | with_reducible exact H | (rw [hy179]; exact H) | exact H
                    have Ny179 := Aside0.mk hy179
                    clear hy179
                    by_cases c26 : y179.length + l2.length < 140737488355328
                    · rw [if_pos c26] at H
                      have LMc26 := Aside0.mk c26
                      clear c26
                      obtain ⟨y182, hy182⟩ : ∃ y_ : List Int, y_ = (y179 ++ l2) := ⟨_, rfl⟩
                      replace H : ((seal_Open.f kj11 y182).bind fun bt185 => (if bt185.2.2.2 = 0 then (if bt185.1 = a0 then (if (strOfNums bt185.2.1).toList = (strOfNums l1).toList then (some (bt185.2.2.1 == (t166.length : Int))) else (some false)) else (some false)) else (some false))) = some r := by first | (rw [hy182]; with_reducible exact H) | (have H2_ := (Option.bind_some _ _).symm.trans H; rw [hy182]; with_reducible exact H2_) | (have H2_ := (Option.bind_some _ _).symm.trans H; with_reducible exact H2_) | with_reducible exact H | (rw [hy182]; exact H) | exact H
                      have Ny182 := Aside0.mk hy182
                      clear hy182
                      replace H := Option.bind_eq_some_iff.mp H
                      obtain ⟨⟨t185, t186, t187, t188⟩, A270, H⟩ := H
                      replace H : (if t188 = 0 then (if t185 = a0 then (if (strOfNums t186).toList = (strOfNums l1).toList then (some (t187 == (t166.length : Int))) else (some false)) else (some false)) else (some false)) = some r := H
                      have A27 := Aside0.mk A270
                      clear A270
                      by_cases c28 : t188 = 0
                      · rw [if_pos c28] at H
                        have c28b0 : (t188 == 0) = true := beq_iff_eq.mpr c28
                        have c28b1 : (t188 != 0) = false := bne_eq_false_iff_eq.mpr c28
                        clear c28
                        by_cases c29 : t185 = a0
                        · rw [if_pos c29] at H
                          have c29b0 : (t185 == a0) = true := beq_iff_eq.mpr c29
                          have c29b1 : (t185 != a0) = false := bne_eq_false_iff_eq.mpr c29
                          clear c29
                          by_cases c30 : (strOfNums t186).toList = (strOfNums l1).toList
                          · rw [if_pos c30] at H
                            have c30b0 : ((strOfNums t186).toList == (strOfNums l1).toList) = true := beq_iff_eq.mpr c30
                            have c30b1 : ((strOfNums t186).toList != (strOfNums l1).toList) = false := bne_eq_false_iff_eq.mpr c30
                            clear c30
                            obtain rfl := Option.some.inj H
                            go_wp2_with (first | ((with_reducible refine gate_dst (N := 57) rfl ?_); (try (refine gate_guard (by rfl) ?_; dsimp only)); refine Kd.R_lit (Kd.int .u8) _ 5 ?hg (N := 57) ?hd (xs := ([] : List Int)) (inner := []) (ok := fun _ => True) (okp := fun _ => True) ?hr ?hp (fun _ hk => hk) trivial (Below.refl _ _) (Nat.le_refl _) (by simp) ?_; (case hd => rfl); (case hg => rfl); (case hr => first | (go_simp; done) | (go_simp; rfl)); (case hp => exact (Reps.none _ _)); intro v177 w31 ho32 hb hg_ hnew_; clear hg_ hnew_; (first | rw [← Ny176.out] at ho32 | (simp only [Int.reduceToNat] at ho32; rw [← Ny176.out] at ho32)); have n0_ := Aside0.mk (Kd.R_elder' (by (with_reducible repeat (first | apply Kd.R_alloc | apply Kd.R_drewN | apply Kd.R_drew)); exact HO_7.out) (Kd.R_base ho32) hb); have n1_ := Aside0.mk (Kd.R_lower (Kd.R_new' ho32 (Kd.R_lt (by (with_reducible repeat (first | apply Kd.R_alloc | apply Kd.R_drewN | apply Kd.R_drew)); exact HO_7.out))) (below_size (by repeat (first | (with_reducible first | exact HB.out | apply below_alloc | apply pw_below_drewN | apply below_drew1) | exact HB.out)))); have n2_ := Aside0.mk (below_step (by repeat (first | (with_reducible first | exact HB.out | apply below_alloc | apply pw_below_drewN | apply below_drew1) | exact HB.out)) hb); clear HO_7; clear HB; have HO_7 := n0_; have HO178 := n1_; have HB := n2_; clear n0_ n1_ n2_; clear hb ho32; obtain ⟨Ao34, co34, eo34⟩ := Kd.R_slice HO_7.out; subst eo34) | ((with_reducible refine gate_builtin (b := .append) (xs := #[.tmp 57, .tmp 58]) rfl ?_); (try (refine gate_guard (by rfl) ?_; dsimp only)); at_builtin; refine Kd.R_append_rows (Kd.int .u8) (w0 := w) w.heap.size rfl (.tmp 57) (.tmp 58) 22 5 (.int .u8 0) 1 rfl Try.underlying22 info5 rfl (by decide) (by omega) v177 y176 t166 _ _ _ (fun k_ => some k_ ≠ (.slice Ao34 t166.length co34 : Value).ownBlock) (fun _ => False) rfl rfl ?aO ?aR (fun _ _ h => h) (fun _ h => h.elim) ?aF ?aB ?aS ?aL ?_; (case aR => repeat (first | exact (Kd.R_reads' HO_7.out).2.2 | (with_reducible refine Kd.C_alloc ?_ _) | (with_reducible refine Kd.C_drewN ?_ _) | (with_reducible refine Kd.C_drew ?_))); (case aB => exact (by repeat (first | (with_reducible first | exact HB.out | apply below_alloc | apply pw_below_drewN | apply below_drew1) | exact HB.out))); (case aF => exact (fun k_ hk => Kd.fresh' (Kd.R_lt (by (with_reducible repeat (first | apply Kd.R_alloc | apply Kd.R_drewN | apply Kd.R_drew)); exact HO_7.out)) k_ hk)); (case aO => exact (by (with_reducible repeat (first | apply Kd.R_alloc | apply Kd.R_drewN | apply Kd.R_drew)); exact Kd.R_mono HO178.out (fun _ hk => hk.2))); (case aS => exact (below_size (by repeat (first | (with_reducible first | exact HB.out | apply below_alloc | apply pw_below_drewN | apply below_drew1) | exact HB.out)))); (case aL => have := LMc25.out; omega); intro v180 w33 ho hb hg hat; rw [← Ny179.out] at ho; have n0_ := Aside0.mk (Kd.R_after (ok := (fun _ => True)) (by (with_reducible repeat (first | apply Kd.R_alloc | apply Kd.R_drewN | apply Kd.R_drew)); exact HO_7.out) hg hat); have n1_ := Aside0.mk (hb); have n2_ := Aside0.mk (ho); clear HO_7; clear HB; clear HO178; have HO_7 := n0_; have HB := n1_; have HO181 := n2_; clear n0_ n1_ n2_; clear ho hb hg hat) | ((with_reducible refine gate_builtin (b := .append) (xs := #[.tmp 59, .tmp 60]) rfl ?_); (try (refine gate_guard (by rfl) ?_; dsimp only)); at_builtin; refine Kd.R_append_rows (Kd.int .u8) (w0 := w) w.heap.size rfl (.tmp 59) (.tmp 60) 22 5 (.int .u8 0) 1 rfl Try.underlying22 info5 rfl (by decide) (by omega) v180 y179 l2 _ _ _ (fun k_ => some k_ ≠ (.slice Ao34 t166.length co34 : Value).ownBlock) (fun _ => False) rfl rfl ?aO ?aR (fun _ _ h => h) (fun _ h => h.elim) ?aF ?aB ?aS ?aL ?_; (case aR => repeat (first | exact (Kd.C_below HR2.out HB.out) | (with_reducible refine Kd.C_alloc ?_ _) | (with_reducible refine Kd.C_drewN ?_ _) | (with_reducible refine Kd.C_drew ?_))); (case aB => exact (by repeat (first | (with_reducible first | exact HB.out | apply below_alloc | apply pw_below_drewN | apply below_drew1) | exact HB.out))); (case aF => exact (fun k_ hk => Kd.fresh' (Kd.R_lt (by (with_reducible repeat (first | apply Kd.R_alloc | apply Kd.R_drewN | apply Kd.R_drew)); exact HO_7.out)) k_ hk)); (case aO => exact (by (with_reducible repeat (first | apply Kd.R_alloc | apply Kd.R_drewN | apply Kd.R_drew)); exact HO181.out)); (case aS => exact (below_size (by repeat (first | (with_reducible first | exact HB.out | apply below_alloc | apply pw_below_drewN | apply below_drew1) | exact HB.out)))); (case aL => have := LMc26.out; omega); intro v183 w35 ho hb hg hat; rw [← Ny182.out] at ho; have n0_ := Aside0.mk (Kd.R_after (ok := (fun _ => True)) (by (with_reducible repeat (first | apply Kd.R_alloc | apply Kd.R_drewN | apply Kd.R_drew)); exact HO_7.out) hg hat); have n1_ := Aside0.mk (hb); have n2_ := Aside0.mk (ho); clear HO_7; clear HB; clear HO181; have HO_7 := n0_; have HB := n1_; have HO184 := n2_; clear n0_ n1_ n2_; clear ho hb hg hat; obtain ⟨Ao36, co36, eo36⟩ := Kd.R_slice HO184.out; subst eo36) | ((with_reducible refine gate_callee (f := 24) rfl ?_); refine goesL_ (some 62) rfl rfl Try.func24 (by kernel_rfl) rfl #[.slice Ao36 y182.length co36] rfl (by (try simp only [List.map_toArray, List.map_cons, List.map_nil]); first | done | rfl | (simp only [List.length_drop, List.length_take]; done) | (simp only [List.length_drop, List.length_take]; rfl)) ?_; (with_reducible refine (seal_Open.calls kj11 _ _ y182 t185 t186 t187 t188 _ ?side1 ?side2 A27.out).mono ?_); (case side1 => repeat (first | exact (Kd.R_reads' HO184.out).2.2 | (with_reducible refine Kd.C_alloc ?_ _) | (with_reducible refine Kd.C_drewN ?_ _) | (with_reducible refine Kd.C_drew ?_))); (case side2 => exact (Kd.R_reads' HO184.out).2.1); rintro e w37 ⟨v189, rfl, ho0, hb⟩; refine ⟨_, rfl, ?_⟩; have n0_ := Aside0.mk (Kd.R_elder' (by (with_reducible repeat (first | apply Kd.R_alloc | apply Kd.R_drewN | apply Kd.R_drew)); exact HO_7.out) (Kd.R_base ho0) hb); have n1_ := Aside0.mk (Kd.R_elder' (by (with_reducible repeat (first | apply Kd.R_alloc | apply Kd.R_drewN | apply Kd.R_drew)); exact HO184.out) (Kd.R_base ho0) hb); have n2_ := Aside0.mk (Kd.R_lower (Kd.R_new' (Kd.R_new' ho0 (Kd.R_lt (by (with_reducible repeat (first | apply Kd.R_alloc | apply Kd.R_drewN | apply Kd.R_drew)); exact HO_7.out))) (Kd.R_lt (by (with_reducible repeat (first | apply Kd.R_alloc | apply Kd.R_drewN | apply Kd.R_drew)); exact HO184.out))) (below_size (by repeat (first | (with_reducible first | exact HB.out | apply below_alloc | apply pw_below_drewN | apply below_drew1) | exact HB.out)))); have n3_ := Aside0.mk (below_step (by repeat (first | (with_reducible first | exact HB.out | apply below_alloc | apply pw_below_drewN | apply below_drew1) | exact HB.out)) hb); clear HO_7; clear HO184; clear HB; have HO_7 := n0_; have HO184 := n1_; have HO190 := n2_; have HB := n3_; clear n0_ n1_ n2_ n3_; (try clear hb); (try clear hb2); (try clear hk); (try clear hi); (try clear ho0); have hcv38 := own_string (P := Try.prog) Try.underlying22 Try.underlying5 Try.underlying9 (Kd.own_of_R HO190.out); have hcv39 := Kd.C_string (P := Try.prog) (A := A1) (c := c1) Try.underlying22 Try.underlying5 Try.underlying9 (Kd.C_below HR1.out HB.out)))
                            go_ret
                            exact ⟨by first | rfl | (simp [errW_none, errW_some] <;> rfl) | (simp [*, errW_none, errW_some] <;> rfl), by repeat (first | (with_reducible first | exact HB.out | apply below_alloc | apply pw_below_drewN | apply below_drew1) | exact HB.out)⟩
                          · rw [if_neg c30] at H
                            have c30b0 : ((strOfNums t186).toList == (strOfNums l1).toList) = false := beq_eq_false_iff_ne.mpr c30
                            have c30b1 : ((strOfNums t186).toList != (strOfNums l1).toList) = true := bne_iff_ne.mpr c30
                            exact absurd H (by rw [HLT.out]; repeat' first | (with_reducible exact dead_none) | (with_reducible exact dead_false) | (with_reducible refine dead_ite ?_ ?_) | (with_reducible refine dead_bind (fun _ => ?_)) | (refine dead_ite ?_ ?_) | (refine dead_bind (fun _ => ?_)) | (simp; done))
                        · rw [if_neg c29] at H
                          have c29b0 : (t185 == a0) = false := beq_eq_false_iff_ne.mpr c29
                          have c29b1 : (t185 != a0) = true := bne_iff_ne.mpr c29
                          exact absurd H (by rw [HLT.out]; repeat' first | (with_reducible exact dead_none) | (with_reducible exact dead_false) | (with_reducible refine dead_ite ?_ ?_) | (with_reducible refine dead_bind (fun _ => ?_)) | (refine dead_ite ?_ ?_) | (refine dead_bind (fun _ => ?_)) | (simp; done))
                      · rw [if_neg c28] at H
                        have c28b0 : (t188 == 0) = false := beq_eq_false_iff_ne.mpr c28
                        have c28b1 : (t188 != 0) = true := bne_iff_ne.mpr c28
                        exact absurd H (by rw [HLT.out]; repeat' first | (with_reducible exact dead_none) | (with_reducible exact dead_false) | (with_reducible refine dead_ite ?_ ?_) | (with_reducible refine dead_bind (fun _ => ?_)) | (refine dead_ite ?_ ?_) | (refine dead_bind (fun _ => ?_)) | (simp; done))
                    · rw [if_neg c26] at H
                      exact absurd H (by simp)
                  · rw [if_neg c25] at H
                    exact absurd H (by simp)
                · rw [if_neg c24] at H
                  have c24b0 : (t167 == 0) = false := beq_eq_false_iff_ne.mpr c24
                  have c24b1 : (t167 != 0) = true := bne_iff_ne.mpr c24
                  obtain rfl := Option.some.inj H
                  go_wp2
                  go_ret
                  exact ⟨by first | rfl | (simp [errW_none, errW_some] <;> rfl) | (simp [*, errW_none, errW_some] <;> rfl), by repeat (first | (with_reducible first | exact HB.out | apply below_alloc | apply pw_below_drewN | apply below_drew1) | exact HB.out)⟩
  · replace c5 := Bool.eq_false_iff.mpr c5
    subst c5
    have H1 : (some false) = some r := by rw [if_neg (show ¬ (false = true) by decide)] at H; exact H
    clear H
    have H := H1
    clear H1
    exact absurd H (by rw [HLT.out]; repeat' first | (with_reducible exact dead_none) | (with_reducible exact dead_false) | (with_reducible refine dead_ite ?_ ?_) | (with_reducible refine dead_bind (fun _ => ?_)) | (refine dead_ite ?_ ?_) | (refine dead_bind (fun _ => ?_)) | (simp; done))

end Go.Proofs.Ytkolcgofhjbebaa.PSealFrames

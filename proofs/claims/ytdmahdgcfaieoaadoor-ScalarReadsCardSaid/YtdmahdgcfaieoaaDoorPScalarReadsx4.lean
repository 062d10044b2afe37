-- printed by a program of this session (wip/tools), a turned form of the kit's print
import Derived.Test.YtdmahdgcfaieoaaDoorPScalarReadsx0
import Derived.Test.YtdmahdgcfaieoaaDoorPScalarReadsx1
import Derived.Test.YtdmahdgcfaieoaaDoorPScalarReadsx2
import Derived.Test.YtdmahdgcfaieoaaDoorPScalarReadsx3
namespace Go.Proofs.YtdmahdgcfaieoaaDoor.PScalarReads
open Go.RowKit Go.Proofs.YtdmahdgcfaieoaaDoorW.PrintWords Go.Proofs.YtdmahdgcfaieoaaDoorW.PrintLast Go.Proofs.YtdmahdgcfaieoaaDoorW.PrintMore
attribute [local go_sem] max2_int min2_int max_two min_two max_three min_three max_four min_four max2_str min2_str str_geq str_leq str_gtr   -- for this text's walks alone
set_option linter.unusedVariables false
set_option linter.unusedSimpArgs false

/-! ### gazetteerlaw1_ScalarReads: function 3 -/
def gazetteerlaw1_ScalarReads.j0 : Nat → ByteArray → List Int → Int → Bool → Option (Bool)
  | 0, _, _, _, _ => none
  | k + 1, x0, x3, x4, x32 => if x32 = true then (some false) else (if x4 = 0 then ((scalar_Write.f k x3).bind fun bt176 => (if bt176.2 = 0 then (some (bt176.1.toList == x0.toList)) else (some false))) else (some true))
def gazetteerlaw1_ScalarReads.f (k : Nat) (a0 : ByteArray) : Option (Bool) := (gazetteerlaw1_awake.f k).bind fun t166 => (if t166 = true then (if (a0.size : Int) > 3000 then (some true) else ((scalar_Read.f k a0).bind fun bt167 => ((gazetteerref1_Read.f k a0).bind fun bt171 => (if bt167.2 = bt171.2 then ((gazetteerlaw1_Same.f k bt167.1 bt171.1).bind fun t175 => (gazetteerlaw1_ScalarReads.j0 k a0 bt167.1 bt167.2 (!t175))) else (gazetteerlaw1_ScalarReads.j0 k a0 bt167.1 bt167.2 true))))) else (some false))
theorem gazetteerlaw1_ScalarReads.mono_l : ∀ k, (∀ y0 y1 y2 y3, LeO (gazetteerlaw1_ScalarReads.j0 k y0 y1 y2 y3) (gazetteerlaw1_ScalarReads.j0 (k + 1) y0 y1 y2 y3))
  | 0 => fun _ _ _ _ r h => by simp [gazetteerlaw1_ScalarReads.j0] at h
  | k + 1 => by
    have ih0 := gazetteerlaw1_ScalarReads.mono_l k
    · intro y0 y1 y2 y3
      unfold gazetteerlaw1_ScalarReads.j0
      repeat' first
      | (with_reducible exact ih0 _ _ _ _)
      | (with_reducible exact gazetteerlaw1_Same.mono _ _ _)
      | (with_reducible exact gazetteerlaw1_awake.mono _)
      | (with_reducible exact gazetteerref1_Read.mono _ _)
      | (with_reducible exact scalar_Read.mono _ _)
      | (with_reducible exact scalar_Write.mono _ _)
      | (with_reducible exact LeO.refl _)
      | (with_reducible exact LeO.none _)
      | (with_reducible refine LeO.ite ?_ ?_)
      | (with_reducible refine LeO.bind ?_ (fun _ => ?_))
      | exact ih0 _ _ _ _
      | exact gazetteerlaw1_Same.mono _ _ _
      | exact gazetteerlaw1_awake.mono _
      | exact gazetteerref1_Read.mono _ _
      | exact scalar_Read.mono _ _
      | exact scalar_Write.mono _ _
      | exact LeO.none _
      | refine LeO.ite ?_ ?_
      | refine LeO.bind ?_ (fun _ => ?_)
theorem gazetteerlaw1_ScalarReads.mono : ∀ a0 k, LeO (gazetteerlaw1_ScalarReads.f k a0) (gazetteerlaw1_ScalarReads.f (k + 1) a0) := by
  intro a0 k
  have ih0 := gazetteerlaw1_ScalarReads.mono_l k
  unfold gazetteerlaw1_ScalarReads.f
  repeat' first
      | (with_reducible exact ih0 _ _ _ _)
      | (with_reducible exact gazetteerlaw1_Same.mono _ _ _)
      | (with_reducible exact gazetteerlaw1_awake.mono _)
      | (with_reducible exact gazetteerref1_Read.mono _ _)
      | (with_reducible exact scalar_Read.mono _ _)
      | (with_reducible exact scalar_Write.mono _ _)
      | (with_reducible exact LeO.refl _)
      | (with_reducible exact LeO.none _)
      | (with_reducible refine LeO.ite ?_ ?_)
      | (with_reducible refine LeO.bind ?_ (fun _ => ?_))
      | exact ih0 _ _ _ _
      | exact gazetteerlaw1_Same.mono _ _ _
      | exact gazetteerlaw1_awake.mono _
      | exact gazetteerref1_Read.mono _ _
      | exact scalar_Read.mono _ _
      | exact scalar_Write.mono _ _
      | exact LeO.none _
      | refine LeO.ite ?_ ?_
      | refine LeO.bind ?_ (fun _ => ?_)
set_option maxHeartbeats 8000000 in
set_option maxRecDepth 100000 in
theorem gazetteerlaw1_ScalarReads.calls (k : Nat) (a0 : ByteArray) (r : Bool) (w : World) (HLT0 : r = true) (h : gazetteerlaw1_ScalarReads.f k a0 = some r) (hU : UT w := by exact ut_below HU.out (by repeat (first | (with_reducible first | exact HB.out | apply below_alloc | apply pw_below_drewN | apply below_drew1) | exact HB.out))) :
    Calls Tryd.prog 3 #[.string a0] w fun e w' => e = .returned (.bool r) ∧ Below w.heap.size w w' := by
  have HU := Aside0.mk hU
  clear hU
  have HLT := Aside0.mk HLT0
  clear HLT0
  have HB := Aside0.mk (Below.refl w.heap.size w)
  have H : ((gazetteerlaw1_awake.f k).bind fun t166 => (if t166 = true then (if (a0.size : Int) > 3000 then (some true) else ((scalar_Read.f k a0).bind fun bt167 => ((gazetteerref1_Read.f k a0).bind fun bt171 => (if bt167.2 = bt171.2 then ((gazetteerlaw1_Same.f k bt167.1 bt171.1).bind fun t175 => (gazetteerlaw1_ScalarReads.j0 k a0 bt167.1 bt167.2 (!t175))) else (gazetteerlaw1_ScalarReads.j0 k a0 bt167.1 bt167.2 true))))) else (some false))) = some r := h
  clear h
  replace H := Option.bind_eq_some_iff.mp H
  obtain ⟨t166, A20, H⟩ := H
  replace H : (if t166 = true then (if (a0.size : Int) > 3000 then (some true) else ((scalar_Read.f k a0).bind fun bt167 => ((gazetteerref1_Read.f k a0).bind fun bt171 => (if bt167.2 = bt171.2 then ((gazetteerlaw1_Same.f k bt167.1 bt171.1).bind fun t175 => (gazetteerlaw1_ScalarReads.j0 k a0 bt167.1 bt167.2 (!t175))) else (gazetteerlaw1_ScalarReads.j0 k a0 bt167.1 bt167.2 true))))) else (some false)) = some r := H
  have A2 := Aside0.mk A20
  clear A20
  by_cases c3 : t166 = true
  · subst c3
    have H1 : (if (a0.size : Int) > 3000 then (some true) else ((scalar_Read.f k a0).bind fun bt167 => ((gazetteerref1_Read.f k a0).bind fun bt171 => (if bt167.2 = bt171.2 then ((gazetteerlaw1_Same.f k bt167.1 bt171.1).bind fun t175 => (gazetteerlaw1_ScalarReads.j0 k a0 bt167.1 bt167.2 (!t175))) else (gazetteerlaw1_ScalarReads.j0 k a0 bt167.1 bt167.2 true))))) = some r := by rw [if_pos rfl] at H; exact H
    clear H
    have H := H1
    clear H1
    by_cases c4 : (a0.size : Int) > 3000
    · rw [if_pos c4] at H
      have c4b0 : decide (3000 < (a0.size : Int)) = true := decide_eq_true c4
      have c4b1 : decide (3000 < a0.size) = true := decide_eq_true (by omega)
      clear c4
      obtain rfl := Option.some.inj H
      go_enter Tryd.func3, Tryd.ntmps3
      go_wp2_with (first | ((with_reducible refine gate_callee (f := 8) rfl ?_); refine goesL_ (some 9) rfl rfl Tryd.func8 (by kernel_rfl) rfl #[] rfl (by (try simp only [List.map_toArray, List.map_cons, List.map_nil]); first | done | rfl | (simp only [List.length_drop, List.length_take]; done) | (simp only [List.length_drop, List.length_take]; rfl)) ?_; (with_reducible refine (gazetteerlaw1_awake.calls k  true _ A2.out).mono ?_); rintro e w5 ⟨rfl, hb⟩; refine ⟨_, rfl, ?_⟩; have n0_ := Aside0.mk (below_step (by repeat (first | (with_reducible first | exact HB.out | apply below_alloc | apply pw_below_drewN | apply below_drew1) | exact HB.out)) hb); clear HB; have HB := n0_; clear n0_; (try clear hb); (try clear hb2); (try clear hk); (try clear hi)))
      go_ret
      exact ⟨by first | rfl | (simp [errW_none, errW_some] <;> rfl) | (simp [*, errW_none, errW_some] <;> rfl), by repeat (first | (with_reducible first | exact HB.out | apply below_alloc | apply pw_below_drewN | apply below_drew1) | exact HB.out)⟩
    · rw [if_neg c4] at H
      have c4b0 : decide (3000 < (a0.size : Int)) = false := decide_eq_false c4
      have c4b1 : decide (3000 < a0.size) = false := decide_eq_false (by omega)
      clear c4
      replace H := Option.bind_eq_some_iff.mp H
      obtain ⟨⟨t167, t168⟩, A60, H⟩ := H
      replace H : ((gazetteerref1_Read.f k a0).bind fun bt171 => (if t168 = bt171.2 then ((gazetteerlaw1_Same.f k t167 bt171.1).bind fun t175 => (gazetteerlaw1_ScalarReads.j0 k a0 t167 t168 (!t175))) else (gazetteerlaw1_ScalarReads.j0 k a0 t167 t168 true))) = some r := H
      have A6 := Aside0.mk A60
      clear A60
      replace H := Option.bind_eq_some_iff.mp H
      obtain ⟨⟨t171, t172⟩, A70, H⟩ := H
      replace H : (if t168 = t172 then ((gazetteerlaw1_Same.f k t167 t171).bind fun t175 => (gazetteerlaw1_ScalarReads.j0 k a0 t167 t168 (!t175))) else (gazetteerlaw1_ScalarReads.j0 k a0 t167 t168 true)) = some r := H
      have A7 := Aside0.mk A70
      clear A70
      have HC8 := Aside0.mk H
      clear H
      go_enter Tryd.func3, Tryd.ntmps3
      go_upto_region 7 with (first | ((with_reducible refine gate_callee (f := 8) rfl ?_); refine goesL_ (some 9) rfl rfl Tryd.func8 (by kernel_rfl) rfl #[] rfl (by (try simp only [List.map_toArray, List.map_cons, List.map_nil]); first | done | rfl | (simp only [List.length_drop, List.length_take]; done) | (simp only [List.length_drop, List.length_take]; rfl)) ?_; (with_reducible refine (gazetteerlaw1_awake.calls k  true _ A2.out).mono ?_); rintro e w9 ⟨rfl, hb⟩; refine ⟨_, rfl, ?_⟩; have n0_ := Aside0.mk (below_step (by repeat (first | (with_reducible first | exact HB.out | apply below_alloc | apply pw_below_drewN | apply below_drew1) | exact HB.out)) hb); clear HB; have HB := n0_; clear n0_; (try clear hb); (try clear hb2); (try clear hk); (try clear hi)) | ((with_reducible refine gate_callee (f := 9) rfl ?_); refine goesL_ (some 16) rfl rfl Tryd.func9 (by kernel_rfl) rfl #[.string a0] rfl (by (try simp only [List.map_toArray, List.map_cons, List.map_nil]); first | done | rfl | (simp only [List.length_drop, List.length_take]; done) | (simp only [List.length_drop, List.length_take]; rfl)) ?_; (with_reducible refine (scalar_Read.calls k a0 t167 t168 _ A6.out).mono ?_); rintro e w10 ⟨v169, rfl, ho0, hb⟩; refine ⟨_, rfl, ?_⟩; have n0_ := Aside0.mk (Kd.R_lower ho0 (below_size (by repeat (first | (with_reducible first | exact HB.out | apply below_alloc | apply pw_below_drewN | apply below_drew1) | exact HB.out)))); have n1_ := Aside0.mk (below_step (by repeat (first | (with_reducible first | exact HB.out | apply below_alloc | apply pw_below_drewN | apply below_drew1) | exact HB.out)) hb); clear HB; have HO170 := n0_; have HB := n1_; clear n0_ n1_; (try clear hb); (try clear hb2); (try clear hk); (try clear hi); (try clear ho0)) | ((with_reducible refine gate_callee (f := 10) rfl ?_); refine goesL_ (some 21) rfl rfl Tryd.func10 (by kernel_rfl) rfl #[.string a0] rfl (by (try simp only [List.map_toArray, List.map_cons, List.map_nil]); first | done | rfl | (simp only [List.length_drop, List.length_take]; done) | (simp only [List.length_drop, List.length_take]; rfl)) ?_; (with_reducible refine (gazetteerref1_Read.calls k a0 t171 t172 _ A7.out).mono ?_); rintro e w11 ⟨v173, rfl, ho0, hb⟩; refine ⟨_, rfl, ?_⟩; have n0_ := Aside0.mk (Kd.R_elder' (by (with_reducible repeat (first | apply Kd.R_alloc | apply Kd.R_drewN | apply Kd.R_drew)); exact HO170.out) (Kd.R_base ho0) hb); have n1_ := Aside0.mk (Kd.R_lower (Kd.R_new' ho0 (Kd.R_lt (by (with_reducible repeat (first | apply Kd.R_alloc | apply Kd.R_drewN | apply Kd.R_drew)); exact HO170.out))) (below_size (by repeat (first | (with_reducible first | exact HB.out | apply below_alloc | apply pw_below_drewN | apply below_drew1) | exact HB.out)))); have n2_ := Aside0.mk (below_step (by repeat (first | (with_reducible first | exact HB.out | apply below_alloc | apply pw_below_drewN | apply below_drew1) | exact HB.out)) hb); clear HO170; clear HB; have HO170 := n0_; have HO174 := n1_; have HB := n2_; clear n0_ n1_ n2_; (try clear hb); (try clear hb2); (try clear hk); (try clear hi); (try clear ho0)))
      (try simp only [Act.put, List.setIfInBounds_toArray, List.set_cons_zero, List.set_cons_succ])
      go_cut [32] (fun v32 wc => ∃ (kq : Nat) (x32_7 : Bool), v32 = .bool x32_7 ∧ Aside0 (gazetteerlaw1_ScalarReads.j0 kq a0 t167 t168 x32_7 = some r) ∧ Aside0 (kq ≤ k) ∧ Aside0 (Kd.R (Kd.int .i32) 21 wc w.heap.size (fun _ => True) v169 t167) ∧ Aside0 (Below w.heap.size w wc))
      case first =>
        have H := HC8.out
        clear HC8
        by_cases c12 : t168 = t172
        · rw [if_pos c12] at H
          have c12b0 : (t168 == t172) = true := beq_iff_eq.mpr c12
          have c12b1 : (t168 != t172) = false := bne_eq_false_iff_eq.mpr c12
          clear c12
          (first | rw [c12b0] | (simp only [i64_w, i32_w]; rw [c12b0]) | skip)
          replace H := Option.bind_eq_some_iff.mp H
          obtain ⟨t175, A130, H⟩ := H
          replace H : (gazetteerlaw1_ScalarReads.j0 k a0 t167 t168 (!t175)) = some r := H
          have A13 := Aside0.mk A130
          clear A130
          have H' := Aside0.mk H
          clear H
          obtain ⟨Ao14, co14, eo14⟩ := Kd.R_slice HO170.out
          subst eo14
          obtain ⟨Ao15, co15, eo15⟩ := Kd.R_slice HO174.out
          subst eo15
          go_wp2_with (first | (go_at_call 11; (with_reducible refine (gazetteerlaw1_Same.calls k _ _ t167 _ _ t171 t175 _ ?side1 ?side2 ?side3 ?side4 A13.out).mono ?_); (case side1 => repeat (first | exact (Kd.R_reads' HO170.out).2.2 | (with_reducible refine Kd.C_alloc ?_ _) | (with_reducible refine Kd.C_drewN ?_ _) | (with_reducible refine Kd.C_drew ?_))); (case side2 => exact (Kd.R_reads' HO170.out).2.1); (case side3 => repeat (first | exact (Kd.R_reads' HO174.out).2.2 | (with_reducible refine Kd.C_alloc ?_ _) | (with_reducible refine Kd.C_drewN ?_ _) | (with_reducible refine Kd.C_drew ?_))); (case side4 => exact (Kd.R_reads' HO174.out).2.1); rintro e w' ⟨rfl, ⟨nd, rfl⟩⟩))
          go_meet
          case rel => exact ⟨_, (!t175), (by first | rfl | (simp; done) | (simp [*]; done)), H', ⟨by first | omega | exact Nat.le_refl _⟩, ⟨by (with_reducible repeat (first | apply Kd.R_alloc | apply Kd.R_drewN | apply Kd.R_drew)); exact Kd.R_mono HO170.out (fun _ hk => trivial)⟩, ⟨by repeat (first | (with_reducible first | exact HB.out | apply below_alloc | apply pw_below_drewN | apply below_drew1) | exact HB.out)⟩⟩
        · rw [if_neg c12] at H
          have c12b0 : (t168 == t172) = false := beq_eq_false_iff_ne.mpr c12
          have c12b1 : (t168 != t172) = true := bne_iff_ne.mpr c12
          (first | rw [c12b0] | (simp only [i64_w, i32_w]; rw [c12b0]) | skip)
          have H' := Aside0.mk H
          clear H
          go_wp2
          go_meet
          case rel => exact ⟨_, (true), (by first | rfl | (simp; done) | (simp [*]; done)), H', ⟨by first | omega | exact Nat.le_refl _⟩, ⟨by (with_reducible repeat (first | apply Kd.R_alloc | apply Kd.R_drewN | apply Kd.R_drew)); exact Kd.R_mono HO170.out (fun _ hk => trivial)⟩, ⟨by repeat (first | (with_reducible first | exact HB.out | apply below_alloc | apply pw_below_drewN | apply below_drew1) | exact HB.out)⟩⟩
      case rest =>
        clear HC8
        try clear c1
        try clear p2
        try clear c3
        try clear c4
        try clear c4b0
        try clear c4b1
        try clear c8
        try clear c9
        try clear c10
        try clear c12
        try clear c12b0
        try clear c12b1
        obtain ⟨kq, x32_7, rfl, HA, HJ7, HO_3, HB⟩ := hcut
        cases kq with
        | zero => exact absurd HA.out (by simp [gazetteerlaw1_ScalarReads.j0])
        | succ kj7 =>
          have H := HA.out
          clear HA
          simp only [gazetteerlaw1_ScalarReads.j0] at H
          by_cases c16 : x32_7 = true
          · subst c16
            have H1 : (some false) = some r := by rw [if_pos rfl] at H; exact H
            clear H
            have H := H1
            clear H1
            exact absurd H (by rw [HLT.out]; repeat' first | (with_reducible exact dead_none) | (with_reducible exact dead_false) | (with_reducible refine dead_ite ?_ ?_) | (with_reducible refine dead_bind (fun _ => ?_)) | (refine dead_ite ?_ ?_) | (refine dead_bind (fun _ => ?_)) | (simp; done))
          · replace c16 := Bool.eq_false_iff.mpr c16
            subst c16
            have H1 : (if t168 = 0 then ((scalar_Write.f kj7 t167).bind fun bt176 => (if bt176.2 = 0 then (some (bt176.1.toList == a0.toList)) else (some false))) else (some true)) = some r := by rw [if_neg (show ¬ (false = true) by decide)] at H; exact H
            clear H
            have H := H1
            clear H1
            by_cases c17 : t168 = 0
            · rw [if_pos c17] at H
              have c17b0 : (t168 == 0) = true := beq_iff_eq.mpr c17
              have c17b1 : (t168 != 0) = false := bne_eq_false_iff_eq.mpr c17
              clear c17
              replace H := Option.bind_eq_some_iff.mp H
              obtain ⟨⟨t176, t177⟩, A180, H⟩ := H
              replace H : (if t177 = 0 then (some (t176.toList == a0.toList)) else (some false)) = some r := H
              have A18 := Aside0.mk A180
              clear A180
              by_cases c19 : t177 = 0
              · rw [if_pos c19] at H
                have c19b0 : (t177 == 0) = true := beq_iff_eq.mpr c19
                have c19b1 : (t177 != 0) = false := bne_eq_false_iff_eq.mpr c19
                clear c19
                obtain rfl := Option.some.inj H
                obtain ⟨Ao20, co20, eo20⟩ := Kd.R_slice HO_3.out
                subst eo20
                go_wp2_with (first | ((with_reducible refine gate_callee (f := 12) rfl ?_); refine goesL_ (some 37) rfl rfl Tryd.func12 (by kernel_rfl) rfl #[.slice Ao20 t167.length co20] rfl (by (try simp only [List.map_toArray, List.map_cons, List.map_nil]); first | done | rfl | (simp only [List.length_drop, List.length_take]; done) | (simp only [List.length_drop, List.length_take]; rfl)) ?_; (with_reducible refine (scalar_Write.calls kj7 _ _ t167 t176 t177 _ ?side1 ?side2 A18.out).mono ?_); (case side1 => repeat (first | exact (Kd.R_reads' HO_3.out).2.2 | (with_reducible refine Kd.C_alloc ?_ _) | (with_reducible refine Kd.C_drewN ?_ _) | (with_reducible refine Kd.C_drew ?_))); (case side2 => exact (Kd.R_reads' HO_3.out).2.1); rintro e w21 ⟨rfl, hb⟩; refine ⟨_, rfl, ?_⟩; have n0_ := Aside0.mk (Kd.R_below (by (with_reducible repeat (first | apply Kd.R_alloc | apply Kd.R_drewN | apply Kd.R_drew)); exact HO_3.out) hb); have n1_ := Aside0.mk (below_step (by repeat (first | (with_reducible first | exact HB.out | apply below_alloc | apply pw_below_drewN | apply below_drew1) | exact HB.out)) hb); clear HO_3; clear HB; have HO_3 := n0_; have HB := n1_; clear n0_ n1_; (try clear hb); (try clear hb2); (try clear hk); (try clear hi)))
                go_ret
                exact ⟨by first | rfl | (simp [errW_none, errW_some] <;> rfl) | (simp [*, errW_none, errW_some] <;> rfl), by repeat (first | (with_reducible first | exact HB.out | apply below_alloc | apply pw_below_drewN | apply below_drew1) | exact HB.out)⟩
              · rw [if_neg c19] at H
                have c19b0 : (t177 == 0) = false := beq_eq_false_iff_ne.mpr c19
                have c19b1 : (t177 != 0) = true := bne_iff_ne.mpr c19
                exact absurd H (by rw [HLT.out]; repeat' first | (with_reducible exact dead_none) | (with_reducible exact dead_false) | (with_reducible refine dead_ite ?_ ?_) | (with_reducible refine dead_bind (fun _ => ?_)) | (refine dead_ite ?_ ?_) | (refine dead_bind (fun _ => ?_)) | (simp; done))
            · rw [if_neg c17] at H
              have c17b0 : (t168 == 0) = false := beq_eq_false_iff_ne.mpr c17
              have c17b1 : (t168 != 0) = true := bne_iff_ne.mpr c17
              obtain rfl := Option.some.inj H
              go_wp2
              go_ret
              exact ⟨by first | rfl | (simp [errW_none, errW_some] <;> rfl) | (simp [*, errW_none, errW_some] <;> rfl), by repeat (first | (with_reducible first | exact HB.out | apply below_alloc | apply pw_below_drewN | apply below_drew1) | exact HB.out)⟩
  · replace c3 := Bool.eq_false_iff.mpr c3
    subst c3
    have H1 : (some false) = some r := by rw [if_neg (show ¬ (false = true) by decide)] at H; exact H
    clear H
    have H := H1
    clear H1
    exact absurd H (by rw [HLT.out]; repeat' first | (with_reducible exact dead_none) | (with_reducible exact dead_false) | (with_reducible refine dead_ite ?_ ?_) | (with_reducible refine dead_bind (fun _ => ?_)) | (refine dead_ite ?_ ?_) | (refine dead_bind (fun _ => ?_)) | (simp; done))

end Go.Proofs.YtdmahdgcfaieoaaDoor.PScalarReads

-- printed by a program of this session (wip/tools), a turned form of the kit's print
import Derived.Test.YtdmahdgcfaieoaaDoorPScalarReadsx0
import Derived.Test.YtdmahdgcfaieoaaDoorPScalarReadsx2
namespace Go.Proofs.YtdmahdgcfaieoaaDoor.PScalarReads
open Go.RowKit Go.Proofs.YtdmahdgcfaieoaaDoorW.PrintWords Go.Proofs.YtdmahdgcfaieoaaDoorW.PrintLast Go.Proofs.YtdmahdgcfaieoaaDoorW.PrintMore
attribute [local go_sem] max2_int min2_int max_two min_two max_three min_three max_four min_four max2_str min2_str str_geq str_leq str_gtr   -- for this text's walks alone
set_option linter.unusedVariables false
set_option linter.unusedSimpArgs false

/-! ### gazetteerref1_Read: function 10 -/
mutual
def gazetteerref1_Read.l0 : Nat → ByteArray → List Int → Int → Option (List Int × Int)
  | 0, _, _, _ => none
  | k + 1, x0, x4, x5 => if x5 < (x0.size : Int) then (if 0 ≤ x5 then (if (bt x0 x5) < 128 then (gazetteerref1_Read.j3 k x0 x4 x5 1 (wrap32 (bt x0 x5))) else (if (bt x0 x5) ≥ 194 then (gazetteerref1_Read.j1 k x0 x4 x5 (bt x0 x5) 0 (wrap32 (bt x0 x5)) (decide ((bt x0 x5) < 224))) else (gazetteerref1_Read.j1 k x0 x4 x5 (bt x0 x5) 0 (wrap32 (bt x0 x5)) false))) else (none)) else (some (x4, 0))
def gazetteerref1_Read.j3 : Nat → ByteArray → List Int → Int → Int → Int → Option (List Int × Int)
  | 0, _, _, _, _, _ => none
  | k + 1, x0, x4, x5, x7, x8 => if x7 = 0 then (gazetteerref1_Read.j4 k x0 x4 x5 x7 x8 true) else (gazetteerref1_Read.j4 k x0 x4 x5 x7 x8 (decide ((wrap64 ((x0.size : Int) - x5)) < x7)))
def gazetteerref1_Read.j4 : Nat → ByteArray → List Int → Int → Int → Int → Bool → Option (List Int × Int)
  | 0, _, _, _, _, _, _ => none
  | k + 1, x0, x4, x5, x7, x8, x61 => if x61 = true then (some (([] : List Int), 2)) else (gazetteerref1_Read.l1 k x0 x4 x5 x7 x8 1)
def gazetteerref1_Read.l1 : Nat → ByteArray → List Int → Int → Int → Int → Int → Option (List Int × Int)
  | 0, _, _, _, _, _, _ => none
  | k + 1, x0, x4, x5, x7, x8, x9 => if x9 < x7 then (if 0 ≤ (wrap64 (x5 + x9)) then (if (wrap64 (x5 + x9)) < (x0.size : Int) then (if (Go.bits .and .u8 (bt x0 (wrap64 (x5 + x9))) 192) = 128 then (gazetteerref1_Read.l1 k x0 x4 x5 x7 (Go.bits .or .i32 (wrap32 (x8 * 64)) (wrap32 (Go.bits .and .u8 (bt x0 (wrap64 (x5 + x9))) 63))) (wrap64 (x9 + 1))) else (some (([] : List Int), 2))) else (none)) else (none)) else (if x7 = 3 then (if x8 < 2048 then (some (([] : List Int), 2)) else (if x7 = 4 then (if x8 < 65536 then (some (([] : List Int), 2)) else ((gazetteerref1_May.f x8).bind fun t150 => (if t150 = true then (if x4.length < 35184372088832 then (gazetteerref1_Read.l0 k x0 (x4 ++ [x8]) (wrap64 (x5 + x7))) else (none)) else (some (([] : List Int), 2))))) else ((gazetteerref1_May.f x8).bind fun t154 => (if t154 = true then (if x4.length < 35184372088832 then (gazetteerref1_Read.l0 k x0 (x4 ++ [x8]) (wrap64 (x5 + x7))) else (none)) else (some (([] : List Int), 2)))))) else (if x7 = 4 then (if x8 < 65536 then (some (([] : List Int), 2)) else ((gazetteerref1_May.f x8).bind fun t158 => (if t158 = true then (if x4.length < 35184372088832 then (gazetteerref1_Read.l0 k x0 (x4 ++ [x8]) (wrap64 (x5 + x7))) else (none)) else (some (([] : List Int), 2))))) else ((gazetteerref1_May.f x8).bind fun t162 => (if t162 = true then (if x4.length < 35184372088832 then (gazetteerref1_Read.l0 k x0 (x4 ++ [x8]) (wrap64 (x5 + x7))) else (none)) else (some (([] : List Int), 2))))))
def gazetteerref1_Read.j1 : Nat → ByteArray → List Int → Int → Int → Int → Int → Bool → Option (List Int × Int)
  | 0, _, _, _, _, _, _, _ => none
  | k + 1, x0, x4, x5, x6, x7, x8, x22 => if x22 = true then (gazetteerref1_Read.j3 k x0 x4 x5 2 (wrap32 (Go.bits .and .u8 x6 31))) else (if x6 ≥ 224 then (gazetteerref1_Read.j2 k x0 x4 x5 x6 x7 x8 (decide (x6 < 240))) else (gazetteerref1_Read.j2 k x0 x4 x5 x6 x7 x8 false))
def gazetteerref1_Read.j2 : Nat → ByteArray → List Int → Int → Int → Int → Int → Bool → Option (List Int × Int)
  | 0, _, _, _, _, _, _, _ => none
  | k + 1, x0, x4, x5, x6, x7, x8, x32 => if x32 = true then (gazetteerref1_Read.j3 k x0 x4 x5 3 (wrap32 (Go.bits .and .u8 x6 15))) else (if x6 ≥ 240 then (if x6 < 245 then (gazetteerref1_Read.j3 k x0 x4 x5 4 (wrap32 (Go.bits .and .u8 x6 7))) else (gazetteerref1_Read.j3 k x0 x4 x5 x7 x8)) else (gazetteerref1_Read.j3 k x0 x4 x5 x7 x8))
end
def gazetteerref1_Read.f (k : Nat) (a0 : ByteArray) : Option (List Int × Int) := gazetteerref1_Read.l0 k a0 ([] : List Int) 0
theorem gazetteerref1_Read.mono_l : ∀ k, (∀ y0 y1 y2, LeO (gazetteerref1_Read.l0 k y0 y1 y2) (gazetteerref1_Read.l0 (k + 1) y0 y1 y2)) ∧ (∀ y0 y1 y2 y3 y4, LeO (gazetteerref1_Read.j3 k y0 y1 y2 y3 y4) (gazetteerref1_Read.j3 (k + 1) y0 y1 y2 y3 y4)) ∧ (∀ y0 y1 y2 y3 y4 y5, LeO (gazetteerref1_Read.j4 k y0 y1 y2 y3 y4 y5) (gazetteerref1_Read.j4 (k + 1) y0 y1 y2 y3 y4 y5)) ∧ (∀ y0 y1 y2 y3 y4 y5, LeO (gazetteerref1_Read.l1 k y0 y1 y2 y3 y4 y5) (gazetteerref1_Read.l1 (k + 1) y0 y1 y2 y3 y4 y5)) ∧ (∀ y0 y1 y2 y3 y4 y5 y6, LeO (gazetteerref1_Read.j1 k y0 y1 y2 y3 y4 y5 y6) (gazetteerref1_Read.j1 (k + 1) y0 y1 y2 y3 y4 y5 y6)) ∧ (∀ y0 y1 y2 y3 y4 y5 y6, LeO (gazetteerref1_Read.j2 k y0 y1 y2 y3 y4 y5 y6) (gazetteerref1_Read.j2 (k + 1) y0 y1 y2 y3 y4 y5 y6))
  | 0 => ⟨fun _ _ _ r h => by simp [gazetteerref1_Read.l0] at h, fun _ _ _ _ _ r h => by simp [gazetteerref1_Read.j3] at h, fun _ _ _ _ _ _ r h => by simp [gazetteerref1_Read.j4] at h, fun _ _ _ _ _ _ r h => by simp [gazetteerref1_Read.l1] at h, fun _ _ _ _ _ _ _ r h => by simp [gazetteerref1_Read.j1] at h, fun _ _ _ _ _ _ _ r h => by simp [gazetteerref1_Read.j2] at h⟩
  | k + 1 => by
    obtain ⟨ih0, ih1, ih2, ih3, ih4, ih5⟩ := gazetteerref1_Read.mono_l k
    refine ⟨?_, ?_, ?_, ?_, ?_, ?_⟩
    · intro y0 y1 y2
      unfold gazetteerref1_Read.l0
      repeat' first
      | (with_reducible exact ih0 _ _ _)
      | (with_reducible exact ih1 _ _ _ _ _)
      | (with_reducible exact ih2 _ _ _ _ _ _)
      | (with_reducible exact ih3 _ _ _ _ _ _)
      | (with_reducible exact ih4 _ _ _ _ _ _ _)
      | (with_reducible exact ih5 _ _ _ _ _ _ _)
      | (with_reducible exact LeO.refl _)
      | (with_reducible exact LeO.none _)
      | (with_reducible refine LeO.ite ?_ ?_)
      | (with_reducible refine LeO.bind ?_ (fun _ => ?_))
      | exact ih0 _ _ _
      | exact ih1 _ _ _ _ _
      | exact ih2 _ _ _ _ _ _
      | exact ih3 _ _ _ _ _ _
      | exact ih4 _ _ _ _ _ _ _
      | exact ih5 _ _ _ _ _ _ _
      | exact LeO.none _
      | refine LeO.ite ?_ ?_
      | refine LeO.bind ?_ (fun _ => ?_)
    · intro y0 y1 y2 y3 y4
      unfold gazetteerref1_Read.j3
      repeat' first
      | (with_reducible exact ih0 _ _ _)
      | (with_reducible exact ih1 _ _ _ _ _)
      | (with_reducible exact ih2 _ _ _ _ _ _)
      | (with_reducible exact ih3 _ _ _ _ _ _)
      | (with_reducible exact ih4 _ _ _ _ _ _ _)
      | (with_reducible exact ih5 _ _ _ _ _ _ _)
      | (with_reducible exact LeO.refl _)
      | (with_reducible exact LeO.none _)
      | (with_reducible refine LeO.ite ?_ ?_)
      | (with_reducible refine LeO.bind ?_ (fun _ => ?_))
      | exact ih0 _ _ _
      | exact ih1 _ _ _ _ _
      | exact ih2 _ _ _ _ _ _
      | exact ih3 _ _ _ _ _ _
      | exact ih4 _ _ _ _ _ _ _
      | exact ih5 _ _ _ _ _ _ _
      | exact LeO.none _
      | refine LeO.ite ?_ ?_
      | refine LeO.bind ?_ (fun _ => ?_)
    · intro y0 y1 y2 y3 y4 y5
      unfold gazetteerref1_Read.j4
      repeat' first
      | (with_reducible exact ih0 _ _ _)
      | (with_reducible exact ih1 _ _ _ _ _)
      | (with_reducible exact ih2 _ _ _ _ _ _)
      | (with_reducible exact ih3 _ _ _ _ _ _)
      | (with_reducible exact ih4 _ _ _ _ _ _ _)
      | (with_reducible exact ih5 _ _ _ _ _ _ _)
      | (with_reducible exact LeO.refl _)
      | (with_reducible exact LeO.none _)
      | (with_reducible refine LeO.ite ?_ ?_)
      | (with_reducible refine LeO.bind ?_ (fun _ => ?_))
      | exact ih0 _ _ _
      | exact ih1 _ _ _ _ _
      | exact ih2 _ _ _ _ _ _
      | exact ih3 _ _ _ _ _ _
      | exact ih4 _ _ _ _ _ _ _
      | exact ih5 _ _ _ _ _ _ _
      | exact LeO.none _
      | refine LeO.ite ?_ ?_
      | refine LeO.bind ?_ (fun _ => ?_)
    · intro y0 y1 y2 y3 y4 y5
      unfold gazetteerref1_Read.l1
      repeat' first
      | (with_reducible exact ih0 _ _ _)
      | (with_reducible exact ih1 _ _ _ _ _)
      | (with_reducible exact ih2 _ _ _ _ _ _)
      | (with_reducible exact ih3 _ _ _ _ _ _)
      | (with_reducible exact ih4 _ _ _ _ _ _ _)
      | (with_reducible exact ih5 _ _ _ _ _ _ _)
      | (with_reducible exact LeO.refl _)
      | (with_reducible exact LeO.none _)
      | (with_reducible refine LeO.ite ?_ ?_)
      | (with_reducible refine LeO.bind ?_ (fun _ => ?_))
      | exact ih0 _ _ _
      | exact ih1 _ _ _ _ _
      | exact ih2 _ _ _ _ _ _
      | exact ih3 _ _ _ _ _ _
      | exact ih4 _ _ _ _ _ _ _
      | exact ih5 _ _ _ _ _ _ _
      | exact LeO.none _
      | refine LeO.ite ?_ ?_
      | refine LeO.bind ?_ (fun _ => ?_)
    · intro y0 y1 y2 y3 y4 y5 y6
      unfold gazetteerref1_Read.j1
      repeat' first
      | (with_reducible exact ih0 _ _ _)
      | (with_reducible exact ih1 _ _ _ _ _)
      | (with_reducible exact ih2 _ _ _ _ _ _)
      | (with_reducible exact ih3 _ _ _ _ _ _)
      | (with_reducible exact ih4 _ _ _ _ _ _ _)
      | (with_reducible exact ih5 _ _ _ _ _ _ _)
      | (with_reducible exact LeO.refl _)
      | (with_reducible exact LeO.none _)
      | (with_reducible refine LeO.ite ?_ ?_)
      | (with_reducible refine LeO.bind ?_ (fun _ => ?_))
      | exact ih0 _ _ _
      | exact ih1 _ _ _ _ _
      | exact ih2 _ _ _ _ _ _
      | exact ih3 _ _ _ _ _ _
      | exact ih4 _ _ _ _ _ _ _
      | exact ih5 _ _ _ _ _ _ _
      | exact LeO.none _
      | refine LeO.ite ?_ ?_
      | refine LeO.bind ?_ (fun _ => ?_)
    · intro y0 y1 y2 y3 y4 y5 y6
      unfold gazetteerref1_Read.j2
      repeat' first
      | (with_reducible exact ih0 _ _ _)
      | (with_reducible exact ih1 _ _ _ _ _)
      | (with_reducible exact ih2 _ _ _ _ _ _)
      | (with_reducible exact ih3 _ _ _ _ _ _)
      | (with_reducible exact ih4 _ _ _ _ _ _ _)
      | (with_reducible exact ih5 _ _ _ _ _ _ _)
      | (with_reducible exact LeO.refl _)
      | (with_reducible exact LeO.none _)
      | (with_reducible refine LeO.ite ?_ ?_)
      | (with_reducible refine LeO.bind ?_ (fun _ => ?_))
      | exact ih0 _ _ _
      | exact ih1 _ _ _ _ _
      | exact ih2 _ _ _ _ _ _
      | exact ih3 _ _ _ _ _ _
      | exact ih4 _ _ _ _ _ _ _
      | exact ih5 _ _ _ _ _ _ _
      | exact LeO.none _
      | refine LeO.ite ?_ ?_
      | refine LeO.bind ?_ (fun _ => ?_)
theorem gazetteerref1_Read.mono : ∀ a0 k, LeO (gazetteerref1_Read.f k a0) (gazetteerref1_Read.f (k + 1) a0) := by
  intro a0 k
  obtain ⟨ih0, ih1, ih2, ih3, ih4, ih5⟩ := gazetteerref1_Read.mono_l k
  unfold gazetteerref1_Read.f
  repeat' first
      | (with_reducible exact ih0 _ _ _)
      | (with_reducible exact ih1 _ _ _ _ _)
      | (with_reducible exact ih2 _ _ _ _ _ _)
      | (with_reducible exact ih3 _ _ _ _ _ _)
      | (with_reducible exact ih4 _ _ _ _ _ _ _)
      | (with_reducible exact ih5 _ _ _ _ _ _ _)
      | (with_reducible exact LeO.refl _)
      | (with_reducible exact LeO.none _)
      | (with_reducible refine LeO.ite ?_ ?_)
      | (with_reducible refine LeO.bind ?_ (fun _ => ?_))
      | exact ih0 _ _ _
      | exact ih1 _ _ _ _ _
      | exact ih2 _ _ _ _ _ _
      | exact ih3 _ _ _ _ _ _
      | exact ih4 _ _ _ _ _ _ _
      | exact ih5 _ _ _ _ _ _ _
      | exact LeO.none _
      | refine LeO.ite ?_ ?_
      | refine LeO.bind ?_ (fun _ => ?_)
set_option maxHeartbeats 8000000 in
set_option maxRecDepth 100000 in
theorem gazetteerref1_Read.calls (k : Nat) (a0 : ByteArray) (r1 : List Int) (r2 : Int) (w : World) (h : gazetteerref1_Read.f k a0 = some (r1, r2)) :
    Calls Tryd.prog 10 #[.string a0] w fun e w' => ∃ v0_ : Value, e = .returned (.tuple #[v0_, .int .i64 r2]) ∧ Kd.R (Kd.int .i32) 21 w' w.heap.size (fun _ => True) v0_ r1 ∧ Below w.heap.size w w' := by
  have HB := Aside0.mk (Below.refl w.heap.size w)
  have H : (gazetteerref1_Read.l0 k a0 ([] : List Int) 0) = some (r1, r2) := h
  clear h
  have H' := Aside0.mk H
  clear H
  go_enter Tryd.func10, Tryd.ntmps10
  go_wp2
  go_loopg [4, 5] k (fun kq v4 v5 w' => ∃ (x4_1 : List Int) (x5_1 : Int), v5 = .int .i64 x5_1 ∧ Aside0 (gazetteerref1_Read.l0 kq a0 x4_1 x5_1 = some (r1, r2)) ∧ Aside0 (kq ≤ k) ∧ Aside0 (Kd.R (Kd.int .i32) 21 w' w.heap.size (fun _ => True) v4 x4_1) ∧ Aside0 (Below w.heap.size w w'))
  case atStart => exact ⟨(([] : List Int)), (0), (by first | rfl | (simp; done) | (simp [*]; done)), H', ⟨Nat.le_refl _⟩, ⟨by first | exact Kd.R_nil _ _ _ _ _ | exact Kd.N_nil _ _ _ _ _ | exact Kd.V_nil _ _ _ _ _ | exact Kd.Q_nil _ _ _ _ _ | exact Kd.S_nil _ _ _ _ _⟩, ⟨by repeat (first | (with_reducible first | exact HB.out | apply below_alloc | apply pw_below_drewN | apply below_drew1) | exact HB.out)⟩⟩
  case round =>
    clear H'
    try clear c1
    obtain ⟨x4_1, x5_1, rfl, HA, HK1, HO_4, HB⟩ := hrel
    cases gk with
    | zero => exact absurd HA.out (by simp [gazetteerref1_Read.l0])
    | succ k1 =>
      have H := HA.out
      clear HA
      simp only [gazetteerref1_Read.l0] at H
      by_cases c2 : x5_1 < (a0.size : Int)
      · rw [if_pos c2] at H
        have c2b0 : decide (x5_1 < (a0.size : Int)) = true := decide_eq_true c2
        clear c2
        by_cases c3 : 0 ≤ x5_1
        · rw [if_pos c3] at H
          have c3b0 : decide (0 ≤ x5_1) = true := decide_eq_true c3
          clear c3
          have HC5 := Aside0.mk H
          clear H
          have p4 : 0 ≤ (x5_1 : Int) := of_decide_eq_true (by first | (with_reducible assumption) | assumption)
          have q4 : x5_1 < (a0.size : Int) := of_decide_eq_true (by first | (with_reducible assumption) | assumption)
          have hx4 := bt_at a0 x5_1
          replace p4 := eq_true p4
          replace q4 := eq_true q4
          go_upto_block 2 with (fail)
          go_cut [7, 8] (fun v7 v8 wc => ∃ (kq : Nat) (x7_4 : Int) (x8_4 : Int), v7 = .int .i64 x7_4 ∧ v8 = .int .i32 x8_4 ∧ Aside0 (gazetteerref1_Read.j3 kq a0 x4_1 x5_1 x7_4 x8_4 = some (r1, r2)) ∧ Aside0 (kq ≤ k1) ∧ Aside0 (Kd.R (Kd.int .i32) 21 wc w.heap.size (fun _ => True) u4 x4_1) ∧ Aside0 (Below w.heap.size w wc))
          case first =>
            have H := HC5.out
            clear HC5
            by_cases c6 : (bt a0 x5_1) < 128
            · rw [if_pos c6] at H
              have c6b0 : decide ((bt a0 x5_1) < 128) = true := decide_eq_true c6
              clear c6
              (first | rw [c6b0] | (simp only [i64_w, i32_w]; rw [c6b0]) | skip)
              have H' := Aside0.mk H
              clear H
              go_wp2
              go_meet
              case rel => exact ⟨_, (1), (wrap32 (bt a0 x5_1)), (by first | rfl | (simp; done) | (simp [*]; done)), (by first | rfl | (simp; done) | (simp [*]; done)), H', ⟨by have := HK1.out; first | omega | exact Nat.le_refl _⟩, ⟨by (with_reducible repeat (first | apply Kd.R_alloc | apply Kd.R_drewN | apply Kd.R_drew)); exact HO_4.out⟩, ⟨by repeat (first | (with_reducible first | exact HB.out | apply below_alloc | apply pw_below_drewN | apply below_drew1) | exact HB.out)⟩⟩
            · rw [if_neg c6] at H
              have c6b0 : decide ((bt a0 x5_1) < 128) = false := decide_eq_false c6
              clear c6
              (first | rw [c6b0] | (simp only [i64_w, i32_w]; rw [c6b0]) | skip)
              have HC7 := Aside0.mk H
              clear H
              go_upto_region 8 with (fail)
              go_cut [22] (fun v22 wc => ∃ (kq : Nat) (x22_6 : Bool), v22 = .bool x22_6 ∧ Aside0 (gazetteerref1_Read.j1 kq a0 x4_1 x5_1 (bt a0 x5_1) 0 (wrap32 (bt a0 x5_1)) x22_6 = some (r1, r2)) ∧ Aside0 (kq ≤ k1) ∧ Aside0 (Kd.R (Kd.int .i32) 21 wc w.heap.size (fun _ => True) u4 x4_1) ∧ Aside0 (Below w.heap.size w wc))
              case first =>
                have H := HC7.out
                clear HC7
                by_cases c8 : (bt a0 x5_1) ≥ 194
                · rw [if_pos c8] at H
                  have c8b0 : decide (194 ≤ (bt a0 x5_1)) = true := decide_eq_true c8
                  clear c8
                  (first | rw [c8b0] | (simp only [i64_w, i32_w]; rw [c8b0]) | skip)
                  have H' := Aside0.mk H
                  clear H
                  go_wp2
                  go_meet
                  case rel => exact ⟨_, (decide ((bt a0 x5_1) < 224)), (by first | rfl | (simp; done) | (simp [*]; done)), H', ⟨by have := HK1.out; first | omega | exact Nat.le_refl _⟩, ⟨by (with_reducible repeat (first | apply Kd.R_alloc | apply Kd.R_drewN | apply Kd.R_drew)); exact HO_4.out⟩, ⟨by repeat (first | (with_reducible first | exact HB.out | apply below_alloc | apply pw_below_drewN | apply below_drew1) | exact HB.out)⟩⟩
                · rw [if_neg c8] at H
                  have c8b0 : decide (194 ≤ (bt a0 x5_1)) = false := decide_eq_false c8
                  clear c8
                  (first | rw [c8b0] | (simp only [i64_w, i32_w]; rw [c8b0]) | skip)
                  have H' := Aside0.mk H
                  clear H
                  go_wp2
                  go_meet
                  case rel => exact ⟨_, (false), (by first | rfl | (simp; done) | (simp [*]; done)), H', ⟨by have := HK1.out; first | omega | exact Nat.le_refl _⟩, ⟨by (with_reducible repeat (first | apply Kd.R_alloc | apply Kd.R_drewN | apply Kd.R_drew)); exact HO_4.out⟩, ⟨by repeat (first | (with_reducible first | exact HB.out | apply below_alloc | apply pw_below_drewN | apply below_drew1) | exact HB.out)⟩⟩
              case rest =>
                clear HC7
                try clear c1
                try clear c2
                try clear c2b0
                try clear p2
                try clear c3
                try clear c3b0
                try clear p3
                try clear p4
                try clear q4
                try clear hx4
                try clear c6
                try clear c6b0
                try clear c8
                try clear c8b0
                try clear p4
                try clear q4
                obtain ⟨kq, x22_6, rfl, HA, HJ6, HO_4, HB⟩ := hcut
                cases kq with
                | zero => exact absurd HA.out (by simp [gazetteerref1_Read.j1])
                | succ kj6 =>
                  have H := HA.out
                  clear HA
                  simp only [gazetteerref1_Read.j1] at H
                  by_cases c9 : x22_6 = true
                  · subst c9
                    have H1 : (gazetteerref1_Read.j3 kj6 a0 x4_1 x5_1 2 (wrap32 (Go.bits .and .u8 (bt a0 x5_1) 31))) = some (r1, r2) := by rw [if_pos rfl] at H; exact H
                    clear H
                    have H := H1
                    clear H1
                    have H' := Aside0.mk H
                    clear H
                    go_wp2
                    go_meet
                    case rel => exact ⟨_, (2), (wrap32 (Go.bits .and .u8 (bt a0 x5_1) 31)), (by first | rfl | (simp; done) | (simp [*]; done)), (by first | rfl | (simp; done) | (simp [*]; done)), H', ⟨by have := HK1.out; have := HJ6.out; first | omega | exact Nat.le_refl _⟩, ⟨by (with_reducible repeat (first | apply Kd.R_alloc | apply Kd.R_drewN | apply Kd.R_drew)); exact HO_4.out⟩, ⟨by repeat (first | (with_reducible first | exact HB.out | apply below_alloc | apply pw_below_drewN | apply below_drew1) | exact HB.out)⟩⟩
                  · replace c9 := Bool.eq_false_iff.mpr c9
                    subst c9
                    have H1 : (if (bt a0 x5_1) ≥ 224 then (gazetteerref1_Read.j2 kj6 a0 x4_1 x5_1 (bt a0 x5_1) 0 (wrap32 (bt a0 x5_1)) (decide ((bt a0 x5_1) < 240))) else (gazetteerref1_Read.j2 kj6 a0 x4_1 x5_1 (bt a0 x5_1) 0 (wrap32 (bt a0 x5_1)) false)) = some (r1, r2) := by rw [if_neg (show ¬ (false = true) by decide)] at H; exact H
                    clear H
                    have H := H1
                    clear H1
                    have HC10 := Aside0.mk H
                    clear H
                    go_upto_region 10 with (fail)
                    go_cut [32] (fun v32 wc => ∃ (kq : Nat) (x32_9 : Bool), v32 = .bool x32_9 ∧ Aside0 (gazetteerref1_Read.j2 kq a0 x4_1 x5_1 (bt a0 x5_1) 0 (wrap32 (bt a0 x5_1)) x32_9 = some (r1, r2)) ∧ Aside0 (kq ≤ kj6) ∧ Aside0 (Kd.R (Kd.int .i32) 21 wc w.heap.size (fun _ => True) u4 x4_1) ∧ Aside0 (Below w.heap.size w wc))
                    case first =>
                      have H := HC10.out
                      clear HC10
                      by_cases c11 : (bt a0 x5_1) ≥ 224
                      · rw [if_pos c11] at H
                        have c11b0 : decide (224 ≤ (bt a0 x5_1)) = true := decide_eq_true c11
                        clear c11
                        (first | rw [c11b0] | (simp only [i64_w, i32_w]; rw [c11b0]) | skip)
                        have H' := Aside0.mk H
                        clear H
                        go_wp2
                        go_meet
                        case rel => exact ⟨_, (decide ((bt a0 x5_1) < 240)), (by first | rfl | (simp; done) | (simp [*]; done)), H', ⟨by have := HK1.out; have := HJ6.out; first | omega | exact Nat.le_refl _⟩, ⟨by (with_reducible repeat (first | apply Kd.R_alloc | apply Kd.R_drewN | apply Kd.R_drew)); exact HO_4.out⟩, ⟨by repeat (first | (with_reducible first | exact HB.out | apply below_alloc | apply pw_below_drewN | apply below_drew1) | exact HB.out)⟩⟩
                      · rw [if_neg c11] at H
                        have c11b0 : decide (224 ≤ (bt a0 x5_1)) = false := decide_eq_false c11
                        clear c11
                        (first | rw [c11b0] | (simp only [i64_w, i32_w]; rw [c11b0]) | skip)
                        have H' := Aside0.mk H
                        clear H
                        go_wp2
                        go_meet
                        case rel => exact ⟨_, (false), (by first | rfl | (simp; done) | (simp [*]; done)), H', ⟨by have := HK1.out; have := HJ6.out; first | omega | exact Nat.le_refl _⟩, ⟨by (with_reducible repeat (first | apply Kd.R_alloc | apply Kd.R_drewN | apply Kd.R_drew)); exact HO_4.out⟩, ⟨by repeat (first | (with_reducible first | exact HB.out | apply below_alloc | apply pw_below_drewN | apply below_drew1) | exact HB.out)⟩⟩
                    case rest =>
                      clear HC10
                      try clear c1
                      try clear c2
                      try clear c2b0
                      try clear p2
                      try clear c3
                      try clear c3b0
                      try clear p3
                      try clear p4
                      try clear q4
                      try clear hx4
                      try clear c6
                      try clear c6b0
                      try clear c8
                      try clear c8b0
                      try clear c9
                      try clear c10
                      try clear c11
                      try clear c11b0
                      try clear p2
                      try clear p3
                      try clear p4
                      try clear q4
                      obtain ⟨kq, x32_9, rfl, HA, HJ9, HO_4, HB⟩ := hcut
                      cases kq with
                      | zero => exact absurd HA.out (by simp [gazetteerref1_Read.j2])
                      | succ kj9 =>
                        have H := HA.out
                        clear HA
                        simp only [gazetteerref1_Read.j2] at H
                        by_cases c12 : x32_9 = true
                        · subst c12
                          have H1 : (gazetteerref1_Read.j3 kj9 a0 x4_1 x5_1 3 (wrap32 (Go.bits .and .u8 (bt a0 x5_1) 15))) = some (r1, r2) := by rw [if_pos rfl] at H; exact H
                          clear H
                          have H := H1
                          clear H1
                          have H' := Aside0.mk H
                          clear H
                          go_wp2
                          go_meet
                          case rel => exact ⟨_, (3), (wrap32 (Go.bits .and .u8 (bt a0 x5_1) 15)), (by first | rfl | (simp; done) | (simp [*]; done)), (by first | rfl | (simp; done) | (simp [*]; done)), H', ⟨by have := HK1.out; have := HJ6.out; have := HJ9.out; first | omega | exact Nat.le_refl _⟩, ⟨by (with_reducible repeat (first | apply Kd.R_alloc | apply Kd.R_drewN | apply Kd.R_drew)); exact HO_4.out⟩, ⟨by repeat (first | (with_reducible first | exact HB.out | apply below_alloc | apply pw_below_drewN | apply below_drew1) | exact HB.out)⟩⟩
                        · replace c12 := Bool.eq_false_iff.mpr c12
                          subst c12
                          have H1 : (if (bt a0 x5_1) ≥ 240 then (if (bt a0 x5_1) < 245 then (gazetteerref1_Read.j3 kj9 a0 x4_1 x5_1 4 (wrap32 (Go.bits .and .u8 (bt a0 x5_1) 7))) else (gazetteerref1_Read.j3 kj9 a0 x4_1 x5_1 0 (wrap32 (bt a0 x5_1)))) else (gazetteerref1_Read.j3 kj9 a0 x4_1 x5_1 0 (wrap32 (bt a0 x5_1)))) = some (r1, r2) := by rw [if_neg (show ¬ (false = true) by decide)] at H; exact H
                          clear H
                          have H := H1
                          clear H1
                          by_cases c13 : (bt a0 x5_1) ≥ 240
                          · rw [if_pos c13] at H
                            have c13b0 : decide (240 ≤ (bt a0 x5_1)) = true := decide_eq_true c13
                            clear c13
                            by_cases c14 : (bt a0 x5_1) < 245
                            · rw [if_pos c14] at H
                              have c14b0 : decide ((bt a0 x5_1) < 245) = true := decide_eq_true c14
                              clear c14
                              have H' := Aside0.mk H
                              clear H
                              go_wp2
                              go_meet
                              case rel => exact ⟨_, (4), (wrap32 (Go.bits .and .u8 (bt a0 x5_1) 7)), (by first | rfl | (simp; done) | (simp [*]; done)), (by first | rfl | (simp; done) | (simp [*]; done)), H', ⟨by have := HK1.out; have := HJ6.out; have := HJ9.out; first | omega | exact Nat.le_refl _⟩, ⟨by (with_reducible repeat (first | apply Kd.R_alloc | apply Kd.R_drewN | apply Kd.R_drew)); exact HO_4.out⟩, ⟨by repeat (first | (with_reducible first | exact HB.out | apply below_alloc | apply pw_below_drewN | apply below_drew1) | exact HB.out)⟩⟩
                            · rw [if_neg c14] at H
                              have c14b0 : decide ((bt a0 x5_1) < 245) = false := decide_eq_false c14
                              clear c14
                              have H' := Aside0.mk H
                              clear H
                              go_wp2
                              go_meet
                              case rel => exact ⟨_, (0), ((wrap32 (bt a0 x5_1))), (by first | rfl | (simp; done) | (simp [*]; done)), (by first | rfl | (simp; done) | (simp [*]; done)), H', ⟨by have := HK1.out; have := HJ6.out; have := HJ9.out; first | omega | exact Nat.le_refl _⟩, ⟨by (with_reducible repeat (first | apply Kd.R_alloc | apply Kd.R_drewN | apply Kd.R_drew)); exact HO_4.out⟩, ⟨by repeat (first | (with_reducible first | exact HB.out | apply below_alloc | apply pw_below_drewN | apply below_drew1) | exact HB.out)⟩⟩
                          · rw [if_neg c13] at H
                            have c13b0 : decide (240 ≤ (bt a0 x5_1)) = false := decide_eq_false c13
                            clear c13
                            have H' := Aside0.mk H
                            clear H
                            go_wp2
                            go_meet
                            case rel => exact ⟨_, (0), ((wrap32 (bt a0 x5_1))), (by first | rfl | (simp; done) | (simp [*]; done)), (by first | rfl | (simp; done) | (simp [*]; done)), H', ⟨by have := HK1.out; have := HJ6.out; have := HJ9.out; first | omega | exact Nat.le_refl _⟩, ⟨by (with_reducible repeat (first | apply Kd.R_alloc | apply Kd.R_drewN | apply Kd.R_drew)); exact HO_4.out⟩, ⟨by repeat (first | (with_reducible first | exact HB.out | apply below_alloc | apply pw_below_drewN | apply below_drew1) | exact HB.out)⟩⟩
          case rest =>
            clear HC5
            try clear c1
            try clear c2
            try clear c2b0
            try clear p2
            try clear c3
            try clear c3b0
            try clear p3
            try clear p4
            try clear q4
            try clear hx4
            try clear c6
            try clear c6b0
            try clear c8
            try clear c8b0
            try clear c9
            try clear c10
            try clear c11
            try clear c11b0
            try clear c12
            try clear c13
            try clear c13b0
            try clear c14
            try clear c14b0
            try clear p2
            try clear p3
            try clear p4
            try clear q4
            obtain ⟨kq, x7_4, x8_4, rfl, rfl, HA, HJ4, HO_4, HB⟩ := hcut
            cases kq with
            | zero => exact absurd HA.out (by simp [gazetteerref1_Read.j3])
            | succ kj4 =>
              have H := HA.out
              clear HA
              simp only [gazetteerref1_Read.j3] at H
              have HC15 := Aside0.mk H
              clear H
              go_upto_region 14 with (fail)
              go_cut [61] (fun v61 wc => ∃ (kq : Nat) (x61_14 : Bool), v61 = .bool x61_14 ∧ Aside0 (gazetteerref1_Read.j4 kq a0 x4_1 x5_1 x7_4 x8_4 x61_14 = some (r1, r2)) ∧ Aside0 (kq ≤ kj4) ∧ Aside0 (Kd.R (Kd.int .i32) 21 wc w.heap.size (fun _ => True) u4 x4_1) ∧ Aside0 (Below w.heap.size w wc))
              case first =>
                have H := HC15.out
                clear HC15
                by_cases c16 : x7_4 = 0
                · rw [if_pos c16] at H
                  have c16b0 : (x7_4 == 0) = true := beq_iff_eq.mpr c16
                  have c16b1 : (x7_4 != 0) = false := bne_eq_false_iff_eq.mpr c16
                  clear c16
                  (first | rw [c16b0] | (simp only [i64_w, i32_w]; rw [c16b0]) | skip)
                  have H' := Aside0.mk H
                  clear H
                  go_wp2
                  go_meet
                  case rel => exact ⟨_, (true), (by first | rfl | (simp; done) | (simp [*]; done)), H', ⟨by have := HK1.out; have := HJ4.out; first | omega | exact Nat.le_refl _⟩, ⟨by (with_reducible repeat (first | apply Kd.R_alloc | apply Kd.R_drewN | apply Kd.R_drew)); exact HO_4.out⟩, ⟨by repeat (first | (with_reducible first | exact HB.out | apply below_alloc | apply pw_below_drewN | apply below_drew1) | exact HB.out)⟩⟩
                · rw [if_neg c16] at H
                  have c16b0 : (x7_4 == 0) = false := beq_eq_false_iff_ne.mpr c16
                  have c16b1 : (x7_4 != 0) = true := bne_iff_ne.mpr c16
                  (first | rw [c16b0] | (simp only [i64_w, i32_w]; rw [c16b0]) | skip)
                  have H' := Aside0.mk H
                  clear H
                  go_wp2
                  go_meet
                  case rel => exact ⟨_, (decide ((wrap64 ((a0.size : Int) - x5_1)) < x7_4)), (by first | rfl | (simp; done) | (simp [*]; done)), H', ⟨by have := HK1.out; have := HJ4.out; first | omega | exact Nat.le_refl _⟩, ⟨by (with_reducible repeat (first | apply Kd.R_alloc | apply Kd.R_drewN | apply Kd.R_drew)); exact HO_4.out⟩, ⟨by repeat (first | (with_reducible first | exact HB.out | apply below_alloc | apply pw_below_drewN | apply below_drew1) | exact HB.out)⟩⟩
              case rest =>
                clear HC15
                try clear c1
                try clear c2
                try clear c2b0
                try clear p2
                try clear c3
                try clear c3b0
                try clear p3
                try clear p4
                try clear q4
                try clear hx4
                try clear c6
                try clear c6b0
                try clear p6
                try clear c8
                try clear c8b0
                try clear c9
                try clear c10
                try clear c11
                try clear c11b0
                try clear c12
                try clear c13
                try clear c13b0
                try clear c14
                try clear c14b0
                try clear c16
                try clear c16b0
                try clear c16b1
                try clear p2
                try clear p3
                try clear p4
                try clear q4
                obtain ⟨kq, x61_14, rfl, HA, HJ14, HO_4, HB⟩ := hcut
                cases kq with
                | zero => exact absurd HA.out (by simp [gazetteerref1_Read.j4])
                | succ kj14 =>
                  have H := HA.out
                  clear HA
                  simp only [gazetteerref1_Read.j4] at H
                  by_cases c17 : x61_14 = true
                  · subst c17
                    have H1 : (some (([] : List Int), 2)) = some (r1, r2) := by rw [if_pos rfl] at H; exact H
                    clear H
                    have H := H1
                    clear H1
                    simp only [Option.some.injEq, Prod.mk.injEq] at H
                    obtain ⟨rfl, rfl⟩ := H
                    go_wp2
                    go_ret2
                    exact ⟨_, by first | rfl | (simp [errW_none, errW_some] <;> rfl) | (simp [*, errW_none, errW_some] <;> rfl), by first | exact Kd.R_nil _ _ _ _ _ | exact Kd.N_nil _ _ _ _ _ | exact Kd.V_nil _ _ _ _ _ | exact Kd.Q_nil _ _ _ _ _ | exact Kd.S_nil _ _ _ _ _, by repeat (first | (with_reducible first | exact HB.out | apply below_alloc | apply pw_below_drewN | apply below_drew1) | exact HB.out)⟩
                  · replace c17 := Bool.eq_false_iff.mpr c17
                    subst c17
                    have H1 : (gazetteerref1_Read.l1 kj14 a0 x4_1 x5_1 x7_4 x8_4 1) = some (r1, r2) := by rw [if_neg (show ¬ (false = true) by decide)] at H; exact H
                    clear H
                    have H := H1
                    clear H1
                    have H' := Aside0.mk H
                    clear H
                    go_wp2
                    go_loopg [8, 9] kj14 (fun kq v8 v9 w' => ∃ (x8_4 : Int) (x9_4 : Int), v8 = .int .i32 x8_4 ∧ v9 = .int .i64 x9_4 ∧ Aside0 (gazetteerref1_Read.l1 kq a0 x4_1 x5_1 x7_4 x8_4 x9_4 = some (r1, r2)) ∧ Aside0 (kq ≤ kj14) ∧ Aside0 (Kd.R (Kd.int .i32) 21 w' w.heap.size (fun _ => True) u4 x4_1) ∧ Aside0 (Below w.heap.size w w'))
                    case atStart => exact ⟨(x8_4), (1), (by first | rfl | (simp; done) | (simp [*]; done)), (by first | rfl | (simp; done) | (simp [*]; done)), H', ⟨Nat.le_refl _⟩, ⟨by (with_reducible repeat (first | apply Kd.R_alloc | apply Kd.R_drewN | apply Kd.R_drew)); exact HO_4.out⟩, ⟨by repeat (first | (with_reducible first | exact HB.out | apply below_alloc | apply pw_below_drewN | apply below_drew1) | exact HB.out)⟩⟩
                    case round =>
                      clear H'
                      try clear c1
                      try clear c2
                      try clear c2b0
                      try clear p2
                      try clear c3
                      try clear c3b0
                      try clear p3
                      try clear p4
                      try clear q4
                      try clear hx4
                      try clear c6
                      try clear c6b0
                      try clear p6
                      try clear c8
                      try clear c8b0
                      try clear c9
                      try clear c10
                      try clear c11
                      try clear c11b0
                      try clear c12
                      try clear c13
                      try clear c13b0
                      try clear c14
                      try clear c14b0
                      try clear c16
                      try clear c16b0
                      try clear c16b1
                      try clear c17
                      try clear p2
                      try clear p3
                      try clear p4
                      try clear p6
                      try clear q4
                      obtain ⟨x8_4, x9_4, rfl, rfl, HA, HK4, HO_4, HB⟩ := hrel
                      cases gk with
                      | zero => exact absurd HA.out (by simp [gazetteerref1_Read.l1])
                      | succ k4 =>
                        have H := HA.out
                        clear HA
                        simp only [gazetteerref1_Read.l1] at H
                        by_cases c18 : x9_4 < x7_4
                        · rw [if_pos c18] at H
                          have c18b0 : decide (x9_4 < x7_4) = true := decide_eq_true c18
                          clear c18
                          obtain ⟨ji19, hji19⟩ : ∃ j_ : Int, (wrap64 (x5_1 + x9_4)) = j_ := ⟨_, rfl⟩
                          replace H : (if 0 ≤ (ji19) then (if (ji19) < (a0.size : Int) then (if (Go.bits .and .u8 (bt a0 (ji19)) 192) = 128 then (gazetteerref1_Read.l1 k4 a0 x4_1 x5_1 x7_4 (Go.bits .or .i32 (wrap32 (x8_4 * 64)) (wrap32 (Go.bits .and .u8 (bt a0 (ji19)) 63))) (wrap64 (x9_4 + 1))) else (some (([] : List Int), 2))) else (none)) else (none)) = some (r1, r2) := by first | (rw [hji19] at H; exact H) | (simp only [hji19] at H ⊢; exact H)
                          have hji19w : (IntKind.i64.wrap (x5_1 + x9_4)) = ji19 := (i64_w _).trans hji19
                          by_cases c20 : 0 ≤ (ji19)
                          · rw [if_pos c20] at H
                            have c20b0 : decide (0 ≤ (ji19)) = true := decide_eq_true c20
                            clear c20
                            by_cases c21 : (ji19) < (a0.size : Int)
                            · rw [if_pos c21] at H
                              have c21b0 : decide ((ji19) < (a0.size : Int)) = true := decide_eq_true c21
                              clear c21
                              by_cases c23 : (Go.bits .and .u8 (bt a0 (ji19)) 192) = 128
                              · rw [if_pos c23] at H
                                have c23b0 : ((Go.bits .and .u8 (bt a0 (ji19)) 192) == 128) = true := beq_iff_eq.mpr c23
                                have c23b1 : ((Go.bits .and .u8 (bt a0 (ji19)) 192) != 128) = false := bne_eq_false_iff_eq.mpr c23
                                clear c23
                                have H' := Aside0.mk H
                                clear H
                                have p22 : 0 ≤ ((ji19) : Int) := of_decide_eq_true (by first | (with_reducible assumption) | assumption)
                                have q22 : (ji19) < (a0.size : Int) := of_decide_eq_true (by first | (with_reducible assumption) | assumption)
                                have hx22 := bt_at a0 (ji19)
                                replace p22 := eq_true p22
                                replace q22 := eq_true q22
                                have p24 : 0 ≤ ((ji19) : Int) := of_decide_eq_true (by first | (with_reducible assumption) | assumption)
                                have q24 : (ji19) < (a0.size : Int) := of_decide_eq_true (by first | (with_reducible assumption) | assumption)
                                have hx24 := bt_at a0 (ji19)
                                replace p24 := eq_true p24
                                replace q24 := eq_true q24
                                go_wp2
                                go_roundg k4
                                case measure => have := HK1.out; have := HJ4.out; have := HJ14.out; have := HK4.out; omega
                                case rel => exact ⟨(Go.bits .or .i32 (wrap32 (x8_4 * 64)) (wrap32 (Go.bits .and .u8 (bt a0 (ji19)) 63))), (wrap64 (x9_4 + 1)), (by first | rfl | (simp; done) | (simp only [← hji19] <;> (first | rfl | simp)) | (simp [*]; done)), (by first | rfl | (simp; done) | (simp [*]; done)), H', ⟨by have := HK1.out; have := HJ4.out; have := HJ14.out; have := HK4.out; omega⟩, ⟨by (with_reducible repeat (first | apply Kd.R_alloc | apply Kd.R_drewN | apply Kd.R_drew)); exact HO_4.out⟩, ⟨by repeat (first | (with_reducible first | exact HB.out | apply below_alloc | apply pw_below_drewN | apply below_drew1) | exact HB.out)⟩⟩
                              · rw [if_neg c23] at H
                                have c23b0 : ((Go.bits .and .u8 (bt a0 (ji19)) 192) == 128) = false := beq_eq_false_iff_ne.mpr c23
                                have c23b1 : ((Go.bits .and .u8 (bt a0 (ji19)) 192) != 128) = true := bne_iff_ne.mpr c23
                                simp only [Option.some.injEq, Prod.mk.injEq] at H
                                obtain ⟨rfl, rfl⟩ := H
                                have p22 : 0 ≤ ((ji19) : Int) := of_decide_eq_true (by first | (with_reducible assumption) | assumption)
                                have q22 : (ji19) < (a0.size : Int) := of_decide_eq_true (by first | (with_reducible assumption) | assumption)
                                have hx22 := bt_at a0 (ji19)
                                replace p22 := eq_true p22
                                replace q22 := eq_true q22
                                go_wp2
                                go_ret2
                                exact ⟨_, by first | rfl | (simp [errW_none, errW_some] <;> rfl) | (simp only [← hji19]; first | rfl | (simp [errW_none, errW_some] <;> rfl)) | (simp [*, errW_none, errW_some] <;> rfl), by first | exact Kd.R_nil _ _ _ _ _ | exact Kd.N_nil _ _ _ _ _ | exact Kd.V_nil _ _ _ _ _ | exact Kd.Q_nil _ _ _ _ _ | exact Kd.S_nil _ _ _ _ _, by repeat (first | (with_reducible first | exact HB.out | apply below_alloc | apply pw_below_drewN | apply below_drew1) | exact HB.out)⟩
                            · rw [if_neg c21] at H
                              exact absurd H (by simp)
                          · rw [if_neg c20] at H
                            exact absurd H (by simp)
                        · rw [if_neg c18] at H
                          have c18b0 : decide (x9_4 < x7_4) = false := decide_eq_false c18
                          clear c18
                          by_cases c25 : x7_4 = 3
                          · rw [if_pos c25] at H
                            have c25b0 : (x7_4 == 3) = true := beq_iff_eq.mpr c25
                            have c25b1 : (x7_4 != 3) = false := bne_eq_false_iff_eq.mpr c25
                            clear c25
                            by_cases c26 : x8_4 < 2048
                            · rw [if_pos c26] at H
                              have c26b0 : decide (x8_4 < 2048) = true := decide_eq_true c26
                              clear c26
                              simp only [Option.some.injEq, Prod.mk.injEq] at H
                              obtain ⟨rfl, rfl⟩ := H
                              go_wp2
                              go_ret2
                              exact ⟨_, by first | rfl | (simp [errW_none, errW_some] <;> rfl) | (simp [*, errW_none, errW_some] <;> rfl), by first | exact Kd.R_nil _ _ _ _ _ | exact Kd.N_nil _ _ _ _ _ | exact Kd.V_nil _ _ _ _ _ | exact Kd.Q_nil _ _ _ _ _ | exact Kd.S_nil _ _ _ _ _, by repeat (first | (with_reducible first | exact HB.out | apply below_alloc | apply pw_below_drewN | apply below_drew1) | exact HB.out)⟩
                            · rw [if_neg c26] at H
                              have c26b0 : decide (x8_4 < 2048) = false := decide_eq_false c26
                              clear c26
                              by_cases c27 : x7_4 = 4
                              · rw [if_pos c27] at H
                                have c27b0 : (x7_4 == 4) = true := beq_iff_eq.mpr c27
                                have c27b1 : (x7_4 != 4) = false := bne_eq_false_iff_eq.mpr c27
                                clear c27
                                by_cases c28 : x8_4 < 65536
                                · rw [if_pos c28] at H
                                  have c28b0 : decide (x8_4 < 65536) = true := decide_eq_true c28
                                  clear c28
                                  simp only [Option.some.injEq, Prod.mk.injEq] at H
                                  obtain ⟨rfl, rfl⟩ := H
                                  go_wp2
                                  go_ret2
                                  exact ⟨_, by first | rfl | (simp [errW_none, errW_some] <;> rfl) | (simp [*, errW_none, errW_some] <;> rfl), by first | exact Kd.R_nil _ _ _ _ _ | exact Kd.N_nil _ _ _ _ _ | exact Kd.V_nil _ _ _ _ _ | exact Kd.Q_nil _ _ _ _ _ | exact Kd.S_nil _ _ _ _ _, by repeat (first | (with_reducible first | exact HB.out | apply below_alloc | apply pw_below_drewN | apply below_drew1) | exact HB.out)⟩
                                · rw [if_neg c28] at H
                                  have c28b0 : decide (x8_4 < 65536) = false := decide_eq_false c28
                                  clear c28
                                  replace H := Option.bind_eq_some_iff.mp H
                                  obtain ⟨t150, A290, H⟩ := H
                                  replace H : (if t150 = true then (if x4_1.length < 35184372088832 then (gazetteerref1_Read.l0 k4 a0 (x4_1 ++ [x8_4]) (wrap64 (x5_1 + x7_4))) else (none)) else (some (([] : List Int), 2))) = some (r1, r2) := H
                                  have A29 := Aside0.mk A290
                                  clear A290
                                  by_cases c30 : t150 = true
                                  · subst c30
                                    have H1 : (if x4_1.length < 35184372088832 then (gazetteerref1_Read.l0 k4 a0 (x4_1 ++ [x8_4]) (wrap64 (x5_1 + x7_4))) else (none)) = some (r1, r2) := by rw [if_pos rfl] at H; exact H
                                    clear H
                                    have H := H1
                                    clear H1
                                    by_cases c31 : x4_1.length < 35184372088832
                                    · rw [if_pos c31] at H
                                      have LMc31 := Aside0.mk c31
                                      clear c31
                                      obtain ⟨y151, hy151⟩ : ∃ y_ : List Int, y_ = (x4_1 ++ [x8_4]) := ⟨_, rfl⟩
                                      replace H : (gazetteerref1_Read.l0 k4 a0 y151 (wrap64 (x5_1 + x7_4))) = some (r1, r2) := by first | (rw [hy151]; with_reducible exact H) | (have H2_ := (Option.bind_some _ _).symm.trans H; rw [hy151]; with_reducible exact H2_) | (have H2_ := (Option.bind_some _ _).symm.trans H; with_reducible exact H2_) | with_reducible exact H | (rw [hy151]; exact H) | exact H
                                      have Ny151 := Aside0.mk hy151
                                      clear hy151
                                      have H' := Aside0.mk H
                                      clear H
                                      go_wp2_with (first | (go_at_call 17; (with_reducible refine (gazetteerref1_May.calls x8_4 true _ A29.out).mono ?_); rintro e w' ⟨rfl, ⟨nd, rfl⟩⟩) | ((with_reducible refine gate_builtin (b := .append) (xs := #[.tmp 103, .tmp 105]) rfl ?_); (try (refine gate_guard (by rfl) ?_; dsimp only)); at_builtin; refine Kd.R_append (Kd.int .i32) (w0 := w) w.heap.size rfl (.tmp 103) (.tmp 105) 23 21 (.int .i32 0) 4 rfl Tryd.underlying23 info21 rfl (by decide) (by omega) u4 x4_1 x8_4 [.int .i32 x8_4] (fun _ => True) (fun _ => False) rfl rfl ?aP (fun _ hk => hk.elim) ?aF ?aO ?aB ?aS ?aL ?_; (case aP => exact rfl); (case aB => exact (by repeat (first | (with_reducible first | exact HB.out | apply below_alloc | apply pw_below_drewN | apply below_drew1) | exact HB.out))); (case aF => exact (fun _ _ => trivial)); (case aO => exact (by (with_reducible repeat (first | apply Kd.R_alloc | apply Kd.R_drewN | apply Kd.R_drew)); exact HO_4.out)); (case aS => exact (below_size (by repeat (first | (with_reducible first | exact HB.out | apply below_alloc | apply pw_below_drewN | apply below_drew1) | exact HB.out)))); (case aL => have := LMc31.out; omega); intro v152 w32 ho hb hg hat; rw [← Ny151.out] at ho; have n0_ := Aside0.mk (hb); have n1_ := Aside0.mk (ho); clear HB; clear HO_4; have HB := n0_; have HO153 := n1_; clear n0_ n1_; clear ho hb hg hat))
                                      go_roundg k4
                                      case measure => have := HK1.out; have := HJ4.out; have := HJ14.out; have := HK4.out; omega
                                      case rel => exact ⟨(y151), (wrap64 (x5_1 + x7_4)), (by first | rfl | (simp; done) | (simp [*]; done)), H', ⟨by have := HK1.out; have := HJ4.out; have := HJ14.out; have := HK4.out; omega⟩, ⟨by (with_reducible repeat (first | apply Kd.R_alloc | apply Kd.R_drewN | apply Kd.R_drew)); exact HO153.out⟩, ⟨by repeat (first | (with_reducible first | exact HB.out | apply below_alloc | apply pw_below_drewN | apply below_drew1) | exact HB.out)⟩⟩
                                    · rw [if_neg c31] at H
                                      exact absurd H (by simp)
                                  · replace c30 := Bool.eq_false_iff.mpr c30
                                    subst c30
                                    have H1 : (some (([] : List Int), 2)) = some (r1, r2) := by rw [if_neg (show ¬ (false = true) by decide)] at H; exact H
                                    clear H
                                    have H := H1
                                    clear H1
                                    simp only [Option.some.injEq, Prod.mk.injEq] at H
                                    obtain ⟨rfl, rfl⟩ := H
                                    go_wp2_with (first | (go_at_call 17; (with_reducible refine (gazetteerref1_May.calls x8_4 false _ A29.out).mono ?_); rintro e w' ⟨rfl, ⟨nd, rfl⟩⟩))
                                    go_ret2
                                    exact ⟨_, by first | rfl | (simp [errW_none, errW_some] <;> rfl) | (simp [*, errW_none, errW_some] <;> rfl), by first | exact Kd.R_nil _ _ _ _ _ | exact Kd.N_nil _ _ _ _ _ | exact Kd.V_nil _ _ _ _ _ | exact Kd.Q_nil _ _ _ _ _ | exact Kd.S_nil _ _ _ _ _, by repeat (first | (with_reducible first | exact HB.out | apply below_alloc | apply pw_below_drewN | apply below_drew1) | exact HB.out)⟩
                              · rw [if_neg c27] at H
                                have c27b0 : (x7_4 == 4) = false := beq_eq_false_iff_ne.mpr c27
                                have c27b1 : (x7_4 != 4) = true := bne_iff_ne.mpr c27
                                replace H := Option.bind_eq_some_iff.mp H
                                obtain ⟨t154, A330, H⟩ := H
                                replace H : (if t154 = true then (if x4_1.length < 35184372088832 then (gazetteerref1_Read.l0 k4 a0 (x4_1 ++ [x8_4]) (wrap64 (x5_1 + x7_4))) else (none)) else (some (([] : List Int), 2))) = some (r1, r2) := H
                                have A33 := Aside0.mk A330
                                clear A330
                                by_cases c34 : t154 = true
                                · subst c34
                                  have H1 : (if x4_1.length < 35184372088832 then (gazetteerref1_Read.l0 k4 a0 (x4_1 ++ [x8_4]) (wrap64 (x5_1 + x7_4))) else (none)) = some (r1, r2) := by rw [if_pos rfl] at H; exact H
                                  clear H
                                  have H := H1
                                  clear H1
                                  by_cases c35 : x4_1.length < 35184372088832
                                  · rw [if_pos c35] at H
                                    have LMc35 := Aside0.mk c35
                                    clear c35
                                    obtain ⟨y155, hy155⟩ : ∃ y_ : List Int, y_ = (x4_1 ++ [x8_4]) := ⟨_, rfl⟩
                                    replace H : (gazetteerref1_Read.l0 k4 a0 y155 (wrap64 (x5_1 + x7_4))) = some (r1, r2) := by first | (rw [hy155]; with_reducible exact H) | (have H2_ := (Option.bind_some _ _).symm.trans H; rw [hy155]; with_reducible exact H2_) | (have H2_ := (Option.bind_some _ _).symm.trans H; with_reducible exact H2_) | with_reducible exact H | (rw [hy155]; exact H) | exact H
                                    have Ny155 := Aside0.mk hy155
                                    clear hy155
                                    have H' := Aside0.mk H
                                    clear H
                                    go_wp2_with (first | (go_at_call 17; (with_reducible refine (gazetteerref1_May.calls x8_4 true _ A33.out).mono ?_); rintro e w' ⟨rfl, ⟨nd, rfl⟩⟩) | ((with_reducible refine gate_builtin (b := .append) (xs := #[.tmp 103, .tmp 105]) rfl ?_); (try (refine gate_guard (by rfl) ?_; dsimp only)); at_builtin; refine Kd.R_append (Kd.int .i32) (w0 := w) w.heap.size rfl (.tmp 103) (.tmp 105) 23 21 (.int .i32 0) 4 rfl Tryd.underlying23 info21 rfl (by decide) (by omega) u4 x4_1 x8_4 [.int .i32 x8_4] (fun _ => True) (fun _ => False) rfl rfl ?aP (fun _ hk => hk.elim) ?aF ?aO ?aB ?aS ?aL ?_; (case aP => exact rfl); (case aB => exact (by repeat (first | (with_reducible first | exact HB.out | apply below_alloc | apply pw_below_drewN | apply below_drew1) | exact HB.out))); (case aF => exact (fun _ _ => trivial)); (case aO => exact (by (with_reducible repeat (first | apply Kd.R_alloc | apply Kd.R_drewN | apply Kd.R_drew)); exact HO_4.out)); (case aS => exact (below_size (by repeat (first | (with_reducible first | exact HB.out | apply below_alloc | apply pw_below_drewN | apply below_drew1) | exact HB.out)))); (case aL => have := LMc35.out; omega); intro v156 w36 ho hb hg hat; rw [← Ny155.out] at ho; have n0_ := Aside0.mk (hb); have n1_ := Aside0.mk (ho); clear HB; clear HO_4; have HB := n0_; have HO157 := n1_; clear n0_ n1_; clear ho hb hg hat))
                                    go_roundg k4
                                    case measure => have := HK1.out; have := HJ4.out; have := HJ14.out; have := HK4.out; omega
                                    case rel => exact ⟨(y155), (wrap64 (x5_1 + x7_4)), (by first | rfl | (simp; done) | (simp [*]; done)), H', ⟨by have := HK1.out; have := HJ4.out; have := HJ14.out; have := HK4.out; omega⟩, ⟨by (with_reducible repeat (first | apply Kd.R_alloc | apply Kd.R_drewN | apply Kd.R_drew)); exact HO157.out⟩, ⟨by repeat (first | (with_reducible first | exact HB.out | apply below_alloc | apply pw_below_drewN | apply below_drew1) | exact HB.out)⟩⟩
                                  · rw [if_neg c35] at H
                                    exact absurd H (by simp)
                                · replace c34 := Bool.eq_false_iff.mpr c34
                                  subst c34
                                  have H1 : (some (([] : List Int), 2)) = some (r1, r2) := by rw [if_neg (show ¬ (false = true) by decide)] at H; exact H
                                  clear H
                                  have H := H1
                                  clear H1
                                  simp only [Option.some.injEq, Prod.mk.injEq] at H
                                  obtain ⟨rfl, rfl⟩ := H
                                  go_wp2_with (first | (go_at_call 17; (with_reducible refine (gazetteerref1_May.calls x8_4 false _ A33.out).mono ?_); rintro e w' ⟨rfl, ⟨nd, rfl⟩⟩))
                                  go_ret2
                                  exact ⟨_, by first | rfl | (simp [errW_none, errW_some] <;> rfl) | (simp [*, errW_none, errW_some] <;> rfl), by first | exact Kd.R_nil _ _ _ _ _ | exact Kd.N_nil _ _ _ _ _ | exact Kd.V_nil _ _ _ _ _ | exact Kd.Q_nil _ _ _ _ _ | exact Kd.S_nil _ _ _ _ _, by repeat (first | (with_reducible first | exact HB.out | apply below_alloc | apply pw_below_drewN | apply below_drew1) | exact HB.out)⟩
                          · rw [if_neg c25] at H
                            have c25b0 : (x7_4 == 3) = false := beq_eq_false_iff_ne.mpr c25
                            have c25b1 : (x7_4 != 3) = true := bne_iff_ne.mpr c25
                            by_cases c37 : x7_4 = 4
                            · rw [if_pos c37] at H
                              have c37b0 : (x7_4 == 4) = true := beq_iff_eq.mpr c37
                              have c37b1 : (x7_4 != 4) = false := bne_eq_false_iff_eq.mpr c37
                              clear c37
                              by_cases c38 : x8_4 < 65536
                              · rw [if_pos c38] at H
                                have c38b0 : decide (x8_4 < 65536) = true := decide_eq_true c38
                                clear c38
                                simp only [Option.some.injEq, Prod.mk.injEq] at H
                                obtain ⟨rfl, rfl⟩ := H
                                go_wp2
                                go_ret2
                                exact ⟨_, by first | rfl | (simp [errW_none, errW_some] <;> rfl) | (simp [*, errW_none, errW_some] <;> rfl), by first | exact Kd.R_nil _ _ _ _ _ | exact Kd.N_nil _ _ _ _ _ | exact Kd.V_nil _ _ _ _ _ | exact Kd.Q_nil _ _ _ _ _ | exact Kd.S_nil _ _ _ _ _, by repeat (first | (with_reducible first | exact HB.out | apply below_alloc | apply pw_below_drewN | apply below_drew1) | exact HB.out)⟩
                              · rw [if_neg c38] at H
                                have c38b0 : decide (x8_4 < 65536) = false := decide_eq_false c38
                                clear c38
                                replace H := Option.bind_eq_some_iff.mp H
                                obtain ⟨t158, A390, H⟩ := H
                                replace H : (if t158 = true then (if x4_1.length < 35184372088832 then (gazetteerref1_Read.l0 k4 a0 (x4_1 ++ [x8_4]) (wrap64 (x5_1 + x7_4))) else (none)) else (some (([] : List Int), 2))) = some (r1, r2) := H
                                have A39 := Aside0.mk A390
                                clear A390
                                by_cases c40 : t158 = true
                                · subst c40
                                  have H1 : (if x4_1.length < 35184372088832 then (gazetteerref1_Read.l0 k4 a0 (x4_1 ++ [x8_4]) (wrap64 (x5_1 + x7_4))) else (none)) = some (r1, r2) := by rw [if_pos rfl] at H; exact H
                                  clear H
                                  have H := H1
                                  clear H1
                                  by_cases c41 : x4_1.length < 35184372088832
                                  · rw [if_pos c41] at H
                                    have LMc41 := Aside0.mk c41
                                    clear c41
                                    obtain ⟨y159, hy159⟩ : ∃ y_ : List Int, y_ = (x4_1 ++ [x8_4]) := ⟨_, rfl⟩
                                    replace H : (gazetteerref1_Read.l0 k4 a0 y159 (wrap64 (x5_1 + x7_4))) = some (r1, r2) := by first | (rw [hy159]; with_reducible exact H) | (have H2_ := (Option.bind_some _ _).symm.trans H; rw [hy159]; with_reducible exact H2_) | (have H2_ := (Option.bind_some _ _).symm.trans H; with_reducible exact H2_) | with_reducible exact H | (rw [hy159]; exact H) | exact H
                                    have Ny159 := Aside0.mk hy159
                                    clear hy159
                                    have H' := Aside0.mk H
                                    clear H
                                    go_wp2_with (first | (go_at_call 17; (with_reducible refine (gazetteerref1_May.calls x8_4 true _ A39.out).mono ?_); rintro e w' ⟨rfl, ⟨nd, rfl⟩⟩) | ((with_reducible refine gate_builtin (b := .append) (xs := #[.tmp 103, .tmp 105]) rfl ?_); (try (refine gate_guard (by rfl) ?_; dsimp only)); at_builtin; refine Kd.R_append (Kd.int .i32) (w0 := w) w.heap.size rfl (.tmp 103) (.tmp 105) 23 21 (.int .i32 0) 4 rfl Tryd.underlying23 info21 rfl (by decide) (by omega) u4 x4_1 x8_4 [.int .i32 x8_4] (fun _ => True) (fun _ => False) rfl rfl ?aP (fun _ hk => hk.elim) ?aF ?aO ?aB ?aS ?aL ?_; (case aP => exact rfl); (case aB => exact (by repeat (first | (with_reducible first | exact HB.out | apply below_alloc | apply pw_below_drewN | apply below_drew1) | exact HB.out))); (case aF => exact (fun _ _ => trivial)); (case aO => exact (by (with_reducible repeat (first | apply Kd.R_alloc | apply Kd.R_drewN | apply Kd.R_drew)); exact HO_4.out)); (case aS => exact (below_size (by repeat (first | (with_reducible first | exact HB.out | apply below_alloc | apply pw_below_drewN | apply below_drew1) | exact HB.out)))); (case aL => have := LMc41.out; omega); intro v160 w42 ho hb hg hat; rw [← Ny159.out] at ho; have n0_ := Aside0.mk (hb); have n1_ := Aside0.mk (ho); clear HB; clear HO_4; have HB := n0_; have HO161 := n1_; clear n0_ n1_; clear ho hb hg hat))
                                    go_roundg k4
                                    case measure => have := HK1.out; have := HJ4.out; have := HJ14.out; have := HK4.out; omega
                                    case rel => exact ⟨(y159), (wrap64 (x5_1 + x7_4)), (by first | rfl | (simp; done) | (simp [*]; done)), H', ⟨by have := HK1.out; have := HJ4.out; have := HJ14.out; have := HK4.out; omega⟩, ⟨by (with_reducible repeat (first | apply Kd.R_alloc | apply Kd.R_drewN | apply Kd.R_drew)); exact HO161.out⟩, ⟨by repeat (first | (with_reducible first | exact HB.out | apply below_alloc | apply pw_below_drewN | apply below_drew1) | exact HB.out)⟩⟩
                                  · rw [if_neg c41] at H
                                    exact absurd H (by simp)
                                · replace c40 := Bool.eq_false_iff.mpr c40
                                  subst c40
                                  have H1 : (some (([] : List Int), 2)) = some (r1, r2) := by rw [if_neg (show ¬ (false = true) by decide)] at H; exact H
                                  clear H
                                  have H := H1
                                  clear H1
                                  simp only [Option.some.injEq, Prod.mk.injEq] at H
                                  obtain ⟨rfl, rfl⟩ := H
                                  go_wp2_with (first | (go_at_call 17; (with_reducible refine (gazetteerref1_May.calls x8_4 false _ A39.out).mono ?_); rintro e w' ⟨rfl, ⟨nd, rfl⟩⟩))
                                  go_ret2
                                  exact ⟨_, by first | rfl | (simp [errW_none, errW_some] <;> rfl) | (simp [*, errW_none, errW_some] <;> rfl), by first | exact Kd.R_nil _ _ _ _ _ | exact Kd.N_nil _ _ _ _ _ | exact Kd.V_nil _ _ _ _ _ | exact Kd.Q_nil _ _ _ _ _ | exact Kd.S_nil _ _ _ _ _, by repeat (first | (with_reducible first | exact HB.out | apply below_alloc | apply pw_below_drewN | apply below_drew1) | exact HB.out)⟩
                            · rw [if_neg c37] at H
                              have c37b0 : (x7_4 == 4) = false := beq_eq_false_iff_ne.mpr c37
                              have c37b1 : (x7_4 != 4) = true := bne_iff_ne.mpr c37
                              replace H := Option.bind_eq_some_iff.mp H
                              obtain ⟨t162, A430, H⟩ := H
                              replace H : (if t162 = true then (if x4_1.length < 35184372088832 then (gazetteerref1_Read.l0 k4 a0 (x4_1 ++ [x8_4]) (wrap64 (x5_1 + x7_4))) else (none)) else (some (([] : List Int), 2))) = some (r1, r2) := H
                              have A43 := Aside0.mk A430
                              clear A430
                              by_cases c44 : t162 = true
                              · subst c44
                                have H1 : (if x4_1.length < 35184372088832 then (gazetteerref1_Read.l0 k4 a0 (x4_1 ++ [x8_4]) (wrap64 (x5_1 + x7_4))) else (none)) = some (r1, r2) := by rw [if_pos rfl] at H; exact H
                                clear H
                                have H := H1
                                clear H1
                                by_cases c45 : x4_1.length < 35184372088832
                                · rw [if_pos c45] at H
                                  have LMc45 := Aside0.mk c45
                                  clear c45
                                  obtain ⟨y163, hy163⟩ : ∃ y_ : List Int, y_ = (x4_1 ++ [x8_4]) := ⟨_, rfl⟩
                                  replace H : (gazetteerref1_Read.l0 k4 a0 y163 (wrap64 (x5_1 + x7_4))) = some (r1, r2) := by first | (rw [hy163]; with_reducible exact H) | (have H2_ := (Option.bind_some _ _).symm.trans H; rw [hy163]; with_reducible exact H2_) | (have H2_ := (Option.bind_some _ _).symm.trans H; with_reducible exact H2_) | with_reducible exact H | (rw [hy163]; exact H) | exact H
                                  have Ny163 := Aside0.mk hy163
                                  clear hy163
                                  have H' := Aside0.mk H
                                  clear H
                                  go_wp2_with (first | (go_at_call 17; (with_reducible refine (gazetteerref1_May.calls x8_4 true _ A43.out).mono ?_); rintro e w' ⟨rfl, ⟨nd, rfl⟩⟩) | ((with_reducible refine gate_builtin (b := .append) (xs := #[.tmp 103, .tmp 105]) rfl ?_); (try (refine gate_guard (by rfl) ?_; dsimp only)); at_builtin; refine Kd.R_append (Kd.int .i32) (w0 := w) w.heap.size rfl (.tmp 103) (.tmp 105) 23 21 (.int .i32 0) 4 rfl Tryd.underlying23 info21 rfl (by decide) (by omega) u4 x4_1 x8_4 [.int .i32 x8_4] (fun _ => True) (fun _ => False) rfl rfl ?aP (fun _ hk => hk.elim) ?aF ?aO ?aB ?aS ?aL ?_; (case aP => exact rfl); (case aB => exact (by repeat (first | (with_reducible first | exact HB.out | apply below_alloc | apply pw_below_drewN | apply below_drew1) | exact HB.out))); (case aF => exact (fun _ _ => trivial)); (case aO => exact (by (with_reducible repeat (first | apply Kd.R_alloc | apply Kd.R_drewN | apply Kd.R_drew)); exact HO_4.out)); (case aS => exact (below_size (by repeat (first | (with_reducible first | exact HB.out | apply below_alloc | apply pw_below_drewN | apply below_drew1) | exact HB.out)))); (case aL => have := LMc45.out; omega); intro v164 w46 ho hb hg hat; rw [← Ny163.out] at ho; have n0_ := Aside0.mk (hb); have n1_ := Aside0.mk (ho); clear HB; clear HO_4; have HB := n0_; have HO165 := n1_; clear n0_ n1_; clear ho hb hg hat))
                                  go_roundg k4
                                  case measure => have := HK1.out; have := HJ4.out; have := HJ14.out; have := HK4.out; omega
                                  case rel => exact ⟨(y163), (wrap64 (x5_1 + x7_4)), (by first | rfl | (simp; done) | (simp [*]; done)), H', ⟨by have := HK1.out; have := HJ4.out; have := HJ14.out; have := HK4.out; omega⟩, ⟨by (with_reducible repeat (first | apply Kd.R_alloc | apply Kd.R_drewN | apply Kd.R_drew)); exact HO165.out⟩, ⟨by repeat (first | (with_reducible first | exact HB.out | apply below_alloc | apply pw_below_drewN | apply below_drew1) | exact HB.out)⟩⟩
                                · rw [if_neg c45] at H
                                  exact absurd H (by simp)
                              · replace c44 := Bool.eq_false_iff.mpr c44
                                subst c44
                                have H1 : (some (([] : List Int), 2)) = some (r1, r2) := by rw [if_neg (show ¬ (false = true) by decide)] at H; exact H
                                clear H
                                have H := H1
                                clear H1
                                simp only [Option.some.injEq, Prod.mk.injEq] at H
                                obtain ⟨rfl, rfl⟩ := H
                                go_wp2_with (first | (go_at_call 17; (with_reducible refine (gazetteerref1_May.calls x8_4 false _ A43.out).mono ?_); rintro e w' ⟨rfl, ⟨nd, rfl⟩⟩))
                                go_ret2
                                exact ⟨_, by first | rfl | (simp [errW_none, errW_some] <;> rfl) | (simp [*, errW_none, errW_some] <;> rfl), by first | exact Kd.R_nil _ _ _ _ _ | exact Kd.N_nil _ _ _ _ _ | exact Kd.V_nil _ _ _ _ _ | exact Kd.Q_nil _ _ _ _ _ | exact Kd.S_nil _ _ _ _ _, by repeat (first | (with_reducible first | exact HB.out | apply below_alloc | apply pw_below_drewN | apply below_drew1) | exact HB.out)⟩
        · rw [if_neg c3] at H
          exact absurd H (by simp)
      · rw [if_neg c2] at H
        have c2b0 : decide (x5_1 < (a0.size : Int)) = false := decide_eq_false c2
        clear c2
        simp only [Option.some.injEq, Prod.mk.injEq] at H
        obtain ⟨rfl, rfl⟩ := H
        go_wp2
        go_ret2
        exact ⟨_, by first | rfl | (simp [errW_none, errW_some] <;> rfl) | (simp [*, errW_none, errW_some] <;> rfl), by (with_reducible repeat (first | apply Kd.R_alloc | apply Kd.R_drewN | apply Kd.R_drew)); exact HO_4.out, by repeat (first | (with_reducible first | exact HB.out | apply below_alloc | apply pw_below_drewN | apply below_drew1) | exact HB.out)⟩

end Go.Proofs.YtdmahdgcfaieoaaDoor.PScalarReads

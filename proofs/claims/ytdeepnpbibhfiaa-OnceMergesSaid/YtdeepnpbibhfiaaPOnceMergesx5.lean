-- printed by a program of this session (wip/tools), a turned form of the kit's print
import Derived.Test.YtdeepnpbibhfiaaPOnceMergesx0
namespace Go.Proofs.Ytdeepnpbibhfiaa.POnceMerges
open Go.RowKit Go.Proofs.YtdeepnpbibhfiaaW.PrintWords Go.Proofs.YtdeepnpbibhfiaaW.PrintLast Go.Proofs.YtdeepnpbibhfiaaW.PrintMore
attribute [local go_sem] max2_int min2_int max_two min_two max_three min_three max_four min_four max2_str min2_str str_geq str_leq str_gtr   -- for this text's walks alone
set_option linter.unusedVariables false
set_option linter.unusedSimpArgs false

/-! ### gazetteerlaw12_Back: function 16 -/
def gazetteerlaw12_Back.l0 : Nat → List (S39) → List (S47) → Int → Option ((List (S47)))
  | 0, _, _, _ => none
  | k + 1, x0, x3, x4 => if x4 < (x0.length : Int) then (if 0 ≤ x4 then (if x3.length < 1353245080339 then (gazetteerlaw12_Back.l0 k x0 (x3 ++ [(⟨(rd_T39 x0 x4).f0, (⟨(rd_T39 x0 x4).f1.f0, (rd_T39 x0 x4).f1.f1, (rd_T39 x0 x4).f1.f2, (rd_T39 x0 x4).f1.f3, (rd_T39 x0 x4).f1.f4, (rd_T39 x0 x4).f1.f5, (rd_T39 x0 x4).f1.f6, (rd_T39 x0 x4).f1.f7⟩ : S33)⟩ : S47)]) (wrap64 (x4 + 1))) else (none)) else (none)) else (some x3)
def gazetteerlaw12_Back.f (k : Nat) (l0 : List (S39)) : Option ((List (S47))) := gazetteerlaw12_Back.l0 k l0 ([] : List (S47)) 0
theorem gazetteerlaw12_Back.mono_l : ∀ k, (∀ y0 y1 y2, LeO (gazetteerlaw12_Back.l0 k y0 y1 y2) (gazetteerlaw12_Back.l0 (k + 1) y0 y1 y2))
  | 0 => fun _ _ _ r h => by simp [gazetteerlaw12_Back.l0] at h
  | k + 1 => by
    have ih0 := gazetteerlaw12_Back.mono_l k
    · intro y0 y1 y2
      unfold gazetteerlaw12_Back.l0
      repeat' first
      | (with_reducible exact ih0 _ _ _)
      | (with_reducible exact LeO.refl _)
      | (with_reducible exact LeO.none _)
      | (with_reducible refine LeO.ite ?_ ?_)
      | (with_reducible refine LeO.bind ?_ (fun _ => ?_))
      | exact ih0 _ _ _
      | exact LeO.none _
      | refine LeO.ite ?_ ?_
      | refine LeO.bind ?_ (fun _ => ?_)
theorem gazetteerlaw12_Back.mono : ∀ a0 k, LeO (gazetteerlaw12_Back.f k a0) (gazetteerlaw12_Back.f (k + 1) a0) := by
  intro a0 k
  have ih0 := gazetteerlaw12_Back.mono_l k
  unfold gazetteerlaw12_Back.f
  repeat' first
      | (with_reducible exact ih0 _ _ _)
      | (with_reducible exact LeO.refl _)
      | (with_reducible exact LeO.none _)
      | (with_reducible refine LeO.ite ?_ ?_)
      | (with_reducible refine LeO.bind ?_ (fun _ => ?_))
      | exact ih0 _ _ _
      | exact LeO.none _
      | refine LeO.ite ?_ ?_
      | refine LeO.bind ?_ (fun _ => ?_)
def gazetteerlaw12_Back.T5 : Bool × List (List Nat × List Nat) := (true, [([], []), ([], []), ([], []), ([1, 2], [1, 2]), ([3], [3]), ([4], [4]), ([], []), ([], []), ([6, 7], [6, 7]), ([8], [8]), ([9], [9]), ([5, 10], [5, 10]), ([11], [11]), ([0, 12], [0, 12]), ([13, 13, 0, 1, 2, 3, 4, 5, 6, 7, 8, 9, 10, 11, 12, 13], [0, 13])])
def gazetteerlaw12_Back.B5 : List Nat := [0, 0, 0, 6, 14, 30, 0, 0, 192, 448, 960, 2046, 4094, 8191, 16383]
theorem gazetteerlaw12_Back.tab5 : rtab .any (opsOf Try.f16 5) = gazetteerlaw12_Back.T5 := by kernel_rfl
theorem gazetteerlaw12_Back.bits5 : waitsOk gazetteerlaw12_Back.T5.2 gazetteerlaw12_Back.B5 = true := by kernel_rfl
set_option maxHeartbeats 8000000 in
set_option maxRecDepth 100000 in
theorem gazetteerlaw12_Back.calls (k : Nat) (P0_ : Nat → Prop) (A0 : Option Addr) (c0 : Nat) (l0 : List (S39)) (r : List (S47)) (w : World) (hs0 : Kd.V k39 39 w w.heap.size (fun k_ => P0_ k_) (.slice A0 l0.length c0) l0) (h : gazetteerlaw12_Back.f k l0 = some r) :
    Calls Try.prog 16 #[.slice A0 l0.length c0] w fun e w' => ∃ v0_ : Value, e = .returned (v0_) ∧ Kd.N k47 47 w' w.heap.size (fun k_ => (P0_ k_ ∨ w.heap.size ≤ k_)) v0_ r ∧ Below w.heap.size w w' := by
  have hu33 := Try.underlying33
  have hu47 := Try.underlying47
  have HO0 := Aside0.mk (show Kd.V k39 39 w w.heap.size (fun k_ => (P0_ k_ ∨ w.heap.size ≤ k_)) (.slice A0 l0.length c0) l0 from Kd.V_mono hs0 (fun k_ hk => .inl hk))
  have HB := Aside0.mk (Below.refl w.heap.size w)
  have H : (gazetteerlaw12_Back.l0 k l0 ([] : List (S47)) 0) = some r := h
  clear h
  have H' := Aside0.mk H
  clear H
  go_enter Try.func16, Try.ntmps16
  go_wp2
  go_loopg [3, 4] k (fun kq v3 v4 w' => ∃ (x3_1 : List (S47)) (x4_1 : Int), v4 = .int .i64 x4_1 ∧ Aside0 (gazetteerlaw12_Back.l0 kq l0 x3_1 x4_1 = some r) ∧ Aside0 (kq ≤ k) ∧ Aside0 (Kd.V k39 39 w' w.heap.size (fun k_ => (P0_ k_ ∨ w.heap.size ≤ k_) ∧ some k_ ≠ (v3 : Value).ownBlock) (.slice A0 l0.length c0) l0) ∧ Aside0 (Kd.N k47 47 w' w.heap.size (fun k_ => (P0_ k_ ∨ w.heap.size ≤ k_)) v3 x3_1) ∧ Aside0 (Below w.heap.size w w'))
  case atStart => exact ⟨(([] : List (S47))), (0), (by first | rfl | (simp; done) | (simp [*]; done)), H', ⟨Nat.le_refl _⟩, ⟨by (with_reducible repeat (first | apply Kd.V_alloc | apply Kd.V_drewN | apply Kd.V_drew)); exact Kd.V_mono HO0.out (fun _ hk => ⟨hk, (by simp [Value.ownBlock])⟩)⟩, ⟨by first | exact Kd.S_nil _ _ _ _ _ | exact Kd.N_nil _ _ _ _ _ | exact Kd.V_nil _ _ _ _ _ | exact Kd.Q_nil _ _ _ _ _ | exact Kd.R_nil _ _ _ _ _⟩, ⟨by repeat (first | (with_reducible first | exact HB.out | apply below_alloc | apply pw_below_drewN | apply below_drew1) | exact HB.out)⟩⟩
  case round =>
    clear H'
    try clear c1
    obtain ⟨x3_1, x4_1, rfl, HA, HK1, HO_0, HO_3, HB⟩ := hrel
    cases gk with
    | zero => exact absurd HA.out (by simp [gazetteerlaw12_Back.l0])
    | succ k1 =>
      have H := HA.out
      clear HA
      simp only [gazetteerlaw12_Back.l0] at H
      by_cases c2 : x4_1 < (l0.length : Int)
      · rw [if_pos c2] at H
        have c2b0 : decide (x4_1 < (l0.length : Int)) = true := decide_eq_true c2
        clear c2
        by_cases c3 : 0 ≤ x4_1
        · rw [if_pos c3] at H
          have c3b0 : decide (0 ≤ x4_1) = true := decide_eq_true c3
          clear c3
          by_cases c4 : x3_1.length < 1353245080339
          · rw [if_pos c4] at H
            have LMc4 := Aside0.mk c4
            clear c4
            obtain ⟨y123, hy123⟩ : ∃ y_ : List (S47), y_ = (x3_1 ++ [(⟨(rd_T39 l0 x4_1).f0, (⟨(rd_T39 l0 x4_1).f1.f0, (rd_T39 l0 x4_1).f1.f1, (rd_T39 l0 x4_1).f1.f2, (rd_T39 l0 x4_1).f1.f3, (rd_T39 l0 x4_1).f1.f4, (rd_T39 l0 x4_1).f1.f5, (rd_T39 l0 x4_1).f1.f6, (rd_T39 l0 x4_1).f1.f7⟩ : S33)⟩ : S47)]) := ⟨_, rfl⟩
            replace H : (gazetteerlaw12_Back.l0 k1 l0 y123 (wrap64 (x4_1 + 1))) = some r := by first | (rw [hy123]; with_reducible exact H) | (have H2_ := (Option.bind_some _ _).symm.trans H; rw [hy123]; with_reducible exact H2_) | (have H2_ := (Option.bind_some _ _).symm.trans H; with_reducible exact H2_) | with_reducible exact H | (rw [hy123]; exact H) | exact H
            have Ny123 := Aside0.mk hy123
            clear hy123
            have H' := Aside0.mk H
            clear H
            try go_wp2
            have n0_ := Aside0.mk (Kd.V_drew HO_0.out)
            have n1_ := Aside0.mk (Kd.N_drew HO_3.out)
            have n2_ := Aside0.mk (below_drew1 HB.out)
            clear HO_0
            clear HO_3
            clear HB
            have HO_0 := n0_
            have HO_3 := n1_
            have HB := n2_
            clear n0_ n1_ n2_
            have p121 : 0 ≤ (x4_1 : Int) := of_decide_eq_true (by first | (with_reducible assumption) | assumption)
            have q121 : x4_1 < (l0.length : Int) := of_decide_eq_true (by first | (with_reducible assumption) | assumption)
            obtain ⟨ad121, A121_6, c121_6, e121, hx121_0, hx121_1, hx121_2, hx121_3, hx121_4, hx121_5, hx121_6, hx121_7, hx121_8, hl121_6, hi121_6⟩ := at_T39 (Kd.V_reads' HO_0.out).2.2 x4_1 p121 q121
            cases e121
            obtain ⟨ce121, hce121, hMe121, hcc121⟩ := Kd.V_get HO_0.out z39 x4_1 p121 (by first | exact q121 | exact of_decide_eq_true (by first | (with_reducible assumption) | assumption) | (have e_ := (Kd.V_reads' HO_0.out).1; omega))
            obtain ⟨ua121_6, uc121_6, rfl, ul121_6, ge121_6⟩ := k39_openF hMe121
            have hv121_6 := hcc121 6 _ rfl
            rw [add_field _ _ 6 (by omega)] at hv121_6
            replace hv121_6 := Option.some.inj (hv121_6.symm.trans hx121_6)
            injection hv121_6 with hva_ hvn_ hvc_
            rw [hva_] at ge121_6
            rw [hvc_] at ul121_6
            have HL121_6 := Aside0.mk (show Kd.V k71 71 _ w.heap.size _ _ ((rd_T39 l0 x4_1).f1.f5) from Kd.V_mk ul121_6 ge121_6)
            clear hva_ hvn_ hvc_ ge121_6 ul121_6
            clear hcc121 hce121
            have HR121_6 := Aside0.mk hi121_6
            have HC121_6 := Aside0.mk hl121_6
            clear hi121_6 hl121_6
            replace p121 := eq_true p121
            replace q121 := eq_true q121
            have p122 : 0 ≤ (x4_1 : Int) := of_decide_eq_true (by first | (with_reducible assumption) | assumption)
            have q122 : x4_1 < (l0.length : Int) := of_decide_eq_true (by first | (with_reducible assumption) | assumption)
            obtain ⟨ad122, A122_6, c122_6, e122, hx122_0, hx122_1, hx122_2, hx122_3, hx122_4, hx122_5, hx122_6, hx122_7, hx122_8, hl122_6, hi122_6⟩ := at_T39 (Kd.V_reads' HO_0.out).2.2 x4_1 p122 q122
            obtain rfl : ad121 = ad122 := (by injection e122)
            obtain ⟨ce122, hce122, hMe122, hcc122⟩ := Kd.V_get HO_0.out z39 x4_1 p122 (by first | exact q122 | exact of_decide_eq_true (by first | (with_reducible assumption) | assumption) | (have e_ := (Kd.V_reads' HO_0.out).1; omega))
            obtain ⟨ua122_6, uc122_6, rfl, ul122_6, ge122_6⟩ := k39_openF hMe122
            have hv122_6 := hcc122 6 _ rfl
            rw [add_field _ _ 6 (by omega)] at hv122_6
            replace hv122_6 := Option.some.inj (hv122_6.symm.trans hx122_6)
            injection hv122_6 with hva_ hvn_ hvc_
            rw [hva_] at ge122_6
            rw [hvc_] at ul122_6
            have HL122_6 := Aside0.mk (show Kd.V k71 71 _ w.heap.size _ _ ((rd_T39 l0 x4_1).f1.f5) from Kd.V_mk ul122_6 ge122_6)
            clear hva_ hvn_ hvc_ ge122_6 ul122_6
            clear hcc122 hce122
            have HR122_6 := Aside0.mk hi122_6
            have HC122_6 := Aside0.mk hl122_6
            clear hi122_6 hl122_6
            replace p122 := eq_true p122
            replace q122 := eq_true q122
            have ea_ := Option.some.inj (hx121_6.symm.trans hx122_6)
            injection ea_ with ea_ en_ ec_
            subst ea_
            subst ec_
            clear en_
            refine start_ (n := 15) (S := fun w' => w'.cell? (ad121.add ((x4_1).toNat * 9)) = some (.int .i64 ((rd_T39 l0 x4_1).f0)) ∧ w'.cell? ⟨(ad121.add ((x4_1).toNat * 9)).block, (ad121.add ((x4_1).toNat * 9)).off + 1, none⟩ = some (.int .i64 ((rd_T39 l0 x4_1).f1.f0)) ∧ w'.cell? ⟨(ad121.add ((x4_1).toNat * 9)).block, (ad121.add ((x4_1).toNat * 9)).off + 2, none⟩ = some (.int .i64 ((rd_T39 l0 x4_1).f1.f1)) ∧ w'.cell? ⟨(ad121.add ((x4_1).toNat * 9)).block, (ad121.add ((x4_1).toNat * 9)).off + 3, none⟩ = some (.int .i64 ((rd_T39 l0 x4_1).f1.f2)) ∧ w'.cell? ⟨(ad121.add ((x4_1).toNat * 9)).block, (ad121.add ((x4_1).toNat * 9)).off + 4, none⟩ = some (.bool ((rd_T39 l0 x4_1).f1.f3)) ∧ w'.cell? ⟨(ad121.add ((x4_1).toNat * 9)).block, (ad121.add ((x4_1).toNat * 9)).off + 5, none⟩ = some (.string ((rd_T39 l0 x4_1).f1.f4)) ∧ w'.cell? ⟨(ad121.add ((x4_1).toNat * 9)).block, (ad121.add ((x4_1).toNat * 9)).off + 6, none⟩ = some (.slice A121_6 ((rd_T39 l0 x4_1).f1.f5).length c121_6) ∧ w'.cell? ⟨(ad121.add ((x4_1).toNat * 9)).block, (ad121.add ((x4_1).toNat * 9)).off + 7, none⟩ = some (.string ((rd_T39 l0 x4_1).f1.f6)) ∧ w'.cell? ⟨(ad121.add ((x4_1).toNat * 9)).block, (ad121.add ((x4_1).toNat * 9)).off + 8, none⟩ = some (.bool ((rd_T39 l0 x4_1).f1.f7)) ∧ w'.cell? (ad121.add ((x4_1).toNat * 9)) = some (.int .i64 ((rd_T39 l0 x4_1).f0)) ∧ w'.cell? ⟨(ad121.add ((x4_1).toNat * 9)).block, (ad121.add ((x4_1).toNat * 9)).off + 1, none⟩ = some (.int .i64 ((rd_T39 l0 x4_1).f1.f0)) ∧ w'.cell? ⟨(ad121.add ((x4_1).toNat * 9)).block, (ad121.add ((x4_1).toNat * 9)).off + 2, none⟩ = some (.int .i64 ((rd_T39 l0 x4_1).f1.f1)) ∧ w'.cell? ⟨(ad121.add ((x4_1).toNat * 9)).block, (ad121.add ((x4_1).toNat * 9)).off + 3, none⟩ = some (.int .i64 ((rd_T39 l0 x4_1).f1.f2)) ∧ w'.cell? ⟨(ad121.add ((x4_1).toNat * 9)).block, (ad121.add ((x4_1).toNat * 9)).off + 4, none⟩ = some (.bool ((rd_T39 l0 x4_1).f1.f3)) ∧ w'.cell? ⟨(ad121.add ((x4_1).toNat * 9)).block, (ad121.add ((x4_1).toNat * 9)).off + 5, none⟩ = some (.string ((rd_T39 l0 x4_1).f1.f4)) ∧ w'.cell? ⟨(ad121.add ((x4_1).toNat * 9)).block, (ad121.add ((x4_1).toNat * 9)).off + 6, none⟩ = some (.slice A121_6 ((rd_T39 l0 x4_1).f1.f5).length c121_6) ∧ w'.cell? ⟨(ad121.add ((x4_1).toNat * 9)).block, (ad121.add ((x4_1).toNat * 9)).off + 7, none⟩ = some (.string ((rd_T39 l0 x4_1).f1.f6)) ∧ w'.cell? ⟨(ad121.add ((x4_1).toNat * 9)).block, (ad121.add ((x4_1).toNat * 9)).off + 8, none⟩ = some (.bool ((rd_T39 l0 x4_1).f1.f7))) (ds := [12, 13]) #[false, false, false, false, false, false, false, false, false, false, false, false, false, false, false] (by kernel_rfl) rfl rfl ⟨hx121_0, hx121_1, hx121_2, hx121_3, hx121_4, hx121_5, hx121_6, hx121_7, hx121_8, hx122_0, hx122_1, hx122_2, hx122_3, hx122_4, hx122_5, hx122_6, hx122_7, hx122_8⟩ (fun hHeld => ?_); refine with_tabW gazetteerlaw12_Back.tab5 gazetteerlaw12_Back.bits5 (fun HT_ HW_ => ?_)
            generalize wr.drew = w5 at HO_0 HO_3 HB HL121_6 HL122_6 HR121_6 HR122_6 hx121_0 hx121_1 hx121_2 hx121_3 hx121_4 hx121_5 hx121_6 hx121_7 hx121_8 hx122_0 hx122_1 hx122_2 hx122_3 hx122_4 hx122_5 hx122_6 hx122_7 hx122_8 hHeld ⊢
            refine pure_ (i := 0) (N := some 11) (v := ?_) (a' := ?_) #[true, false, false, false, false, false, false, false, false, false, false, false, false, false, false] rfl rfl (any_of HT_.out (by kernel_rfl)) (fun _ _ _ h => h) (Or.inl ⟨by rfl, ?_⟩) ?_ ?_
            rotate_left
            · intro w'
              go_simp
              with_reducible rfl
            rotate_left
            · simp only [Act.put, List.setIfInBounds_toArray, List.set_cons_zero, List.set_cons_succ, i64_w, i32_w]
              rfl
            refine pure_ (i := 1) (N := some 12) (v := ?_) (a' := ?_) #[true, true, false, false, false, false, false, false, false, false, false, false, false, false, false] rfl rfl (any_of HT_.out (by kernel_rfl)) (fun _ _ _ h => h) (Or.inl ⟨by rfl, ?_⟩) ?_ ?_
            rotate_left
            · intro w'
              go_simp
              with_reducible rfl
            rotate_left
            · simp only [Act.put, List.setIfInBounds_toArray, List.set_cons_zero, List.set_cons_succ, i64_w, i32_w]
              rfl
            refine pure_ (i := 2) (N := some 13) (v := ?_) (a' := ?_) #[true, true, true, false, false, false, false, false, false, false, false, false, false, false, false] rfl rfl (any_of HT_.out (by kernel_rfl)) (fun _ _ _ h => h) (Or.inl ⟨by rfl, ?_⟩) ?_ ?_
            rotate_left
            · intro w'
              go_simp
              with_reducible rfl
            rotate_left
            · simp only [Act.put, List.setIfInBounds_toArray, List.set_cons_zero, List.set_cons_succ, i64_w, i32_w]
              rfl
            refine pure_ (i := 3) (N := some 14) (v := ?_) (a' := ?_) #[true, true, true, true, false, false, false, false, false, false, false, false, false, false, false] rfl rfl (any_of HT_.out (by kernel_rfl)) (fun _ _ _ h => h) (Or.inl ⟨by rfl, ?_⟩) ?_ ?_
            rotate_left
            · intro w'
              go_simp
              with_reducible rfl
            rotate_left
            · simp only [Act.put, List.setIfInBounds_toArray, List.set_cons_zero, List.set_cons_succ, i64_w, i32_w]
              rfl
            refine pure_ (i := 4) (N := some 15) (v := ?_) (a' := ?_) #[true, true, true, true, true, false, false, false, false, false, false, false, false, false, false] rfl rfl (any_of HT_.out (by kernel_rfl)) (fun _ _ _ h => h) (Or.inl ⟨by rfl, ?_⟩) ?_ ?_
            rotate_left
            · intro w'
              go_simp
              with_reducible rfl
            rotate_left
            · simp only [Act.put, List.setIfInBounds_toArray, List.set_cons_zero, List.set_cons_succ, i64_w, i32_w]
              rfl
            refine pure_ (i := 6) (N := some 17) (v := ?_) (a' := ?_) #[true, true, true, true, true, false, true, false, false, false, false, false, false, false, false] rfl rfl (any_of HT_.out (by kernel_rfl)) (fun _ _ _ h => h) (Or.inl ⟨by rfl, ?_⟩) ?_ ?_
            rotate_left
            · intro w'
              go_simp
              with_reducible rfl
            rotate_left
            · simp only [Act.put, List.setIfInBounds_toArray, List.set_cons_zero, List.set_cons_succ, i64_w, i32_w]
              rfl
            refine pure_ (i := 7) (N := some 18) (v := ?_) (a' := ?_) #[true, true, true, true, true, false, true, true, false, false, false, false, false, false, false] rfl rfl (any_of HT_.out (by kernel_rfl)) (fun _ _ _ h => h) (Or.inl ⟨by rfl, ?_⟩) ?_ ?_
            rotate_left
            · intro w'
              go_simp
              with_reducible rfl
            rotate_left
            · simp only [Act.put, List.setIfInBounds_toArray, List.set_cons_zero, List.set_cons_succ, i64_w, i32_w]
              rfl
            refine pure_ (i := 8) (N := some 19) (v := ?_) (a' := ?_) #[true, true, true, true, true, false, true, true, true, false, false, false, false, false, false] rfl rfl (any_of HT_.out (by kernel_rfl)) (fun _ _ _ h => h) (Or.inl ⟨by rfl, ?_⟩) ?_ ?_
            rotate_left
            · intro w'
              go_simp
              with_reducible rfl
            rotate_left
            · simp only [Act.put, List.setIfInBounds_toArray, List.set_cons_zero, List.set_cons_succ, i64_w, i32_w]
              rfl
            refine pure_ (i := 9) (N := some 20) (v := ?_) (a' := ?_) #[true, true, true, true, true, false, true, true, true, true, false, false, false, false, false] rfl rfl (any_of HT_.out (by kernel_rfl)) (fun _ _ _ h => h) (Or.inl ⟨by rfl, ?_⟩) ?_ ?_
            rotate_left
            · intro w'
              go_simp
              with_reducible rfl
            rotate_left
            · simp only [Act.put, List.setIfInBounds_toArray, List.set_cons_zero, List.set_cons_succ, i64_w, i32_w]
              rfl
            refine take_ (i := 5) (N := some 16) (v := ?_) (a' := ?_) #[true, true, true, true, true, true, true, true, true, true, false, false, false, false, false] rfl rfl (take_ofW HT_.out HW_.out (by kernel_rfl)) (fun _ _ _ h => h) (Or.inl ⟨by rfl, ?_⟩) hHeld ?_ ?_
            rotate_left
            · rintro w' ⟨s0, s1, s2, s3, s4, s5, s6, s7, s8, s9, s10, s11, s12, s13, s14, s15, s16, s17⟩
              go_simp
              with_reducible rfl
            rotate_left
            · simp only [Act.put, List.setIfInBounds_toArray, List.set_cons_zero, List.set_cons_succ, i64_w, i32_w]
              rfl
            refine take_ (i := 10) (N := some 21) (v := ?_) (a' := ?_) #[true, true, true, true, true, true, true, true, true, true, true, false, false, false, false] rfl rfl (take_ofW HT_.out HW_.out (by kernel_rfl)) (fun _ _ _ h => h) (Or.inl ⟨by rfl, ?_⟩) hHeld ?_ ?_
            rotate_left
            · rintro w' ⟨s0, s1, s2, s3, s4, s5, s6, s7, s8, s9, s10, s11, s12, s13, s14, s15, s16, s17⟩
              go_simp
              with_reducible rfl
            rotate_left
            · simp only [Act.put, List.setIfInBounds_toArray, List.set_cons_zero, List.set_cons_succ, i64_w, i32_w]
              rfl
            refine pure_ (i := 11) (N := some 22) (v := ?_) (a' := ?_) #[true, true, true, true, true, true, true, true, true, true, true, true, false, false, false] rfl rfl (any_of HT_.out (by kernel_rfl)) (fun _ _ _ h => h) (Or.inl ⟨by rfl, ?_⟩) ?_ ?_
            rotate_left
            · intro w'
              go_simp
              with_reducible rfl
            rotate_left
            · simp only [Act.put, List.setIfInBounds_toArray, List.set_cons_zero, List.set_cons_succ, i64_w, i32_w]
              rfl
            refine last_ (i := 12) (N := some 23) #[true, true, true, true, true, true, true, true, true, true, true, true, true, false, false] rfl rfl (one_of HT_.out (by kernel_rfl)) (by decide) (fun K hK => ?_)
            refine value_ (w1 := ?_) (v := ?_) (by rfl) rfl ?_ ?_
            rotate_left 2
            · go_simp
              constructor
              · rfl
              · rfl
            refine hK.out _ _ ?_
            clear hK K
            refine norm_ (a' := ?_) ?_ ?_
            rotate_left
            · show Act.put _ (some 23) _ = _
              simp only [Act.put, List.setIfInBounds_toArray, List.set_cons_zero, List.set_cons_succ, i64_w, i32_w]
              rfl
            refine last_ (i := 13) (N := some 24) #[true, true, true, true, true, true, true, true, true, true, true, true, true, true, false] rfl rfl (one_of HT_.out (by kernel_rfl)) (by decide) (fun K hK => ?_)
            refine Kd.N_append_step k47 (w0 := w) w.heap.size (by rfl) (.tmp 11) (.tmp 23) 44 47 (.agg #[(.int .i64 0), (.int .i64 0), (.int .i64 0), (.int .i64 0), (.bool false), (.string ⟨#[]⟩), (.slice none 0 0), (.string ⟨#[]⟩), (.bool false)]) 104 rfl Try.underlying44 info47 rfl (by decide) (by omega) u3 x3_1 (⟨(rd_T39 l0 x4_1).f0, (⟨(rd_T39 l0 x4_1).f1.f0, (rd_T39 l0 x4_1).f1.f1, (rd_T39 l0 x4_1).f1.f2, (rd_T39 l0 x4_1).f1.f3, (rd_T39 l0 x4_1).f1.f4, (rd_T39 l0 x4_1).f1.f5, (rd_T39 l0 x4_1).f1.f6, (rd_T39 l0 x4_1).f1.f7⟩ : S33)⟩ : S47) [.int .i64 ((rd_T39 l0 x4_1).f0), .int .i64 ((rd_T39 l0 x4_1).f1.f0), .int .i64 ((rd_T39 l0 x4_1).f1.f1), .int .i64 ((rd_T39 l0 x4_1).f1.f2), .bool ((rd_T39 l0 x4_1).f1.f3), .string ((rd_T39 l0 x4_1).f1.f4), .slice A121_6 ((rd_T39 l0 x4_1).f1.f5).length c121_6, .string ((rd_T39 l0 x4_1).f1.f6), .bool ((rd_T39 l0 x4_1).f1.f7)] (fun k_ => (P0_ k_ ∨ w.heap.size ≤ k_)) (fun k_ => ((fun k_ => (P0_ k_ ∨ w.heap.size ≤ k_))) k_ ∧ some k_ ≠ (u3 : Value).ownBlock) rfl rfl ?aP (fun _ hk => hk) ?aF ?aO ?aB ?aS ?aL ?_
            (case aP => exact (k47_mkF _ _ (⟨(rd_T39 l0 x4_1).f0, (⟨(rd_T39 l0 x4_1).f1.f0, (rd_T39 l0 x4_1).f1.f1, (rd_T39 l0 x4_1).f1.f2, (rd_T39 l0 x4_1).f1.f3, (rd_T39 l0 x4_1).f1.f4, (rd_T39 l0 x4_1).f1.f5, (rd_T39 l0 x4_1).f1.f6, (rd_T39 l0 x4_1).f1.f7⟩ : S33)⟩ : S47) (Kd.V_reads' (Kd.V_mono (ok' := (fun k_ => ((fun k_ => (P0_ k_ ∨ w.heap.size ≤ k_))) k_ ∧ some k_ ≠ (u3 : Value).ownBlock)) (HL122_6.out) (fun k_ hk => ⟨hk.1, hk.2⟩))).2.1 (Kd.V_F (Kd.V_mono (ok' := (fun k_ => ((fun k_ => (P0_ k_ ∨ w.heap.size ≤ k_))) k_ ∧ some k_ ≠ (u3 : Value).ownBlock)) (HL122_6.out) (fun k_ hk => ⟨hk.1, hk.2⟩)))))
            (case aB => exact (by repeat (first | (with_reducible first | exact HB.out | apply below_alloc | apply pw_below_drewN | apply below_drew1) | exact HB.out)))
            (case aF => exact (fun k_ hk => (.inr (Nat.le_trans (below_size (by repeat (first | (with_reducible first | exact HB.out | apply below_alloc | apply pw_below_drewN | apply below_drew1) | exact HB.out))) hk))))
            (case aO => exact (by (with_reducible repeat (first | apply Kd.N_alloc | apply Kd.N_drewN | apply Kd.N_drew)); exact HO_3.out))
            (case aS => exact (below_size (by repeat (first | (with_reducible first | exact HB.out | apply below_alloc | apply pw_below_drewN | apply below_drew1) | exact HB.out))))
            (case aL => have := LMc4.out; omega)
            intro v124 w6 ho hb hg hat
            rw [← Ny123.out] at ho
            have n0_ := Aside0.mk (Kd.V_afterv (ok := (fun k_ => (P0_ k_ ∨ w.heap.size ≤ k_))) (by (with_reducible repeat (first | apply Kd.V_alloc | apply Kd.V_drewN | apply Kd.V_drew)); exact HO_0.out) hg hat)
            have n1_ := Aside0.mk (Kd.V_afterv (ok := (fun k_ => (P0_ k_ ∨ w.heap.size ≤ k_))) (by (with_reducible repeat (first | apply Kd.V_alloc | apply Kd.V_drewN | apply Kd.V_drew)); exact HL121_6.out) hg hat)
            have n2_ := Aside0.mk (Kd.V_afterv (ok := (fun k_ => (P0_ k_ ∨ w.heap.size ≤ k_))) (by (with_reducible repeat (first | apply Kd.V_alloc | apply Kd.V_drewN | apply Kd.V_drew)); exact HL122_6.out) hg hat)
            have n3_ := Aside0.mk (hb)
            have n4_ := Aside0.mk (ho)
            clear HO_0
            clear HL121_6
            clear HL122_6
            clear HB
            clear HO_3
            have HO_0 := n0_
            have HL121_6 := n1_
            have HL122_6 := n2_
            have HB := n3_
            have HO125 := n4_
            clear n0_ n1_ n2_ n3_ n4_
            clear ho hb hg hat
            refine hK.out _ _ ?_
            clear hK K
            refine norm_ (a' := ?_) ?_ ?_
            rotate_left
            · show Act.put _ (some 24) _ = _
              simp only [Act.put, List.setIfInBounds_toArray, List.set_cons_zero, List.set_cons_succ, i64_w, i32_w]
              rfl
            refine pure_ (i := 14) (N := some 3) (v := ?_) (a' := ?_) #[true, true, true, true, true, true, true, true, true, true, true, true, true, true, true] rfl rfl (any_of HT_.out (by kernel_rfl)) (fun _ _ _ h => h) (Or.inl ⟨by rfl, ?_⟩) ?_ ?_
            rotate_left
            · intro w'
              go_simp
              with_reducible rfl
            rotate_left
            · simp only [Act.put, List.setIfInBounds_toArray, List.set_cons_zero, List.set_cons_succ, i64_w, i32_w]
              rfl
            refine done_ (done_of HT_.out (by kernel_rfl)) ?_
            try go_wp2
            go_roundg k1
            case measure => have := HK1.out; omega
            case rel => exact ⟨(y123), (wrap64 (x4_1 + 1)), (by first | rfl | (simp; done) | (simp [*]; done)), H', ⟨by have := HK1.out; omega⟩, ⟨by (with_reducible repeat (first | apply Kd.V_alloc | apply Kd.V_drewN | apply Kd.V_drew)); exact HO_0.out⟩, ⟨by (with_reducible repeat (first | apply Kd.N_alloc | apply Kd.N_drewN | apply Kd.N_drew)); exact HO125.out⟩, ⟨by repeat (first | (with_reducible first | exact HB.out | apply below_alloc | apply pw_below_drewN | apply below_drew1) | exact HB.out)⟩⟩
          · rw [if_neg c4] at H
            exact absurd H (by simp)
        · rw [if_neg c3] at H
          exact absurd H (by simp)
      · rw [if_neg c2] at H
        have c2b0 : decide (x4_1 < (l0.length : Int)) = false := decide_eq_false c2
        clear c2
        obtain rfl := Option.some.inj H
        go_wp2
        go_ret
        exact ⟨_, by first | rfl | (simp [errW_none, errW_some] <;> rfl) | (simp [*, errW_none, errW_some] <;> rfl), by (with_reducible repeat (first | apply Kd.N_alloc | apply Kd.N_drewN | apply Kd.N_drew)); exact HO_3.out, by repeat (first | (with_reducible first | exact HB.out | apply below_alloc | apply pw_below_drewN | apply below_drew1) | exact HB.out)⟩

end Go.Proofs.Ytdeepnpbibhfiaa.POnceMerges

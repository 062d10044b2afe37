-- printed by a program of this session (wip/tools), a turned form of the kit's print
import Derived.Test.YtdeepnpbibhfiaaPOnceSetsx0
import Derived.Test.YtdeepnpbibhfiaaPOnceSetsx2
import Derived.Test.YtdeepnpbibhfiaaPOnceSetsx4
namespace Go.Proofs.Ytdeepnpbibhfiaa.POnceSets
open Go.RowKit Go.Proofs.YtdeepnpbibhfiaaW.PrintWords Go.Proofs.YtdeepnpbibhfiaaW.PrintLast Go.Proofs.YtdeepnpbibhfiaaW.PrintMore
attribute [local go_sem] max2_int min2_int max_two min_two max_three min_three max_four min_four max2_str min2_str str_geq str_leq str_gtr   -- for this text's walks alone
set_option linter.unusedVariables false
set_option linter.unusedSimpArgs false

/-! ### gazetteerlaw12_Back: function 16 -/
def gazetteerlaw12_Back.l0 : Nat → List (S39) → List (S47) → Int → Option ((List (S47)))
  | 0, _, _, _ => none
  | k + 1, x0, x3, x4 => if x4 < (x0.length : Int) then (if 0 ≤ x4 then (if x3.length < 1353245080339 then (gazetteerlaw12_Back.l0 k x0 (x3 ++ [(⟨(rd_T39 x0 x4).f0, (⟨(rd_T39 x0 x4).f1.f0, (rd_T39 x0 x4).f1.f1, (rd_T39 x0 x4).f1.f2, (rd_T39 x0 x4).f1.f3, (rd_T39 x0 x4).f1.f4, (rd_T39 x0 x4).f1.f5, (rd_T39 x0 x4).f1.f6, (rd_T39 x0 x4).f1.f7⟩ : S33)⟩ : S47)]) (wrap64 (x4 + 1))) else (none)) else (none)) else (some x3)
def gazetteerlaw12_Back.f (k : Nat) (l0 : List (S39)) : Option ((List (S47))) := gazetteerlaw12_Back.l0 k l0 ([] : List (S47)) 0
theorem gazetteerlaw12_Back.mono_l : ∀ k, (∀ y0 y1 y2, LeO (gazetteerlaw12_Back.l0 k y0 y1 y2) (gazetteerlaw12_Back.l0 (k + 1) y0 y1 y2))
  | 0 => fun _ _ _ r h => by simp [gazetteerlaw12_Back.l0] at h
  | k + 1 => by
    have ih0 := gazetteerlaw12_Back.mono_l k
    · intro y0 y1 y2
      unfold gazetteerlaw12_Back.l0
      repeat' first
      | (with_reducible exact ih0 _ _ _)
      | (with_reducible exact LeO.refl _)
      | (with_reducible exact LeO.none _)
      | (with_reducible refine LeO.ite ?_ ?_)
      | (with_reducible refine LeO.bind ?_ (fun _ => ?_))
      | exact ih0 _ _ _
      | exact LeO.none _
      | refine LeO.ite ?_ ?_
      | refine LeO.bind ?_ (fun _ => ?_)
theorem gazetteerlaw12_Back.mono : ∀ a0 k, LeO (gazetteerlaw12_Back.f k a0) (gazetteerlaw12_Back.f (k + 1) a0) := by
  intro a0 k
  have ih0 := gazetteerlaw12_Back.mono_l k
  unfold gazetteerlaw12_Back.f
  repeat' first
      | (with_reducible exact ih0 _ _ _)
      | (with_reducible exact LeO.refl _)
      | (with_reducible exact LeO.none _)
      | (with_reducible refine LeO.ite ?_ ?_)
      | (with_reducible refine LeO.bind ?_ (fun _ => ?_))
      | exact ih0 _ _ _
      | exact LeO.none _
      | refine LeO.ite ?_ ?_
      | refine LeO.bind ?_ (fun _ => ?_)
def gazetteerlaw12_Back.T5 : Bool × List (List Nat × List Nat) := (true, [([], []), ([], []), ([], []), ([1, 2], [1, 2]), ([3], [3]), ([4], [4]), ([], []), ([], []), ([6, 7], [6, 7]), ([8], [8]), ([9], [9]), ([5, 10], [5, 10]), ([11], [11]), ([0, 12], [0, 12]), ([13, 13, 0, 1, 2, 3, 4, 5, 6, 7, 8, 9, 10, 11, 12, 13], [0, 13])])
def gazetteerlaw12_Back.B5 : List Nat := [0, 0, 0, 6, 14, 30, 0, 0, 192, 448, 960, 2046, 4094, 8191, 16383]
theorem gazetteerlaw12_Back.tab5 : rtab .any (opsOf Try.f16 5) = gazetteerlaw12_Back.T5 := by kernel_rfl
theorem gazetteerlaw12_Back.bits5 : waitsOk gazetteerlaw12_Back.T5.2 gazetteerlaw12_Back.B5 = true := by kernel_rfl
set_option maxHeartbeats 8000000 in
set_option maxRecDepth 100000 in
theorem gazetteerlaw12_Back.calls (k : Nat) (P0_ : Nat → Prop) (A0 : Option Addr) (c0 : Nat) (l0 : List (S39)) (r : List (S47)) (w : World) (hs0 : Kd.V k39 39 w w.heap.size (fun k_ => P0_ k_) (.slice A0 l0.length c0) l0) (h : gazetteerlaw12_Back.f k l0 = some r) :
    Calls Try.prog 16 #[.slice A0 l0.length c0] w fun e w' => ∃ v0_ : Value, e = .returned (v0_) ∧ Kd.N k47 47 w' w.heap.size (fun k_ => (P0_ k_ ∨ w.heap.size ≤ k_)) v0_ r ∧ Below w.heap.size w w' := by
  have hu33 := Try.underlying33
  have hu47 := Try.underlying47
  have HO0 := Aside0.mk (show Kd.V k39 39 w w.heap.size (fun k_ => (P0_ k_ ∨ w.heap.size ≤ k_)) (.slice A0 l0.length c0) l0 from Kd.V_mono hs0 (fun k_ hk => .inl hk))
  have HB := Aside0.mk (Below.refl w.heap.size w)
  have H : (gazetteerlaw12_Back.l0 k l0 ([] : List (S47)) 0) = some r := h
  clear h
  have H' := Aside0.mk H
  clear H
  go_enter Try.func16, Try.ntmps16
  go_wp2
  go_loopg [3, 4] k (fun kq v3 v4 w' => ∃ (x3_1 : List (S47)) (x4_1 : Int), v4 = .int .i64 x4_1 ∧ Aside0 (gazetteerlaw12_Back.l0 kq l0 x3_1 x4_1 = some r) ∧ Aside0 (kq ≤ k) ∧ Aside0 (Kd.V k39 39 w' w.heap.size (fun k_ => (P0_ k_ ∨ w.heap.size ≤ k_) ∧ some k_ ≠ (v3 : Value).ownBlock) (.slice A0 l0.length c0) l0) ∧ Aside0 (Kd.N k47 47 w' w.heap.size (fun k_ => (P0_ k_ ∨ w.heap.size ≤ k_)) v3 x3_1) ∧ Aside0 (Below w.heap.size w w'))
  case atStart => exact ⟨(([] : List (S47))), (0), (by first | rfl | (simp; done) | (simp [*]; done)), H', ⟨Nat.le_refl _⟩, ⟨by (with_reducible repeat (first | apply Kd.V_alloc | apply Kd.V_drewN | apply Kd.V_drew)); exact Kd.V_mono HO0.out (fun _ hk => ⟨hk, (by simp [Value.ownBlock])⟩)⟩, ⟨by first | exact Kd.S_nil _ _ _ _ _ | exact Kd.N_nil _ _ _ _ _ | exact Kd.V_nil _ _ _ _ _ | exact Kd.Q_nil _ _ _ _ _ | exact Kd.R_nil _ _ _ _ _⟩, ⟨by repeat (first | (with_reducible first | exact HB.out | apply below_alloc | apply pw_below_drewN | apply below_drew1) | exact HB.out)⟩⟩
  case round =>
    clear H'
    try clear c1
    obtain ⟨x3_1, x4_1, rfl, HA, HK1, HO_0, HO_3, HB⟩ := hrel
    cases gk with
    | zero => exact absurd HA.out (by simp [gazetteerlaw12_Back.l0])
    | succ k1 =>
      have H := HA.out
      clear HA
      simp only [gazetteerlaw12_Back.l0] at H
      by_cases c2 : x4_1 < (l0.length : Int)
      · rw [if_pos c2] at H
        have c2b0 : decide (x4_1 < (l0.length : Int)) = true := decide_eq_true c2
        clear c2
        by_cases c3 : 0 ≤ x4_1
        · rw [if_pos c3] at H
          have c3b0 : decide (0 ≤ x4_1) = true := decide_eq_true c3
          clear c3
          by_cases c4 : x3_1.length < 1353245080339
          · rw [if_pos c4] at H
            have LMc4 := Aside0.mk c4
            clear c4
            obtain ⟨y123, hy123⟩ : ∃ y_ : List (S47), y_ = (x3_1 ++ [(⟨(rd_T39 l0 x4_1).f0, (⟨(rd_T39 l0 x4_1).f1.f0, (rd_T39 l0 x4_1).f1.f1, (rd_T39 l0 x4_1).f1.f2, (rd_T39 l0 x4_1).f1.f3, (rd_T39 l0 x4_1).f1.f4, (rd_T39 l0 x4_1).f1.f5, (rd_T39 l0 x4_1).f1.f6, (rd_T39 l0 x4_1).f1.f7⟩ : S33)⟩ : S47)]) := ⟨_, rfl⟩
            replace H : (gazetteerlaw12_Back.l0 k1 l0 y123 (wrap64 (x4_1 + 1))) = some r := by first | (rw [hy123]; with_reducible exact H) | (have H2_ := (Option.bind_some _ _).symm.trans H; rw [hy123]; with_reducible exact H2_) | (have H2_ := (Option.bind_some _ _).symm.trans H; with_reducible exact H2_) | with_reducible exact H | (rw [hy123]; exact H) | exact H
            have Ny123 := Aside0.mk hy123
            clear hy123
            have H' := Aside0.mk H
            clear H
            try go_wp2
            have n0_ := Aside0.mk (Kd.V_drew HO_0.out)
            have n1_ := Aside0.mk (Kd.N_drew HO_3.out)
            have n2_ := Aside0.mk (below_drew1 HB.out)
            clear HO_0
            clear HO_3
            clear HB
            have HO_0 := n0_
            have HO_3 := n1_
            have HB := n2_
            clear n0_ n1_ n2_
            have p121 : 0 ≤ (x4_1 : Int) := of_decide_eq_true (by first | (with_reducible assumption) | assumption)
            have q121 : x4_1 < (l0.length : Int) := of_decide_eq_true (by first | (with_reducible assumption) | assumption)
            obtain ⟨ad121, A121_6, c121_6, e121, hx121_0, hx121_1, hx121_2, hx121_3, hx121_4, hx121_5, hx121_6, hx121_7, hx121_8, hl121_6, hi121_6⟩ := at_T39 (Kd.V_reads' HO_0.out).2.2 x4_1 p121 q121
            cases e121
            obtain ⟨ce121, hce121, hMe121, hcc121⟩ := Kd.V_get HO_0.out z39 x4_1 p121 (by first | exact q121 | exact of_decide_eq_true (by first | (with_reducible assumption) | assumption) | (have e_ := (Kd.V_reads' HO_0.out).1; omega))
            obtain ⟨ua121_6, uc121_6, rfl, ul121_6, ge121_6⟩ := k39_openF hMe121
            have hv121_6 := hcc121 6 _ rfl
            rw [add_field _ _ 6 (by omega)] at hv121_6
            replace hv121_6 := Option.some.inj (hv121_6.symm.trans hx121_6)
            injection hv121_6 with hva_ hvn_ hvc_
            rw [hva_] at ge121_6
            rw [hvc_] at ul121_6
            have HL121_6 := Aside0.mk (show Kd.V k71 71 _ w.heap.size _ _ ((rd_T39 l0 x4_1).f1.f5) from Kd.V_mk ul121_6 ge121_6)
            clear hva_ hvn_ hvc_ ge121_6 ul121_6
            clear hcc121 hce121
            have HR121_6 := Aside0.mk hi121_6
            have HC121_6 := Aside0.mk hl121_6
            clear hi121_6 hl121_6
            replace p121 := eq_true p121
            replace q121 := eq_true q121
            have p122 : 0 ≤ (x4_1 : Int) := of_decide_eq_true (by first | (with_reducible assumption) | assumption)
            have q122 : x4_1 < (l0.length : Int) := of_decide_eq_true (by first | (with_reducible assumption) | assumption)
            obtain ⟨ad122, A122_6, c122_6, e122, hx122_0, hx122_1, hx122_2, hx122_3, hx122_4, hx122_5, hx122_6, hx122_7, hx122_8, hl122_6, hi122_6⟩ := at_T39 (Kd.V_reads' HO_0.out).2.2 x4_1 p122 q122
            obtain rfl : ad121 = ad122 := (by injection e122)
            obtain ⟨ce122, hce122, hMe122, hcc122⟩ := Kd.V_get HO_0.out z39 x4_1 p122 (by first | exact q122 | exact of_decide_eq_true (by first | (with_reducible assumption) | assumption) | (have e_ := (Kd.V_reads' HO_0.out).1; omega))
            obtain ⟨ua122_6, uc122_6, rfl, ul122_6, ge122_6⟩ := k39_openF hMe122
            have hv122_6 := hcc122 6 _ rfl
            rw [add_field _ _ 6 (by omega)] at hv122_6
            replace hv122_6 := Option.some.inj (hv122_6.symm.trans hx122_6)
            injection hv122_6 with hva_ hvn_ hvc_
            rw [hva_] at ge122_6
            rw [hvc_] at ul122_6
            have HL122_6 := Aside0.mk (show Kd.V k71 71 _ w.heap.size _ _ ((rd_T39 l0 x4_1).f1.f5) from Kd.V_mk ul122_6 ge122_6)
            clear hva_ hvn_ hvc_ ge122_6 ul122_6
            clear hcc122 hce122
            have HR122_6 := Aside0.mk hi122_6
            have HC122_6 := Aside0.mk hl122_6
            clear hi122_6 hl122_6
            replace p122 := eq_true p122
            replace q122 := eq_true q122
            have ea_ := Option.some.inj (hx121_6.symm.trans hx122_6)
            injection ea_ with ea_ en_ ec_
            subst ea_
            subst ec_
            clear en_
            refine start_ (n := 15) (S := fun w' => w'.cell? (ad121.add ((x4_1).toNat * 9)) = some (.int .i64 ((rd_T39 l0 x4_1).f0)) ∧ w'.cell? ⟨(ad121.add ((x4_1).toNat * 9)).block, (ad121.add ((x4_1).toNat * 9)).off + 1, none⟩ = some (.int .i64 ((rd_T39 l0 x4_1).f1.f0)) ∧ w'.cell? ⟨(ad121.add ((x4_1).toNat * 9)).block, (ad121.add ((x4_1).toNat * 9)).off + 2, none⟩ = some (.int .i64 ((rd_T39 l0 x4_1).f1.f1)) ∧ w'.cell? ⟨(ad121.add ((x4_1).toNat * 9)).block, (ad121.add ((x4_1).toNat * 9)).off + 3, none⟩ = some (.int .i64 ((rd_T39 l0 x4_1).f1.f2)) ∧ w'.cell? ⟨(ad121.add ((x4_1).toNat * 9)).block, (ad121.add ((x4_1).toNat * 9)).off + 4, none⟩ = some (.bool ((rd_T39 l0 x4_1).f1.f3)) ∧ w'.cell? ⟨(ad121.add ((x4_1).toNat * 9)).block, (ad121.add ((x4_1).toNat * 9)).off + 5, none⟩ = some (.string ((rd_T39 l0 x4_1).f1.f4)) ∧ w'.cell? ⟨(ad121.add ((x4_1).toNat * 9)).block, (ad121.add ((x4_1).toNat * 9)).off + 6, none⟩ = some (.slice A121_6 ((rd_T39 l0 x4_1).f1.f5).length c121_6) ∧ w'.cell? ⟨(ad121.add ((x4_1).toNat * 9)).block, (ad121.add ((x4_1).toNat * 9)).off + 7, none⟩ = some (.string ((rd_T39 l0 x4_1).f1.f6)) ∧ w'.cell? ⟨(ad121.add ((x4_1).toNat * 9)).block, (ad121.add ((x4_1).toNat * 9)).off + 8, none⟩ = some (.bool ((rd_T39 l0 x4_1).f1.f7)) ∧ w'.cell? (ad121.add ((x4_1).toNat * 9)) = some (.int .i64 ((rd_T39 l0 x4_1).f0)) ∧ w'.cell? ⟨(ad121.add ((x4_1).toNat * 9)).block, (ad121.add ((x4_1).toNat * 9)).off + 1, none⟩ = some (.int .i64 ((rd_T39 l0 x4_1).f1.f0)) ∧ w'.cell? ⟨(ad121.add ((x4_1).toNat * 9)).block, (ad121.add ((x4_1).toNat * 9)).off + 2, none⟩ = some (.int .i64 ((rd_T39 l0 x4_1).f1.f1)) ∧ w'.cell? ⟨(ad121.add ((x4_1).toNat * 9)).block, (ad121.add ((x4_1).toNat * 9)).off + 3, none⟩ = some (.int .i64 ((rd_T39 l0 x4_1).f1.f2)) ∧ w'.cell? ⟨(ad121.add ((x4_1).toNat * 9)).block, (ad121.add ((x4_1).toNat * 9)).off + 4, none⟩ = some (.bool ((rd_T39 l0 x4_1).f1.f3)) ∧ w'.cell? ⟨(ad121.add ((x4_1).toNat * 9)).block, (ad121.add ((x4_1).toNat * 9)).off + 5, none⟩ = some (.string ((rd_T39 l0 x4_1).f1.f4)) ∧ w'.cell? ⟨(ad121.add ((x4_1).toNat * 9)).block, (ad121.add ((x4_1).toNat * 9)).off + 6, none⟩ = some (.slice A121_6 ((rd_T39 l0 x4_1).f1.f5).length c121_6) ∧ w'.cell? ⟨(ad121.add ((x4_1).toNat * 9)).block, (ad121.add ((x4_1).toNat * 9)).off + 7, none⟩ = some (.string ((rd_T39 l0 x4_1).f1.f6)) ∧ w'.cell? ⟨(ad121.add ((x4_1).toNat * 9)).block, (ad121.add ((x4_1).toNat * 9)).off + 8, none⟩ = some (.bool ((rd_T39 l0 x4_1).f1.f7))) (ds := [12, 13]) #[false, false, false, false, false, false, false, false, false, false, false, false, false, false, false] (by kernel_rfl) rfl rfl ⟨hx121_0, hx121_1, hx121_2, hx121_3, hx121_4, hx121_5, hx121_6, hx121_7, hx121_8, hx122_0, hx122_1, hx122_2, hx122_3, hx122_4, hx122_5, hx122_6, hx122_7, hx122_8⟩ (fun hHeld => ?_); refine with_tabW gazetteerlaw12_Back.tab5 gazetteerlaw12_Back.bits5 (fun HT_ HW_ => ?_)
            generalize wr.drew = w5 at HO_0 HO_3 HB HL121_6 HL122_6 HR121_6 HR122_6 hx121_0 hx121_1 hx121_2 hx121_3 hx121_4 hx121_5 hx121_6 hx121_7 hx121_8 hx122_0 hx122_1 hx122_2 hx122_3 hx122_4 hx122_5 hx122_6 hx122_7 hx122_8 hHeld ⊢
            refine pure_ (i := 0) (N := some 11) (v := ?_) (a' := ?_) #[true, false, false, false, false, false, false, false, false, false, false, false, false, false, false] rfl rfl (any_of HT_.out (by kernel_rfl)) (fun _ _ _ h => h) (Or.inl ⟨by rfl, ?_⟩) ?_ ?_
            rotate_left
            · intro w'
              go_simp
              with_reducible rfl
            rotate_left
            · simp only [Act.put, List.setIfInBounds_toArray, List.set_cons_zero, List.set_cons_succ, i64_w, i32_w]
              rfl
            refine pure_ (i := 1) (N := some 12) (v := ?_) (a' := ?_) #[true, true, false, false, false, false, false, false, false, false, false, false, false, false, false] rfl rfl (any_of HT_.out (by kernel_rfl)) (fun _ _ _ h => h) (Or.inl ⟨by rfl, ?_⟩) ?_ ?_
            rotate_left
            · intro w'
              go_simp
              with_reducible rfl
            rotate_left
            · simp only [Act.put, List.setIfInBounds_toArray, List.set_cons_zero, List.set_cons_succ, i64_w, i32_w]
              rfl
            refine pure_ (i := 2) (N := some 13) (v := ?_) (a' := ?_) #[true, true, true, false, false, false, false, false, false, false, false, false, false, false, false] rfl rfl (any_of HT_.out (by kernel_rfl)) (fun _ _ _ h => h) (Or.inl ⟨by rfl, ?_⟩) ?_ ?_
            rotate_left
            · intro w'
              go_simp
              with_reducible rfl
            rotate_left
            · simp only [Act.put, List.setIfInBounds_toArray, List.set_cons_zero, List.set_cons_succ, i64_w, i32_w]
              rfl
            refine pure_ (i := 3) (N := some 14) (v := ?_) (a' := ?_) #[true, true, true, true, false, false, false, false, false, false, false, false, false, false, false] rfl rfl (any_of HT_.out (by kernel_rfl)) (fun _ _ _ h => h) (Or.inl ⟨by rfl, ?_⟩) ?_ ?_
            rotate_left
            · intro w'
              go_simp
              with_reducible rfl
            rotate_left
            · simp only [Act.put, List.setIfInBounds_toArray, List.set_cons_zero, List.set_cons_succ, i64_w, i32_w]
              rfl
            refine pure_ (i := 4) (N := some 15) (v := ?_) (a' := ?_) #[true, true, true, true, true, false, false, false, false, false, false, false, false, false, false] rfl rfl (any_of HT_.out (by kernel_rfl)) (fun _ _ _ h => h) (Or.inl ⟨by rfl, ?_⟩) ?_ ?_
            rotate_left
            · intro w'
              go_simp
              with_reducible rfl
            rotate_left
            · simp only [Act.put, List.setIfInBounds_toArray, List.set_cons_zero, List.set_cons_succ, i64_w, i32_w]
              rfl
            refine pure_ (i := 6) (N := some 17) (v := ?_) (a' := ?_) #[true, true, true, true, true, false, true, false, false, false, false, false, false, false, false] rfl rfl (any_of HT_.out (by kernel_rfl)) (fun _ _ _ h => h) (Or.inl ⟨by rfl, ?_⟩) ?_ ?_
            rotate_left
            · intro w'
              go_simp
              with_reducible rfl
            rotate_left
            · simp only [Act.put, List.setIfInBounds_toArray, List.set_cons_zero, List.set_cons_succ, i64_w, i32_w]
              rfl
            refine pure_ (i := 7) (N := some 18) (v := ?_) (a' := ?_) #[true, true, true, true, true, false, true, true, false, false, false, false, false, false, false] rfl rfl (any_of HT_.out (by kernel_rfl)) (fun _ _ _ h => h) (Or.inl ⟨by rfl, ?_⟩) ?_ ?_
            rotate_left
            · intro w'
              go_simp
              with_reducible rfl
            rotate_left
            · simp only [Act.put, List.setIfInBounds_toArray, List.set_cons_zero, List.set_cons_succ, i64_w, i32_w]
              rfl
            refine pure_ (i := 8) (N := some 19) (v := ?_) (a' := ?_) #[true, true, true, true, true, false, true, true, true, false, false, false, false, false, false] rfl rfl (any_of HT_.out (by kernel_rfl)) (fun _ _ _ h => h) (Or.inl ⟨by rfl, ?_⟩) ?_ ?_
            rotate_left
            · intro w'
              go_simp
              with_reducible rfl
            rotate_left
            · simp only [Act.put, List.setIfInBounds_toArray, List.set_cons_zero, List.set_cons_succ, i64_w, i32_w]
              rfl
            refine pure_ (i := 9) (N := some 20) (v := ?_) (a' := ?_) #[true, true, true, true, true, false, true, true, true, true, false, false, false, false, false] rfl rfl (any_of HT_.out (by kernel_rfl)) (fun _ _ _ h => h) (Or.inl ⟨by rfl, ?_⟩) ?_ ?_
            rotate_left
            · intro w'
              go_simp
              with_reducible rfl
            rotate_left
            · simp only [Act.put, List.setIfInBounds_toArray, List.set_cons_zero, List.set_cons_succ, i64_w, i32_w]
              rfl
            refine take_ (i := 5) (N := some 16) (v := ?_) (a' := ?_) #[true, true, true, true, true, true, true, true, true, true, false, false, false, false, false] rfl rfl (take_ofW HT_.out HW_.out (by kernel_rfl)) (fun _ _ _ h => h) (Or.inl ⟨by rfl, ?_⟩) hHeld ?_ ?_
            rotate_left
            · rintro w' ⟨s0, s1, s2, s3, s4, s5, s6, s7, s8, s9, s10, s11, s12, s13, s14, s15, s16, s17⟩
              go_simp
              with_reducible rfl
            rotate_left
            · simp only [Act.put, List.setIfInBounds_toArray, List.set_cons_zero, List.set_cons_succ, i64_w, i32_w]
              rfl
            refine take_ (i := 10) (N := some 21) (v := ?_) (a' := ?_) #[true, true, true, true, true, true, true, true, true, true, true, false, false, false, false] rfl rfl (take_ofW HT_.out HW_.out (by kernel_rfl)) (fun _ _ _ h => h) (Or.inl ⟨by rfl, ?_⟩) hHeld ?_ ?_
            rotate_left
            · rintro w' ⟨s0, s1, s2, s3, s4, s5, s6, s7, s8, s9, s10, s11, s12, s13, s14, s15, s16, s17⟩
              go_simp
              with_reducible rfl
            rotate_left
            · simp only [Act.put, List.setIfInBounds_toArray, List.set_cons_zero, List.set_cons_succ, i64_w, i32_w]
              rfl
            refine pure_ (i := 11) (N := some 22) (v := ?_) (a' := ?_) #[true, true, true, true, true, true, true, true, true, true, true, true, false, false, false] rfl rfl (any_of HT_.out (by kernel_rfl)) (fun _ _ _ h => h) (Or.inl ⟨by rfl, ?_⟩) ?_ ?_
            rotate_left
            · intro w'
              go_simp
              with_reducible rfl
            rotate_left
            · simp only [Act.put, List.setIfInBounds_toArray, List.set_cons_zero, List.set_cons_succ, i64_w, i32_w]
              rfl
            refine last_ (i := 12) (N := some 23) #[true, true, true, true, true, true, true, true, true, true, true, true, true, false, false] rfl rfl (one_of HT_.out (by kernel_rfl)) (by decide) (fun K hK => ?_)
            refine value_ (w1 := ?_) (v := ?_) (by rfl) rfl ?_ ?_
            rotate_left 2
            · go_simp
              constructor
              · rfl
              · rfl
            refine hK.out _ _ ?_
            clear hK K
            refine norm_ (a' := ?_) ?_ ?_
            rotate_left
            · show Act.put _ (some 23) _ = _
              simp only [Act.put, List.setIfInBounds_toArray, List.set_cons_zero, List.set_cons_succ, i64_w, i32_w]
              rfl
            refine last_ (i := 13) (N := some 24) #[true, true, true, true, true, true, true, true, true, true, true, true, true, true, false] rfl rfl (one_of HT_.out (by kernel_rfl)) (by decide) (fun K hK => ?_)
            refine Kd.N_append_step k47 (w0 := w) w.heap.size (by rfl) (.tmp 11) (.tmp 23) 44 47 (.agg #[(.int .i64 0), (.int .i64 0), (.int .i64 0), (.int .i64 0), (.bool false), (.string ⟨#[]⟩), (.slice none 0 0), (.string ⟨#[]⟩), (.bool false)]) 104 rfl Try.underlying44 info47 rfl (by decide) (by omega) u3 x3_1 (⟨(rd_T39 l0 x4_1).f0, (⟨(rd_T39 l0 x4_1).f1.f0, (rd_T39 l0 x4_1).f1.f1, (rd_T39 l0 x4_1).f1.f2, (rd_T39 l0 x4_1).f1.f3, (rd_T39 l0 x4_1).f1.f4, (rd_T39 l0 x4_1).f1.f5, (rd_T39 l0 x4_1).f1.f6, (rd_T39 l0 x4_1).f1.f7⟩ : S33)⟩ : S47) [.int .i64 ((rd_T39 l0 x4_1).f0), .int .i64 ((rd_T39 l0 x4_1).f1.f0), .int .i64 ((rd_T39 l0 x4_1).f1.f1), .int .i64 ((rd_T39 l0 x4_1).f1.f2), .bool ((rd_T39 l0 x4_1).f1.f3), .string ((rd_T39 l0 x4_1).f1.f4), .slice A121_6 ((rd_T39 l0 x4_1).f1.f5).length c121_6, .string ((rd_T39 l0 x4_1).f1.f6), .bool ((rd_T39 l0 x4_1).f1.f7)] (fun k_ => (P0_ k_ ∨ w.heap.size ≤ k_)) (fun k_ => ((fun k_ => (P0_ k_ ∨ w.heap.size ≤ k_))) k_ ∧ some k_ ≠ (u3 : Value).ownBlock) rfl rfl ?aP (fun _ hk => hk) ?aF ?aO ?aB ?aS ?aL ?_
            (case aP => exact (k47_mkF _ _ (⟨(rd_T39 l0 x4_1).f0, (⟨(rd_T39 l0 x4_1).f1.f0, (rd_T39 l0 x4_1).f1.f1, (rd_T39 l0 x4_1).f1.f2, (rd_T39 l0 x4_1).f1.f3, (rd_T39 l0 x4_1).f1.f4, (rd_T39 l0 x4_1).f1.f5, (rd_T39 l0 x4_1).f1.f6, (rd_T39 l0 x4_1).f1.f7⟩ : S33)⟩ : S47) (Kd.V_reads' (Kd.V_mono (ok' := (fun k_ => ((fun k_ => (P0_ k_ ∨ w.heap.size ≤ k_))) k_ ∧ some k_ ≠ (u3 : Value).ownBlock)) (HL122_6.out) (fun k_ hk => ⟨hk.1, hk.2⟩))).2.1 (Kd.V_F (Kd.V_mono (ok' := (fun k_ => ((fun k_ => (P0_ k_ ∨ w.heap.size ≤ k_))) k_ ∧ some k_ ≠ (u3 : Value).ownBlock)) (HL122_6.out) (fun k_ hk => ⟨hk.1, hk.2⟩)))))
            (case aB => exact (by repeat (first | (with_reducible first | exact HB.out | apply below_alloc | apply pw_below_drewN | apply below_drew1) | exact HB.out)))
            (case aF => exact (fun k_ hk => (.inr (Nat.le_trans (below_size (by repeat (first | (with_reducible first | exact HB.out | apply below_alloc | apply pw_below_drewN | apply below_drew1) | exact HB.out))) hk))))
            (case aO => exact (by (with_reducible repeat (first | apply Kd.N_alloc | apply Kd.N_drewN | apply Kd.N_drew)); exact HO_3.out))
            (case aS => exact (below_size (by repeat (first | (with_reducible first | exact HB.out | apply below_alloc | apply pw_below_drewN | apply below_drew1) | exact HB.out))))
            (case aL => have := LMc4.out; omega)
            intro v124 w6 ho hb hg hat
            rw [← Ny123.out] at ho
            have n0_ := Aside0.mk (Kd.V_afterv (ok := (fun k_ => (P0_ k_ ∨ w.heap.size ≤ k_))) (by (with_reducible repeat (first | apply Kd.V_alloc | apply Kd.V_drewN | apply Kd.V_drew)); exact HO_0.out) hg hat)
            have n1_ := Aside0.mk (Kd.V_afterv (ok := (fun k_ => (P0_ k_ ∨ w.heap.size ≤ k_))) (by (with_reducible repeat (first | apply Kd.V_alloc | apply Kd.V_drewN | apply Kd.V_drew)); exact HL121_6.out) hg hat)
            have n2_ := Aside0.mk (Kd.V_afterv (ok := (fun k_ => (P0_ k_ ∨ w.heap.size ≤ k_))) (by (with_reducible repeat (first | apply Kd.V_alloc | apply Kd.V_drewN | apply Kd.V_drew)); exact HL122_6.out) hg hat)
            have n3_ := Aside0.mk (hb)
            have n4_ := Aside0.mk (ho)
            clear HO_0
            clear HL121_6
            clear HL122_6
            clear HB
            clear HO_3
            have HO_0 := n0_
            have HL121_6 := n1_
            have HL122_6 := n2_
            have HB := n3_
            have HO125 := n4_
            clear n0_ n1_ n2_ n3_ n4_
            clear ho hb hg hat
            refine hK.out _ _ ?_
            clear hK K
            refine norm_ (a' := ?_) ?_ ?_
            rotate_left
            · show Act.put _ (some 24) _ = _
              simp only [Act.put, List.setIfInBounds_toArray, List.set_cons_zero, List.set_cons_succ, i64_w, i32_w]
              rfl
            refine pure_ (i := 14) (N := some 3) (v := ?_) (a' := ?_) #[true, true, true, true, true, true, true, true, true, true, true, true, true, true, true] rfl rfl (any_of HT_.out (by kernel_rfl)) (fun _ _ _ h => h) (Or.inl ⟨by rfl, ?_⟩) ?_ ?_
            rotate_left
            · intro w'
              go_simp
              with_reducible rfl
            rotate_left
            · simp only [Act.put, List.setIfInBounds_toArray, List.set_cons_zero, List.set_cons_succ, i64_w, i32_w]
              rfl
            refine done_ (done_of HT_.out (by kernel_rfl)) ?_
            try go_wp2
            go_roundg k1
            case measure => have := HK1.out; omega
            case rel => exact ⟨(y123), (wrap64 (x4_1 + 1)), (by first | rfl | (simp; done) | (simp [*]; done)), H', ⟨by have := HK1.out; omega⟩, ⟨by (with_reducible repeat (first | apply Kd.V_alloc | apply Kd.V_drewN | apply Kd.V_drew)); exact HO_0.out⟩, ⟨by (with_reducible repeat (first | apply Kd.N_alloc | apply Kd.N_drewN | apply Kd.N_drew)); exact HO125.out⟩, ⟨by repeat (first | (with_reducible first | exact HB.out | apply below_alloc | apply pw_below_drewN | apply below_drew1) | exact HB.out)⟩⟩
          · rw [if_neg c4] at H
            exact absurd H (by simp)
        · rw [if_neg c3] at H
          exact absurd H (by simp)
      · rw [if_neg c2] at H
        have c2b0 : decide (x4_1 < (l0.length : Int)) = false := decide_eq_false c2
        clear c2
        obtain rfl := Option.some.inj H
        go_wp2
        go_ret
        exact ⟨_, by first | rfl | (simp [errW_none, errW_some] <;> rfl) | (simp [*, errW_none, errW_some] <;> rfl), by (with_reducible repeat (first | apply Kd.N_alloc | apply Kd.N_drewN | apply Kd.N_drew)); exact HO_3.out, by repeat (first | (with_reducible first | exact HB.out | apply below_alloc | apply pw_below_drewN | apply below_drew1) | exact HB.out)⟩

/-! ### gazetteerlaw12_OnceSets: function 4 -/
open Go.Proofs.YtdeepnpbibhfiaaW.PrintReg Go.Proofs.YtdeepnpbibhfiaaW.PrintOnce Go.Proofs.YtdeepnpbibhfiaaW.PrintTree
def SmallP (l : List S33) : Prop := l.length ≤ 101 ∧ ∀ x ∈ l, x.f5.length ≤ 1000000
def gazetteerlaw12_OnceSets.ok (l0 l1 : List S33) : Prop := (∀ x ∈ l0, (Lit.int .i64 x.f0).wf = true) ∧ (∀ x ∈ l1, (Lit.int .i64 x.f0).wf = true) ∧ ∃ k sa sb, gazetteerlaw12_Small.f k l0 = some sa ∧ (sa = true → gazetteerlaw12_Small.f k l1 = some sb) ∧ (sa = true → sb = true → SmallP l0 ∧ SmallP l1 ∧ gazetteerlaw12_Made.f k (l1.map mkM) = some (l1.map mkL) ∧ gazetteerlaw12_Back.f k ((l1.foldl noteT []).map mkL) = some ((l1.foldl noteT []).map mkM) ∧ gazetteerlaw12_Same.f k ((l1.foldl noteT []).map mkM) ((l1.foldl noteT []).map mkM) = some true)
open Classical in
noncomputable def gazetteerlaw12_OnceSets.f (l0 l1 : List S33) : Option Bool := if gazetteerlaw12_OnceSets.ok l0 l1 then some true else none
theorem mtv_step {w w1 w0 : World} {base gm : Nat} {v : Value} {T : List S33} (h : Mtv w w0 base gm v T) (hm : ∀ k, k = gm ∨ some k = v.ownBlock → k < w.heap.size → w1.heap[k]? = w.heap[k]?) : Mtv w1 w0 base gm v T :=
  ⟨(hm gm (.inl rfl) (blk_lt h.1)).trans h.1, h.2.1, Kd.R_step h.2.2 (fun k hk hlt => hm k (.inr hk) hlt)⟩
theorem mtv_lt {w w0 : World} {base gm : Nat} {v : Value} {T : List S33} (h : Mtv w w0 base gm v T) {k : Nat} (hk : some k = v.ownBlock) : base ≤ k ∧ k < w.heap.size ∧ k ≠ gm := by
  obtain ⟨inn, ho⟩ := Kd.R_own h.2.2
  obtain ⟨cells, hc⟩ := own_typed ho k hk.symm
  refine ⟨own_base ho k hk.symm, Go.Proofs.YtdeepnpbibhfiaaW.PrintWords.own_lt ho k hk.symm, ?_⟩
  rintro rfl
  rw [h.1] at hc
  injection hc with hc
  injection hc with _ h2 _
  cases h2
theorem rd_at33 {l : List S33} {i : Nat} (h : i < l.length) : rd_T33 l (i : Int) = l[i] := by
  unfold rd_T33
  rw [Int.toNat_natCast, List.getD_eq_getElem?_getD, List.getElem?_eq_getElem h]; rfl
/-- A row of the law's own, beside the reference's object. -/
def RowL (w w0 : World) (B gm : Nat) (v7 v : Value) (xs : List S33) : Prop := (kW w0).R 47 w B (fun k => some k = v7.ownBlock) v7 xs ∧ (∀ k, some k = v7.ownBlock → k ≠ gm ∧ some k ≠ v.ownBlock)
theorem RowL.lt {w w0 : World} {B gm : Nat} {v7 v : Value} {xs : List S33} (h : RowL w w0 B gm v7 v xs) {k : Nat} (hk : some k = v7.ownBlock) : B ≤ k ∧ k < w.heap.size := by
  obtain ⟨inn, ho⟩ := Kd.R_own h.1
  exact ⟨own_base ho k hk.symm, Go.Proofs.YtdeepnpbibhfiaaW.PrintWords.own_lt ho k hk.symm⟩
theorem RowL.below {w w1 w0 : World} {B gm : Nat} {v7 v : Value} {xs : List S33} (h : RowL w w0 B gm v7 v xs) (hb : Below w.heap.size w w1) : RowL w1 w0 B gm v7 v xs := ⟨Kd.R_below h.1 hb, h.2⟩
/-- Behind a note: the law's row stays. -/
theorem RowL.noted {w w1 w0 : World} {B gm : Nat} {v7 v v' : Value} {xs : List S33} (h : RowL w w0 B gm v7 v xs) (ho : On (fun k => k = gm ∨ some k = v.ownBlock) w w1) (hv : v'.ownBlock = v.ownBlock ∨ ∃ k, v'.ownBlock = some k ∧ w.heap.size ≤ k) : RowL w1 w0 B gm v7 v' xs := by
  refine ⟨Kd.R_step h.1 (fun k hk hlt => ho.block k hlt (fun hq => by rcases hq with hq | hq; exact (h.2 k hk).1 hq; exact (h.2 k hk).2 hq)), fun k hk => ⟨(h.2 k hk).1, fun he => ?_⟩⟩
  rcases hv with hv | ⟨b, hv, hle⟩
  · rw [hv] at he; exact (h.2 k hk).2 he
  · rw [hv] at he
    have := (h.lt hk).2
    have := Option.some.inj he
    omega
theorem RowL.app {W w1 w0 : World} {B gm : Nat} {v7 v9 v : Value} {xs T : List S33} {x : S33} (h : RowL W w0 B gm v7 v xs) (hM : Mtv W w0 gm gm v T) (ho : (kW w0).R 47 w1 B (fun _ => True) v9 (xs ++ [x])) (hg : W.grownBy w1 v7.ownBlock) (hat : v9.ownBlock = v7.ownBlock ∨ ∃ b, v9.ownBlock = some b ∧ W.heap.size ≤ b) : RowL w1 w0 B gm v9 v (xs ++ [x]) ∧ Mtv w1 w0 gm gm v T := by
  refine ⟨⟨Kd.R_tight rfl ho, fun k hk => ?_⟩, mtv_step hM (fun k hk hlt => hg.block k hlt (fun he => ?_))⟩
  · rcases hat with hat | ⟨b, hat, hle⟩
    · rw [hat] at hk; exact h.2 k hk
    · rw [hat] at hk
      obtain rfl := Option.some.inj hk
      have := blk_lt hM.1
      exact ⟨by omega, fun he => by have := (mtv_lt hM he).2.1; omega⟩
  · rcases hk with rfl | hk
    · exact (h.2 k he).1 rfl
    · exact (h.2 k he).2 hk
set_option maxHeartbeats 8000000 in
set_option maxRecDepth 100000 in
theorem gazetteerlaw12_OnceSets.calls (A0 : Option Addr) (c0 : Nat) (l0 : List (S33)) (A1 : Option Addr) (c1 : Nat) (l1 : List (S33)) (r : Bool) (w : World) (hr0 : Kd.C k33 w A0 l0.length l0) (hc0 : l0.length ≤ c0) (hr1 : Kd.C k33 w A1 l1.length l1) (hc1 : l1.length ≤ c1) (HLT0 : r = true) (h : gazetteerlaw12_OnceSets.f l0 l1 = some r) :
    Calls Try.prog 4 #[.slice A0 l0.length c0, .slice A1 l1.length c1] w fun e w' => e = .returned (.bool r) ∧ Below w.heap.size w w' := by
  unfold gazetteerlaw12_OnceSets.f at h
  split at h
  case isFalse => cases h
  case isTrue hall =>
  clear h
  subst HLT0
  obtain ⟨wf0, wf1, kf, sa, sb, hsa, hsb, hrest⟩ := hall
  have HC0 := Aside0.mk (And.intro hr0 hc0)
  have HC1 := Aside0.mk (And.intro hr1 hc1)
  have HWF := Aside0.mk (And.intro wf0 wf1)
  have HSA := Aside0.mk hsa
  have HSB := Aside0.mk hsb
  have HRE := Aside0.mk hrest
  clear hr0 hc0 hr1 hc1 wf0 wf1 hsa hsb hrest
  go_enter Try.func4, Try.ntmps4
  go_wp2_with fail
  refine (awake6 w).mono ?_
  rintro e w1 ⟨rfl, hb⟩
  have HB1 := Aside0.mk hb
  clear hb
  go_wp2_with fail
  refine (gazetteerlaw12_Small.calls kf A0 c0 l0 sa w1 (Kd.C_below HC0.out.1 HB1.out) HC0.out.2 HSA.out).mono ?_
  rintro e w2 ⟨rfl, hb⟩
  have HB2 := Aside0.mk (below_step HB1.out hb)
  clear hb HB1 HSA
  cases sa with
  | false =>
    clear HSB HRE
    go_wp2_with fail
    go_ret
    exact ⟨rfl, HB2.out⟩
  | true =>
  go_wp2_with fail
  refine (gazetteerlaw12_Small.calls kf A1 c1 l1 sb w2 (Kd.C_below HC1.out.1 HB2.out) HC1.out.2 (HSB.out (by first | rfl | trivial))).mono ?_
  rintro e w3 ⟨rfl, hb⟩
  have HB3 := Aside0.mk (below_step HB2.out hb)
  clear hb HB2 HSB
  cases sb with
  | false =>
    clear HRE
    go_wp2_with fail
    go_ret
    exact ⟨rfl, HB3.out⟩
  | true =>
  have HS0 := Aside0.mk (HRE.out (by first | rfl | trivial) (by first | rfl | trivial)).1
  have HS1 := Aside0.mk (HRE.out (by first | rfl | trivial) (by first | rfl | trivial)).2.1
  have HMB := Aside0.mk (HRE.out (by first | rfl | trivial) (by first | rfl | trivial)).2.2
  clear HRE
  obtain ⟨n0, hn0⟩ : ∃ n, n = l0.length := ⟨_, rfl⟩
  obtain ⟨n1, hn1⟩ : ∃ n, n = l1.length := ⟨_, rfl⟩
  rw [← hn0, ← hn1]
  rw [← hn0] at HC0
  rw [← hn1] at HC1
  have HN0 := Aside0.mk hn0
  have HN1 := Aside0.mk hn1
  clear hn0 hn1
  go_wp2_with fail
  refine (new7 w3).mono ?_
  rintro e w4 ⟨rfl, hT, hb⟩
  obtain ⟨g, hg⟩ : ∃ g, g = w3.heap.size + 1 := ⟨_, rfl⟩
  obtain ⟨bm, hbm⟩ : ∃ bm, bm = w3.heap.size := ⟨_, rfl⟩
  rw [← hg, ← hbm] at hT
  rw [← hg]
  have hpn := fun wx => run_eql_ptr_nil (P := Try.prog) wx 24 56 ⟨g, 0, none⟩ Try.underlying24
  obtain ⟨W5, hW5⟩ : ∃ W5, W5 = w4.alloc (.cells #[.slice none 0 0] 46) := ⟨_, rfl⟩
  obtain ⟨gm, hgm⟩ : ∃ gm, gm = w4.heap.size := ⟨_, rfl⟩
  have HT5 : Aside0 (Tbl W5 bm g bm []) := ⟨by rw [hW5]; exact hT.below (below_alloc (Below.refl _ _) _)⟩
  have HB4 := Aside0.mk (below_step HB3.out hb)
  have HB5 : Aside0 (Below w.heap.size w W5) := ⟨by rw [hW5]; exact below_alloc HB4.out _⟩
  have HGM : Aside0 (W5.heap[gm]? = some (.cells #[.slice none 0 0] 46 (0, 0)) ∧ g < gm ∧ bm < gm ∧ w.heap.size ≤ bm ∧ w.heap.size ≤ g) := ⟨by
    obtain ⟨ms, m1, m2, m3, _⟩ := hT
    have := blk_lt m1; have := m3.lt; have := HB3.out.size
    rw [hW5, hgm]
    exact ⟨blk_new w4 _, by omega, by omega, by omega, by omega⟩⟩
  clear hT hb hg hbm HB3 HB4
  go_wp2_with fail
  try rw [← hW5]
  try rw [← hgm]
  clear hW5 hgm hpn
  go_loopw [8] (fun v8 wr => ∃ i : Nat, v8 = .int .i64 (i : Int) ∧ Aside0 (i ≤ n0) ∧ Aside0 (Tbl wr bm g bm ((l0.take i).foldl noteT [])) ∧ Aside0 (On (· = bm) W5 wr)) (fun v8 _ => n0 - (intOf v8).toNat)
  case atStart => exact ⟨0, rfl, ⟨Nat.zero_le _⟩, HT5, ⟨On.refl _ _⟩⟩
  case round =>
    clear HT5
    obtain ⟨i, rfl, HI, HT, HO⟩ := hrel
    by_cases hlt : (i : Int) < (n0 : Int)
    · have r1 := eq_true hlt
      have r2 : (i < n0) = True := eq_true (by omega)
      have r0 : ((0 : Int) ≤ (i : Int)) = True := eq_true (by omega)
      have HIL : Aside0 (i < n0) := ⟨by omega⟩
      have hiT : i < l0.length := by have := HN0.out; omega
      have HBR : Aside0 (Below w.heap.size w wr) := ⟨HB5.out.trans (HO.out.to_below HB5.out.size (fun k hk => by rw [hk]; exact HGM.out.2.2.2.1))⟩
      have hC := Kd.C_below HC0.out.1 HBR.out
      obtain ⟨ad, A5, c5, e, x0, x1, x2, x3, x4, x5, x6, x7, hl5, hi5⟩ := at_T33 hC (i : Int) (by omega) hlt
      cases e
      rw [rd_at33 hiT] at x0 x1 x2 x3 x4 x5 x6 x7 hl5 hi5
      have HTK : Aside0 ((l0.take (i + 1)).foldl noteT [] = noteT ((l0.take i).foldl noteT []) l0[i]) := ⟨take_fold hiT []⟩
      have hxm : l0[i] ∈ l0 := List.getElem_mem hiT
      obtain ⟨x, hx⟩ : ∃ x, x = l0[i] := ⟨_, rfl⟩
      rw [← hx] at HTK hxm x0 x1 x2 x3 x4 x5 x6 x7 hl5 hi5
      simp only [Int.toNat_natCast] at x0 x1 x2 x3 x4 x5 x6 x7
      have HX := Aside0.mk (And.intro hi5 hl5)
      have HXW := Aside0.mk (And.intro (HWF.out.1 x hxm) (HS0.out.2 x hxm))
      have HIW := Aside0.mk (show wrap64 ((i : Int) + 1) = ((i + 1 : Nat) : Int) by have := HS0.out.1; have := HN0.out; unfold wrap64; omega)
      have HLE : Aside0 (((l0.take i).foldl noteT []).length ≤ 1000000) := ⟨by have h1 := fold_len (l0.take i) []; have := HS0.out.1; rw [List.length_take, List.length_nil] at h1; omega⟩
      clear hlt hiT hC hxm hx hi5 hl5
      go_wp2_with fail
      refine (note8 bm g bm _ x A5 c5 wr HT.out HX.out.1 HX.out.2 HXW.out.2 HXW.out.1 HLE.out).mono ?_
      rintro e w2 ⟨rfl, hT2, ho2⟩
      have HT2 : Aside0 (Tbl w2 bm g bm ((l0.take (i + 1)).foldl noteT [])) := ⟨by rw [HTK.out]; exact hT2⟩
      have HO2 : Aside0 (On (· = bm) W5 w2) := ⟨HO.out.trans ho2⟩
      clear hT2 ho2 HT HO x0 x1 x2 x3 x4 x5 x6 x7
      go_wp2_with fail
      go_roundw
      case rel => exact ⟨i + 1, by rw [HIW.out], ⟨HIL.out⟩, HT2, HO2⟩
      case measure => rw [HIW.out]; simp only [intOf]; have := HIL.out; omega
    · have r1 := eq_false hlt
      have r2 : (i < n0) = False := eq_false (by omega)
      have HBR : Aside0 (Below w.heap.size w wr) := ⟨HB5.out.trans (HO.out.to_below HB5.out.size (fun k hk => by rw [hk]; exact HGM.out.2.2.2.1))⟩
      have HG : Aside0 (wr.heap[g]? = some (.cells #[.map (some bm)] 56 (0, 0))) := ⟨by obtain ⟨ms, m1, _⟩ := HT.out; exact m1⟩
      have HM : Aside0 (Mtv wr w gm gm (.slice none 0 0) []) := ⟨HO.out.blk HGM.out.1 (by have := HGM.out.2.2.1; omega), Nat.le_refl _, Kd.R_nil _ _ _ _ _⟩
      have HR : Aside0 (RowL wr w gm gm (.slice none 0 0) (.slice none 0 0) []) := ⟨Kd.R_nil _ _ _ _ _, fun k hk => by cases hk⟩
      have HGG : Aside0 (g < gm ∧ w.heap.size ≤ gm ∧ w.heap.size ≤ g) := ⟨by have := HGM.out; omega⟩
      have HGS : Aside0 (gm < wr.heap.size) := ⟨blk_lt HM.out.1⟩
      clear hlt HI HT HO HGM HB5 HC0 HN0 HS0
      rename World => w6
      obtain ⟨i8, rfl⟩ : ∃ i8, i8 = i := ⟨_, rfl⟩
      go_wp2_with fail
      go_loopw [7, 9] (fun v7 v9 wr => ∃ (i : Nat) (v : Value), v9 = .int .i64 (i : Int) ∧ Aside0 (i ≤ n1) ∧ Aside0 (Mtv wr w gm gm v ((l1.take i).foldl noteT [])) ∧ Aside0 (RowL wr w gm gm v7 v (l1.take i)) ∧ Aside0 (Below gm w6 wr)) (fun _ v9 _ => n1 - (intOf v9).toNat)
      case atStart => exact ⟨0, .slice none 0 0, rfl, ⟨Nat.zero_le _⟩, HM, HR, ⟨Below.refl _ _⟩⟩
      case round =>
        clear HM HR
        obtain ⟨i, v, rfl, HI, HM, HR, HB⟩ := hrel
        by_cases hlt : (i : Int) < (n1 : Int)
        · have r1 := eq_true hlt
          have r2 : (i < n1) = True := eq_true (by omega)
          have r0 : ((0 : Int) ≤ (i : Int)) = True := eq_true (by omega)
          have HIL : Aside0 (i < n1) := ⟨by omega⟩
          have hiT : i < l1.length := by have := HN1.out; omega
          have HBW : Aside0 (∀ wx, Below gm w6 wx → Below w.heap.size w wx) := ⟨fun wx hb => HBR.out.trans ⟨hb.os, hb.tape, hb.output, hb.size, fun k hk => hb.block k (by have := HGG.out.2.1; omega)⟩⟩
          obtain ⟨ad, A5, c5, e, x0, x1, x2, x3, x4, x5, x6, x7, hl5, hi5⟩ := at_T33 HC1.out.1 (i : Int) (by omega) hlt
          cases e
          rw [rd_at33 hiT] at x0 x1 x2 x3 x4 x5 x6 x7 hl5 hi5
          have HTK : Aside0 ((l1.take (i + 1)).foldl noteT [] = noteT ((l1.take i).foldl noteT []) l1[i] ∧ l1.take (i + 1) = l1.take i ++ [l1[i]]) := ⟨take_fold hiT [], by rw [List.take_add_one, List.getElem?_eq_getElem hiT]; rfl⟩
          have hxm : l1[i] ∈ l1 := List.getElem_mem hiT
          obtain ⟨x, hx⟩ : ∃ x, x = l1[i] := ⟨_, rfl⟩
          rw [← hx] at HTK hxm x0 x1 x2 x3 x4 x5 x6 x7 hl5 hi5
          simp only [Int.toNat_natCast] at x0 x1 x2 x3 x4 x5 x6 x7
          have HX := Aside0.mk (And.intro hi5 hl5)
          have HXW := Aside0.mk (HWF.out.2 x hxm)
          have HK := Aside0.mk (k47_mk w (mkM x) hl5 hi5)
          have HIW := Aside0.mk (show wrap64 ((i : Int) + 1) = ((i + 1 : Nat) : Int) by have := HS1.out.1; have := HN1.out; unfold wrap64; omega)
          have HLE : Aside0 (((l1.take i).foldl noteT []).length ≤ 1000000 ∧ RisT ((l1.take i).foldl noteT []) ∧ (∀ y ∈ (l1.take i).foldl noteT [], 0 ≤ y.f1) ∧ (l1.take i).length ≤ 101) := ⟨by have h1 := fold_len (l1.take i) []; have := HS1.out.1; rw [List.length_take, List.length_nil] at h1; omega, fold_ris _ List.Pairwise.nil, fold_nonneg _ (fun y hy => by cases hy), by have := HS1.out.1; rw [List.length_take]; omega⟩
          have HX0 := Aside0.mk (And.intro x0 (And.intro x1 (And.intro x2 (And.intro x3 (And.intro x4 (And.intro x5 (And.intro x6 x7)))))))
          clear hlt hiT hxm hx hi5 hl5 x0 x1 x2 x3 x4 x5 x6 x7
          obtain ⟨x0, x1, x2, x3, x4, x5, x6, x7⟩ : wr.cell? (ad.add (i * 8)) = some (.int .i64 x.f0) ∧ wr.cell? ⟨(ad.add (i * 8)).block, (ad.add (i * 8)).off + 1, none⟩ = some (.int .i64 x.f1) ∧ wr.cell? ⟨(ad.add (i * 8)).block, (ad.add (i * 8)).off + 2, none⟩ = some (.int .i64 x.f2) ∧ wr.cell? ⟨(ad.add (i * 8)).block, (ad.add (i * 8)).off + 3, none⟩ = some (.bool x.f3) ∧ wr.cell? ⟨(ad.add (i * 8)).block, (ad.add (i * 8)).off + 4, none⟩ = some (.string x.f4) ∧ wr.cell? ⟨(ad.add (i * 8)).block, (ad.add (i * 8)).off + 5, none⟩ = some (.slice A5 x.f5.length c5) ∧ wr.cell? ⟨(ad.add (i * 8)).block, (ad.add (i * 8)).off + 6, none⟩ = some (.string x.f6) ∧ wr.cell? ⟨(ad.add (i * 8)).block, (ad.add (i * 8)).off + 7, none⟩ = some (.bool x.f7) := ⟨cell_keep (HBW.out wr HB.out) HX0.out.1, cell_keep (HBW.out wr HB.out) HX0.out.2.1, cell_keep (HBW.out wr HB.out) HX0.out.2.2.1, cell_keep (HBW.out wr HB.out) HX0.out.2.2.2.1, cell_keep (HBW.out wr HB.out) HX0.out.2.2.2.2.1, cell_keep (HBW.out wr HB.out) HX0.out.2.2.2.2.2.1, cell_keep (HBW.out wr HB.out) HX0.out.2.2.2.2.2.2.1, cell_keep (HBW.out wr HB.out) HX0.out.2.2.2.2.2.2.2⟩
          go_wp2_with fail
          refine (note12 w gm gm v _ x A5 c5 wr HM.out HX.out.1 HX.out.2 HLE.out.2.1 HLE.out.1 HLE.out.2.2.1).mono ?_
          rintro e w2 ⟨v', rfl, hM2, hown, hon⟩
          have HM2 : Aside0 (Mtv w2 w gm gm v' ((l1.take (i + 1)).foldl noteT [])) := ⟨by rw [HTK.out.1]; exact hM2⟩
          have HR2 : Aside0 (RowL w2 w gm gm u7 v' (l1.take i)) := ⟨HR.out.noted hon hown⟩
          have HB2 : Aside0 (Below gm w6 w2) := ⟨HB.out.trans (hon.to_below (by have := HGS.out; have := HB.out.size; omega) (fun k hk => by rcases hk with hk | hk; omega; exact (mtv_lt HM.out hk).1))⟩
          clear hM2 hown hon HM HR HB x0 x1 x2 x3 x4 x5 x6 x7
          generalize decide (seqT ((l1.take i).foldl noteT []) x.f0 < x.f1) = qd
          go_wp2_with fail
          refine wp_reg 14 rfl rfl (by kernel_rfl) (fun z => .slice A0 n0 c0 :: .slice (some ad) n1 c1 :: undef :: undef :: .bool false :: .pointer (some ⟨g, 0, none⟩) :: .pointer (some ⟨gm, 0, none⟩) :: z 7 :: .int .i64 (i8 : Int) :: .int .i64 (i : Int) :: .bool true :: .bool false :: .slice A0 n0 c0 :: .bool true :: .bool false :: .bool false :: .slice (some ad) n1 c1 :: .bool true :: .bool false :: .bool false :: .pointer (some ⟨g, 0, none⟩) :: .agg #[.slice none 0 0] :: .pointer (some ⟨gm, 0, none⟩) :: .pointer (some ⟨g, 0, none⟩) :: .bool false :: .int .i64 (i8 : Int) :: .slice A0 n0 c0 :: .int .i64 (n0 : Int) :: .bool false :: u29 :: u30 :: u31 :: u32 :: u33 :: u34 :: u35 :: u36 :: .int .i64 (i : Int) :: .slice (some ad) n1 c1 :: .int .i64 (n1 : Int) :: .bool true :: u41 :: u42 :: .pointer (some ⟨gm, 0, none⟩) :: .slice (some ad) n1 c1 :: .int .i64 (i : Int) :: .pointer (some (ad.add (i * 8))) :: .agg #[.int .i64 x.f0, .int .i64 x.f1, .int .i64 x.f2, .bool x.f3, .string x.f4, .slice A5 x.f5.length c5, .string x.f6, .bool x.f7] :: .bool qd :: z 49 :: z 50 :: z 51 :: z 52 :: z 53 :: z 54 :: z 55 :: z 56 :: z 57 :: z 58 :: z 59 :: z 60 :: z 61 :: undef :: undef :: undef :: undef :: undef :: undef :: undef :: undef :: undef :: undef :: undef :: undef :: []) (fun (gg : Nat × Value × Value) => [(0, 49, u7), (1, 50, .slice (some ad) n1 c1), (2, 51, .int .i64 (i : Int)), (3, 52, .pointer (some (ad.add (i * 8)))), (4, 53, .pointer (some ⟨(ad.add (i * 8)).block, (ad.add (i * 8)).off + 1, none⟩)), (5, 54, .int .i64 (x.f1 : Int)), (6, 55, .slice (some ad) n1 c1), (7, 56, .int .i64 (i : Int)), (8, 57, .pointer (some (ad.add (i * 8)))), (9, 58, .agg #[.int .i64 x.f0, .int .i64 x.f1, .int .i64 x.f2, .bool x.f3, .string x.f4, .slice A5 x.f5.length c5, .string x.f6, .bool x.f7]), (10, 59, .agg #[.int .i64 x.f1, .int .i64 x.f0, .int .i64 x.f1, .int .i64 x.f2, .bool x.f3, .string x.f4, .slice A5 x.f5.length c5, .string x.f6, .bool x.f7]), (11, 60, .slice (some ⟨gg.1, 0, none⟩) 1 1), (12, 61, gg.2.1), (13, 7, gg.2.2)]) (fun LL gg z wx => Aside0 (Below gm w6 wx) ∧ Aside0 (LL 13 = false → z 7 = u7) ∧ Aside0 ((LL 13 = true → LL 0 = true ∧ LL 12 = true) ∧ (LL 11 = true → LL 10 = true) ∧ (LL 12 = true → LL 11 = true)) ∧ Aside0 (LL 11 = false → RowL wx w gm gm u7 v' (l1.take i) ∧ Mtv wx w gm gm v' ((l1.take (i + 1)).foldl noteT [])) ∧ Aside0 (LL 13 = true → gg.2.2 = gg.2.1) ∧ Aside0 (LL 11 = true → LL 12 = false → ∃ W0 : World, wx = W0.alloc (.cells #[.int .i64 x.f1, .int .i64 x.f0, .int .i64 x.f1, .int .i64 x.f2, .bool x.f3, .string x.f4, .slice A5 x.f5.length c5, .string x.f6, .bool x.f7] 47) ∧ gg.1 = W0.heap.size ∧ Below gm w6 W0 ∧ RowL W0 w gm gm u7 v' (l1.take i) ∧ Mtv W0 w gm gm v' ((l1.take (i + 1)).foldl noteT [])) ∧ Aside0 (LL 12 = true → RowL wx w gm gm gg.2.1 v' (l1.take i ++ [x]) ∧ Mtv wx w gm gm v' ((l1.take (i + 1)).foldl noteT []))) (0, undef, undef) (zz [(7, u7), (49, u49), (50, u50), (51, u51), (52, u52), (53, u53), (54, u54), (55, u55), (56, u56), (57, u57), (58, u58), (59, u59), (60, u60), (61, u61)]) rfl rfl ⟨⟨HB2.out.trans ⟨rfl, rfl, rfl, Nat.le_refl _, fun _ _ => rfl⟩⟩, ⟨fun _ => rfl⟩, ⟨⟨fun h => absurd h (by decide), fun h => absurd h (by decide), fun h => absurd h (by decide)⟩⟩, ⟨fun _ => ⟨HR2.out.below (below_drew (Below.refl _ _)), HM2.out.below (below_drew (Below.refl _ _))⟩⟩, ⟨fun h => absurd h (by decide)⟩, ⟨fun h => absurd h (by decide)⟩, ⟨fun h => absurd h (by decide)⟩⟩ ?_ ?_
          · refine Steps.cons ?_ (Steps.cons ?_ (Steps.cons ?_ (Steps.cons ?_ (Steps.cons ?_ (Steps.cons ?_ (Steps.cons ?_ (Steps.cons ?_ (Steps.cons ?_ (Steps.cons ?_ (Steps.cons ?_ (Steps.cons ?_ (Steps.cons ?_ (Steps.cons ?_ (Steps.nil))))))))))))))
            · refine CD 0 (fun _ => rfl) (fun _ => rfl) fun LL gg z wx hl hLk hd hI K hK => ?_
              obtain ⟨⟨hb, h7, hz, hq, hF, ha, hc⟩⟩ := hl
              have h7_ := h7.out (flag_off (fun h => (hz.out.1 h).1) hLk)
              dsimp only [FA]
              refine wantd (by rfl) ?_
              go_simp
              exact hK gg _ _ (sm1 h7_) rfl rfl ⟨hb, h7, ⟨⟨fun h => ⟨rfl, (hz.out.1 h).2⟩, hz.out.2⟩⟩, hq, hF, ha, hc⟩
            · exact V0 1
            · exact V0 2
            · exact V2 3 1 2
            · exact V1 4 3
            · refine V1 5 4 (h := fun LL gg z wx hl hLk e4 K hK => ?_)
              obtain ⟨⟨hb, h7, hz, hq, hF, ha, hc⟩⟩ := hl
              have y1_ := cell_keep (HBW.out wx hb.out) HX0.out.2.1
              dsimp only [FA]
              refine wantd (by rfl) ?_
              go_simp
              exact hK.out
            · exact V0 6
            · exact V0 7
            · exact V2 8 6 7
            · refine V1 9 8 (h := fun LL gg z wx hl hLk e8 K hK => ?_)
              obtain ⟨⟨hb, h7, hz, hq, hF, ha, hc⟩⟩ := hl
              have y0_ := cell_keep (HBW.out wx hb.out) HX0.out.1
              have y1_ := cell_keep (HBW.out wx hb.out) HX0.out.2.1
              have y2_ := cell_keep (HBW.out wx hb.out) HX0.out.2.2.1
              have y3_ := cell_keep (HBW.out wx hb.out) HX0.out.2.2.2.1
              have y4_ := cell_keep (HBW.out wx hb.out) HX0.out.2.2.2.2.1
              have y5_ := cell_keep (HBW.out wx hb.out) HX0.out.2.2.2.2.2.1
              have y6_ := cell_keep (HBW.out wx hb.out) HX0.out.2.2.2.2.2.2.1
              have y7_ := cell_keep (HBW.out wx hb.out) HX0.out.2.2.2.2.2.2.2
              dsimp only [FA]
              refine wantd (by rfl) ?_
              go_simp
              exact hK.out
            · exact V2 10 5 9 (hT := fun _ => rfl) (hR := fun LL gg z wx hLk hd ⟨hb, h7, hz, hq, hF, ha, hc⟩ => ⟨hb, h7, ⟨⟨hz.out.1, fun _ => rfl, hz.out.2.2⟩⟩, hq, hF, ⟨fun h => absurd ((flag_off (fun h => hz.out.2.1 h) hLk).symm.trans h) (by decide)⟩, hc⟩)
            · refine CD 11 (fun _ => rfl) (fun _ => rfl) fun LL gg z wx hl hLk hd hI K hK => ?_
              obtain ⟨⟨hb, h7, hz, hq, hF, ha, hc⟩⟩ := hl
              have e10 := hI.at 10 rfl (hd 10 rfl)
              have hq_ := hq.out hLk
              have hl12 := flag_off (fun h => hz.out.2.2 h) hLk
              dsimp only [FA]
              refine wantd (by rfl) ?_
              go_simp
              exact hK (wx.heap.size, gg.2.1, gg.2.2) _ _ (sm1 e10) rfl rfl ⟨⟨below_then hb.out (by have := HGS.out; have := hb.out.size; omega) (below_alloc (Below.refl _ _) _)⟩, h7, ⟨⟨hz.out.1, fun _ => hd 10 rfl, fun _ => rfl⟩⟩, ⟨fun h => absurd (show true = false from h) (by decide)⟩, hF, ⟨fun _ _ => ⟨wx, rfl, rfl, hb.out, hq_.1, hq_.2⟩⟩, ⟨fun h => absurd (hl12.symm.trans h) (by decide)⟩⟩
            · refine CD 12 (fun _ => rfl) (fun _ => rfl) fun LL gg z wx hl hLk hd hI K hK => ?_
              obtain ⟨⟨hb, h7, hz, hq, hF, ha, hc⟩⟩ := hl
              have e0 := hI.at 0 rfl (hd 0 rfl)
              have e11 := hI.at 11 rfl (hd 11 rfl)
              obtain ⟨W0, rfl, hgb, a1, a2, a3⟩ := ha.out (hd 11 rfl) hLk
              refine Kd.R_append_step (kW w) (w0 := w6) gm (by rfl) (.tmp 49) (.tmp 60) 44 47 (.agg #[(.int .i64 0), (.int .i64 0), (.int .i64 0), (.int .i64 0), (.bool false), (.string ⟨#[]⟩), (.slice none 0 0), (.string ⟨#[]⟩), (.bool false)]) 104 rfl Try.underlying44 info47 rfl (show 0 < 9 by decide) (by omega) u7 (l1.take i) x _ (fun _ => True) (fun _ => False) e0 (by rw [hgb] at e11; exact e11) HK.out (fun _ hk => hk.elim) (fun _ _ => trivial) (Kd.R_mono a2.1 (fun _ _ => trivial)) a1 (by have := HGS.out; have := a1.size; omega) (by have := HLE.out.2.2.2; omega) ?_
              intro v9 w9 ho hb1 hg hat
              exact hK (gg.1, v9, gg.2.2) _ _ rfl rfl rfl ⟨⟨hb1⟩, h7, ⟨⟨fun h => ⟨(hz.out.1 h).1, rfl⟩, hz.out.2.1, fun _ => hd 11 rfl⟩⟩, ⟨fun h => absurd ((hd 11 rfl).symm.trans h) (by decide)⟩, ⟨fun h => absurd ((flag_off (fun h => (hz.out.1 h).2) hLk).symm.trans h) (by decide)⟩, ⟨fun _ h => absurd (show true = false from h) (by decide)⟩, ⟨fun _ => a2.app a3 ho hg hat⟩⟩
            · refine CD 13 (fun _ => rfl) (fun _ => rfl) fun LL gg z wx hl hLk hd hI K hK => ?_
              obtain ⟨⟨hb, h7, hz, hq, hF, ha, hc⟩⟩ := hl
              have e12 := hI.at 12 rfl (hd 12 rfl)
              dsimp only [FA]
              refine wantd (by rfl) ?_
              go_simp
              exact hK (gg.1, gg.2.1, gg.2.1) _ _ (sm1 e12) rfl rfl ⟨hb, ⟨fun h => absurd (show true = false from h) (by decide)⟩, ⟨⟨fun _ => ⟨hd 0 rfl, hd 12 rfl⟩, hz.out.2⟩⟩, hq, ⟨fun _ => rfl⟩, ha, hc⟩
          · intro LL gg z wc hall hI hl
            obtain ⟨gb, q1, q2⟩ := gg
            obtain ⟨⟨hb, h7, hz, hq, hF, ha, hc⟩⟩ := hl
            have e13 := hI.at 13 rfl (hall 13 (by decide))
            dsimp only [FA] at hb h7 hz hq hF ha hc e13 ⊢
            rw [e13, hF.out (hall 13 (by decide))]
            have HBC := hb
            have HCC := Aside0.mk (hc.out (hall 12 (by decide)))
            clear hI hb h7 hz hq hF ha hc e13 hall
            go_wp2_with fail
            go_roundw
            case rel => exact ⟨i + 1, v', by rw [HIW.out], ⟨HIL.out⟩, ⟨HCC.out.2⟩, ⟨by rw [HTK.out.2]; exact HCC.out.1⟩, HBC⟩
            case measure => rw [HIW.out]; simp only [intOf]; have := HIL.out; omega
        · have r1 := eq_false hlt
          have r2 : (i < n1) = False := eq_false (by omega)
          have hi : i = n1 := by have := HI.out; omega
          have hM := HM.out
          have hR := HR.out
          rw [List.take_of_length_le (by have := HN1.out; omega)] at hM hR
          have HBE : Aside0 (Below w.heap.size w wr) := ⟨HBR.out.trans ⟨HB.out.os, HB.out.tape, HB.out.output, HB.out.size, fun k hk => HB.out.block k (by have := HGG.out.2.1; omega)⟩⟩
          have HLT : Aside0 ((∀ x ∈ l1.foldl noteT [], (Lit.int .i64 x.f0).wf = true) ∧ (l1.foldl noteT []).length ≤ 1000000) := ⟨⟨fun x hx => (by rcases fold_mem l1 hx with h | h; exact HWF.out.2 x h; cases h), by have h1 := fold_len l1 []; have := HS1.out.1; rw [List.length_nil] at h1; omega⟩⟩
          have HL1 : Aside0 ((∀ x ∈ l1, (Lit.int .i64 x.f0).wf = true ∧ x.f5.length ≤ 1000000) ∧ l1.length ≤ 1000000) := ⟨⟨fun x hx => ⟨HWF.out.2 x hx, HS1.out.2 x hx⟩, by have := HS1.out.1; omega⟩⟩
          have hV7 := kW_V (base' := wr.heap.size) hR.1 HBE.out
          have HRT : Aside0 (∀ k, some k = u7.ownBlock → gm ≤ k) := ⟨fun k hk => (hR.lt hk).1⟩
          have HG7 : Aside0 (wr.heap[g]? = some (.cells #[.map (some bm)] 56 (0, 0)) ∧ gm < wr.heap.size) := ⟨(HB.out.block g HGG.out.1).trans HG.out, by have := HGS.out; have := HB.out.size; omega⟩
          have hmb := HMB.out
          obtain ⟨T, hT⟩ : ∃ T, T = l1.foldl noteT [] := ⟨_, rfl⟩
          rw [← hT] at hM HLT hmb
          obtain ⟨M1, hM1⟩ : ∃ M1, M1 = l1.map mkM := ⟨_, rfl⟩
          rw [← hM1] at hV7 hmb
          have HM7 := Aside0.mk hM
          have HTD := Aside0.mk hT
          obtain ⟨A7, c7, e7⟩ := Kd.V_slice hV7
          subst e7
          have FMADE := Aside0.mk (gazetteerlaw12_Made.calls kf _ A7 c7 M1 (l1.map mkL) wr hV7 hmb.1)
          have HMB2 := Aside0.mk hmb.2
          clear hlt hi hM hR hV7 hmb hT hM1 HMB HM HR HB HG HGS HC1 HS1
          go_wp2_with fail
          refine FMADE.out.mono ?_
          rintro e w8 ⟨v8, rfl, hN, hb8⟩
          have hV8 := Kd.N_V (base' := 0) hN
          obtain ⟨A8, c8, rfl⟩ := Kd.V_slice hV8
          obtain ⟨n8, hn8⟩ : ∃ n, n = (l1.map mkL).length := ⟨_, rfl⟩
          rw [← hn8] at hV8 ⊢
          have FSET := Aside0.mk (set13 g (.map (some bm)) l1 A8 n8 c8 _ w8 (blk_below HG7.out.1 hb8) hV8 (fun k hk => by
            have h1 := HGG.out; have h2 := HG7.out.2
            rcases hk with (hk | hk) | hk
            · omega
            · have := HRT.out k hk; omega
            · omega) HL1.out.1 HL1.out.2)
          rw [← HTD.out] at FSET
          have HM8 : Aside0 (Mtv w8 w gm gm v T) := ⟨HM7.out.below hb8⟩
          have HB8 := Aside0.mk (below_step HBE.out hb8)
          clear hN hV8 hn8 hb8 FMADE HM7 HBE HL1 HTD HRT HG7
          go_wp2_with fail
          refine FSET.out.mono ?_
          rintro e w9 ⟨rfl, hT9, ho9⟩
          have HM9 : Aside0 (Mtv w9 w gm gm v T) := ⟨mtv_step HM8.out (fun k hk hlt => ho9.block k hlt (fun e => by have h1 := HGG.out.1; rcases hk with hk | hk; omega; have := (mtv_lt HM8.out hk).1; omega))⟩
          have HT9 := Aside0.mk hT9
          have HB9 : Aside0 (Below w.heap.size w w9) := ⟨HB8.out.trans (ho9.to_below HB8.out.size (fun k hk => by have := HGG.out; omega))⟩
          obtain ⟨L, hL⟩ : ∃ L, L = T.map mkL := ⟨_, rfl⟩
          obtain ⟨M, hM⟩ : ∃ M, M = T.map mkM := ⟨_, rfl⟩
          have FALL : Aside0 (∀ wx, Below w9.heap.size w9 wx → Calls Try.prog 10 #[.pointer (some ⟨g, 0, none⟩)] wx fun e w' => ∃ v, e = .returned v ∧ Kd.V k39 39 w' 0 (fun _ => True) v L ∧ Below wx.heap.size wx w') := ⟨fun wx hb => (all10 0 g _ T wx (HT9.out.below hb) HLT.out.2 HLT.out.1).mono (fun e w' ⟨v, e1, e2, e3⟩ => ⟨v, e1, by rw [hL]; exact Kd.R_V e2, e3⟩)⟩
          have hvm := fun wx (hb : Below w9.heap.size w9 wx) => kW_V (base' := 0) (HM9.out.below hb).2.2 (below_step HB9.out hb)
          have hmb := HMB2.out
          rw [← hL, ← hM] at hmb
          rw [← hM] at hvm
          obtain ⟨Av, cv, ev⟩ := Kd.V_slice (hvm w9 (Below.refl _ _))
          rw [ev] at hvm HM9
          have HVM : Aside0 (∀ wx, Below w9.heap.size w9 wx → M.length ≤ cv ∧ k47.C wx Av M.length M) := ⟨fun wx hb => (Kd.V_reads' (hvm wx hb)).2⟩
          have HMB3 := Aside0.mk hmb
          clear hT9 ho9 FSET HM8 HB8 hL hM hvm hmb HMB2 HT9 HLT
          go_wp2_with fail
          refine wp_reg 9 rfl rfl (by kernel_rfl) (fun z => .slice A0 n0 c0 :: .slice A1 n1 c1 :: undef :: undef :: z 4 :: .pointer (some ⟨g, 0, none⟩) :: .pointer (some ⟨gm, 0, none⟩) :: .slice A7 M1.length c7 :: .int .i64 (i8 : Int) :: .int .i64 (i : Int) :: .bool true :: .bool false :: .slice A0 n0 c0 :: .bool true :: .bool false :: .bool false :: .slice A1 n1 c1 :: .bool true :: .bool false :: .bool false :: .pointer (some ⟨g, 0, none⟩) :: .agg #[.slice none 0 0] :: .pointer (some ⟨gm, 0, none⟩) :: .pointer (some ⟨g, 0, none⟩) :: .bool false :: .int .i64 (i8 : Int) :: .slice A0 n0 c0 :: .int .i64 (n0 : Int) :: .bool false :: u29 :: u30 :: u31 :: u32 :: u33 :: u34 :: u35 :: u36 :: .int .i64 (i : Int) :: .slice A1 n1 c1 :: .int .i64 (n1 : Int) :: .bool false :: u41 :: u42 :: u43 :: u44 :: u45 :: u46 :: u47 :: u48 :: u49 :: u50 :: u51 :: u52 :: u53 :: u54 :: u55 :: u56 :: u57 :: u58 :: u59 :: u60 :: u61 :: .pointer (some ⟨g, 0, none⟩) :: .slice A7 M1.length c7 :: .slice A8 n8 c8 :: .tuple #[] :: z 66 :: z 67 :: z 68 :: z 69 :: z 70 :: z 71 :: z 72 :: z 73 :: []) (fun (gg : (Option Addr) × Nat × (Option Addr) × Nat) => [(0, 66, .pointer (some ⟨g, 0, none⟩)), (1, 67, .slice gg.1 L.length gg.2.1), (2, 68, .slice gg.2.2.1 M.length gg.2.2.2), (3, 69, .pointer (some ⟨gm, 0, none⟩)), (4, 70, .pointer (some ⟨gm, 0, none⟩)), (5, 71, .pointer (some ⟨gm, 0, none⟩)), (6, 72, .slice Av M.length cv), (7, 73, .bool true), (8, 4, .bool true)]) (fun LL gg z wx => Aside0 (Below w9.heap.size w9 wx) ∧ Aside0 (LL 1 = true → Kd.V k39 39 wx 0 (fun _ => True) (.slice gg.1 L.length gg.2.1) L) ∧ Aside0 (LL 2 = true → Kd.V k47 47 wx 0 (fun _ => True) (.slice gg.2.2.1 M.length gg.2.2.2) M)) (none, 0, none, 0) (zz [(4, .bool false), (66, undef), (67, undef), (68, undef), (69, undef), (70, undef), (71, undef), (72, undef), (73, undef)]) rfl rfl ⟨⟨below_drew (Below.refl _ _)⟩, ⟨fun h => absurd h (by decide)⟩, ⟨fun h => absurd h (by decide)⟩⟩ ?_ ?_
          · refine Steps.cons ?_ (Steps.cons ?_ (Steps.cons ?_ (Steps.cons ?_ (Steps.cons ?_ (Steps.cons ?_ (Steps.cons ?_ (Steps.cons ?_ (Steps.cons ?_ (Steps.nil)))))))))
            · exact V0 0
            · refine CD 1 (fun _ => rfl) (fun _ => rfl) fun LL gg z wx hl hLk hd hI K hK => ?_
              obtain ⟨⟨hb, hA, hB⟩⟩ := hl
              have e0 := hI.at 0 rfl (hd 0 rfl)
              dsimp only [FA]
              refine wantd (by rfl) ?_
              go_simp
              refine (FALL.out wx hb.out).mono ?_
              rintro e w' ⟨v5, rfl, hV, hb1⟩
              obtain ⟨A', c', rfl⟩ := Kd.V_slice hV
              exact hK (A', c', gg.2.2.1, gg.2.2.2) _ _ (sm1 e0) rfl rfl ⟨⟨below_step hb.out hb1⟩, ⟨fun _ => hV⟩, ⟨fun h => Kd.V_below (hB.out h) hb1⟩⟩
            · refine CD 2 (fun _ => rfl) (fun _ => rfl) fun LL gg z wx hl hLk hd hI K hK => ?_
              obtain ⟨⟨hb, hA, hB⟩⟩ := hl
              have e1 := hI.at 1 rfl (hd 1 rfl)
              dsimp only [FA]
              refine wantd (by rfl) ?_
              go_simp
              refine (gazetteerlaw12_Back.calls kf _ _ _ L M wx (hA.out (hd 1 rfl)) HMB3.out.1).mono ?_
              rintro e w' ⟨v5, rfl, hN, hb1⟩
              have hV := Kd.V_mono (Kd.N_V (base' := 0) hN) (ok' := fun _ => True) (fun _ _ => trivial)
              obtain ⟨A', c', rfl⟩ := Kd.V_slice hV
              exact hK (gg.1, gg.2.1, A', c') _ _ (sm1 e1) rfl rfl ⟨⟨below_step hb.out hb1⟩, ⟨fun h => Kd.V_below (hA.out h) hb1⟩, ⟨fun _ => hV⟩⟩
            · exact V0 3
            · exact V1 4 3
            · exact V1 5 4
            · refine V1 6 5 (h := fun LL gg z wx hl hLk e5 K hK => ?_)
              obtain ⟨⟨hb, hA, hB⟩⟩ := hl
              have q_ : wx.cell? ⟨gm, 0, none⟩ = some (.slice Av M.length cv) := (blk_cell (blk_below HM9.out.1 hb.out) 0).trans rfl
              dsimp only [FA]
              refine wantd (by rfl) ?_
              go_simp
              exact hK.out
            · refine CD 7 (fun _ => rfl) (fun _ => rfl) fun LL gg z wx hl hLk hd hI K hK => ?_
              obtain ⟨⟨hb, hA, hB⟩⟩ := hl
              have e2 := hI.at 2 rfl (hd 2 rfl)
              have e6 := hI.at 6 rfl (hd 6 rfl)
              dsimp only [FA]
              refine wantd (by rfl) ?_
              go_simp
              have hVB := Kd.V_reads' (hB.out (hd 2 rfl))
              refine (gazetteerlaw12_Same.calls kf _ _ M Av cv M true wx hVB.2.2 hVB.2.1 (HVM.out wx hb.out).2 (HVM.out wx hb.out).1 HMB3.out.2).mono ?_
              rintro e w' ⟨rfl, hb1⟩
              exact hK gg _ _ (sm2 e2 e6) rfl rfl ⟨⟨below_step hb.out hb1⟩, ⟨fun h => Kd.V_below (hA.out h) hb1⟩, ⟨fun h => Kd.V_below (hB.out h) hb1⟩⟩
            · exact V1 8 7
          · intro LL gg z wc hall hI hl
            obtain ⟨Aa, ca, Ab, cb⟩ := gg
            obtain ⟨⟨hb, hA, hB⟩⟩ := hl
            have e8 := hI.at 8 rfl (hall 8 (by decide))
            dsimp only [FA] at hb hA hB e8 ⊢
            rw [e8]
            have HBC := hb
            clear hI hb hA hB e8 hall
            go_wp2_with fail
            go_ret
            exact ⟨rfl, below_step HB9.out HBC.out⟩


end Go.Proofs.Ytdeepnpbibhfiaa.POnceSets

-- printed by a program of this session (wip/tools), a turned form of the kit's print
import Derived.Test.YtkolcgofhjbebaaPMediumPlaysx0
namespace Go.Proofs.Ytkolcgofhjbebaa.PMediumPlays
open Go.RowKit Go.Proofs.YtkolcgofhjbebaaW.PrintWords Go.Proofs.YtkolcgofhjbebaaW.PrintLast Go.Proofs.YtkolcgofhjbebaaW.PrintMore
attribute [local go_sem] max2_int min2_int max_two min_two max_three min_three max_four min_four max2_str min2_str str_geq str_leq str_gtr   -- for this text's walks alone
set_option linter.unusedVariables false
set_option linter.unusedSimpArgs false

/-! ### gazetteerlaw10_Small: function 25 -/
def gazetteerlaw10_Small.l0 : Nat → List (S48) → Int → Int → Option (Bool)
  | 0, _, _, _ => none
  | k + 1, x0, x3, x4 => if x4 < (x0.length : Int) then (if 0 ≤ x4 then (gazetteerlaw10_Small.l0 k x0 (wrap64 (x3 + (((rd_T48 x0 x4).f2).length : Int))) (wrap64 (x4 + 1))) else (none)) else (if (x0.length : Int) ≤ 200 then (some (decide (x3 ≤ 5000))) else (some false))
def gazetteerlaw10_Small.f (k : Nat) (l0 : List (S48)) : Option (Bool) := gazetteerlaw10_Small.l0 k l0 0 0
theorem gazetteerlaw10_Small.mono_l : ∀ k, (∀ y0 y1 y2, LeO (gazetteerlaw10_Small.l0 k y0 y1 y2) (gazetteerlaw10_Small.l0 (k + 1) y0 y1 y2))
  | 0 => fun _ _ _ r h => by simp [gazetteerlaw10_Small.l0] at h
  | k + 1 => by
    have ih0 := gazetteerlaw10_Small.mono_l k
    · intro y0 y1 y2
      unfold gazetteerlaw10_Small.l0
      repeat' first
      | (with_reducible exact ih0 _ _ _)
      | (with_reducible exact LeO.refl _)
      | (with_reducible exact LeO.none _)
      | (with_reducible refine LeO.ite ?_ ?_)
      | (with_reducible refine LeO.bind ?_ (fun _ => ?_))
      | exact ih0 _ _ _
      | exact LeO.none _
      | refine LeO.ite ?_ ?_
      | refine LeO.bind ?_ (fun _ => ?_)
theorem gazetteerlaw10_Small.mono : ∀ a0 k, LeO (gazetteerlaw10_Small.f k a0) (gazetteerlaw10_Small.f (k + 1) a0) := by
  intro a0 k
  have ih0 := gazetteerlaw10_Small.mono_l k
  unfold gazetteerlaw10_Small.f
  repeat' first
      | (with_reducible exact ih0 _ _ _)
      | (with_reducible exact LeO.refl _)
      | (with_reducible exact LeO.none _)
      | (with_reducible refine LeO.ite ?_ ?_)
      | (with_reducible refine LeO.bind ?_ (fun _ => ?_))
      | exact ih0 _ _ _
      | exact LeO.none _
      | refine LeO.ite ?_ ?_
      | refine LeO.bind ?_ (fun _ => ?_)
set_option maxHeartbeats 8000000 in
set_option maxRecDepth 100000 in
theorem gazetteerlaw10_Small.calls (k : Nat) (A0 : Option Addr) (c0 : Nat) (l0 : List (S48)) (r : Bool) (w : World) (hr0 : Kd.C k48 w A0 l0.length l0) (hc0 : l0.length ≤ c0) (h : gazetteerlaw10_Small.f k l0 = some r) :
    Calls Try.prog 25 #[.slice A0 l0.length c0] w fun e w' => e = .returned (.bool r) ∧ Drawn0 w w' := by
  have HR0 := Aside0.mk hr0
  have HC0 := Aside0.mk hc0
  clear hr0 hc0
  have H : (gazetteerlaw10_Small.l0 k l0 0 0) = some r := h
  clear h
  have H' := Aside0.mk H
  clear H
  go_enter Try.func25, Try.ntmps25
  go_wp2
  go_loopg [3, 4] k (fun kq v3 v4 w' => ∃ (x3_1 : Int) (x4_1 : Int), v3 = .int .i64 x3_1 ∧ v4 = .int .i64 x4_1 ∧ Aside0 (gazetteerlaw10_Small.l0 kq l0 x3_1 x4_1 = some r) ∧ Aside0 (kq ≤ k) ∧ Drawn0 w w')
  case atStart => exact ⟨(0), (0), (by first | rfl | (simp; done) | (simp [*]; done)), (by first | rfl | (simp; done) | (simp [*]; done)), H', ⟨Nat.le_refl _⟩, by repeat (first | exact Drawn0.refl _ | apply Drawn0.step)⟩
  case round =>
    clear H'
    obtain ⟨x3_1, x4_1, rfl, rfl, HA, HK1, ⟨m1, rfl⟩⟩ := hrel
    cases gk with
    | zero => exact absurd HA.out (by simp [gazetteerlaw10_Small.l0])
    | succ k1 =>
      have H := HA.out
      clear HA
      simp only [gazetteerlaw10_Small.l0] at H
      by_cases c2 : x4_1 < (l0.length : Int)
      · rw [if_pos c2] at H
        have c2b0 : decide (x4_1 < (l0.length : Int)) = true := decide_eq_true c2
        clear c2
        by_cases c3 : 0 ≤ x4_1
        · rw [if_pos c3] at H
          have c3b0 : decide (0 ≤ x4_1) = true := decide_eq_true c3
          clear c3
          have H' := Aside0.mk H
          clear H
          have p101 : 0 ≤ (x4_1 : Int) := of_decide_eq_true (by first | (with_reducible assumption) | assumption)
          have q101 : x4_1 < (l0.length : Int) := of_decide_eq_true (by first | (with_reducible assumption) | assumption)
          obtain ⟨ad101, A101_2, c101_2, e101, hx101_0, hx101_1, hx101_2, hl101_2, hi101_2⟩ := at_T48 HR0.out x4_1 p101 q101
          cases e101
          have HR101_2 := Aside0.mk hi101_2
          have HC101_2 := Aside0.mk hl101_2
          clear hi101_2 hl101_2
          replace p101 := eq_true p101
          replace q101 := eq_true q101
          go_wp2
          go_roundg k1
          case measure => have := HK1.out; omega
          case rel => exact ⟨(wrap64 (x3_1 + (((rd_T48 l0 x4_1).f2).length : Int))), (wrap64 (x4_1 + 1)), (by first | rfl | (simp; done) | (simp [*]; done)), (by first | rfl | (simp; done) | (simp [*]; done)), H', ⟨by have := HK1.out; omega⟩, by repeat (first | exact Drawn0.refl _ | apply Drawn0.step)⟩
        · rw [if_neg c3] at H
          exact absurd H (by simp)
      · rw [if_neg c2] at H
        have c2b0 : decide (x4_1 < (l0.length : Int)) = false := decide_eq_false c2
        clear c2
        by_cases c4 : (l0.length : Int) ≤ 200
        · rw [if_pos c4] at H
          have c4b0 : decide ((l0.length : Int) ≤ 200) = true := decide_eq_true c4
          have c4b1 : decide (l0.length ≤ 200) = true := decide_eq_true (by omega)
          clear c4
          obtain rfl := Option.some.inj H
          go_wp2
          go_ret
          exact ⟨by first | rfl | (simp; done) | (simp [*]; done), by repeat (first | exact Drawn0.refl _ | apply Drawn0.step)⟩
        · rw [if_neg c4] at H
          have c4b0 : decide ((l0.length : Int) ≤ 200) = false := decide_eq_false c4
          have c4b1 : decide (l0.length ≤ 200) = false := decide_eq_false (by omega)
          clear c4
          obtain rfl := Option.some.inj H
          go_wp2
          go_ret
          exact ⟨by first | rfl | (simp; done) | (simp [*]; done), by repeat (first | exact Drawn0.refl _ | apply Drawn0.step)⟩

/-! ### gazetteerlaw10_MediumPlays: function 6 -/
def gazetteerlaw10_MediumPlays.f (l0 : List S48) (l1 : List S48) : Option Bool := if (l0.length ≤ 140737488351232 ∧ (l0.all fun d => decide (d.f2.length ≤ 140737488351232)) = true) ∧ (l1.length ≤ 140737488351232 ∧ (l1.all fun d => decide (d.f2.length ≤ 140737488351232)) = true) then some true else none
open Go.Proofs.YtkolcgofhjbebaaW.PrintReg Go.Proofs.YtkolcgofhjbebaaW.PrintMed
def lens48 : List S48 → Nat
  | [] => 0
  | d :: l => d.f2.length + lens48 l
theorem lens_drop (l : List S48) (i : Nat) (h : i < l.length) : lens48 (l.drop i) = (rd_T48 l (i : Int)).f2.length + lens48 (l.drop (i + 1)) := by
  rw [List.drop_eq_getElem_cons h]
  show (l[i]).f2.length + _ = _
  have : rd_T48 l (i : Int) = l[i] := by unfold rd_T48; rw [Int.toNat_natCast, List.getD_eq_getElem?_getD, List.getElem?_eq_getElem h]; rfl
  rw [this]
theorem lens_le (l : List S48) (hb : (l.all fun d => decide (d.f2.length ≤ 140737488351232)) = true) : lens48 l ≤ l.length * 140737488351232 := by
  induction l with
  | nil => simp [lens48]
  | cons d l ih =>
    rw [List.all_cons, Bool.and_eq_true] at hb
    have := ih hb.2
    have h1 := of_decide_eq_true hb.1
    simp only [lens48, List.length_cons]
    omega
theorem small_go (l : List S48) (hL : l.length ≤ 140737488351232) (hs : l.length ≤ 200 → lens48 l ≤ 200 * 140737488351232) : ∀ (m i k : Nat) (x : Int), i + m = l.length → m < k → (l.length ≤ 200 → 0 ≤ x ∧ x + (lens48 (l.drop i) : Nat) = (lens48 l : Nat)) →
    gazetteerlaw10_Small.l0 k l x (i : Int) = some (decide (l.length ≤ 200 ∧ lens48 l ≤ 5000)) := by
  intro m
  induction m with
  | zero =>
    intro i k x hi hk hx
    obtain ⟨k, rfl⟩ : ∃ j, k = j + 1 := ⟨k - 1, by omega⟩
    unfold gazetteerlaw10_Small.l0
    rw [if_neg (by omega : ¬ ((i : Int) < (l.length : Int)))]
    by_cases h2 : l.length ≤ 200
    · obtain ⟨h3, h4⟩ := hx h2
      rw [show l.drop i = [] from List.drop_eq_nil_of_le (by omega)] at h4
      have h5 : lens48 ([] : List S48) = 0 := rfl
      rw [h5] at h4
      rw [if_pos (by omega : (l.length : Int) ≤ 200)]
      have : (x ≤ 5000) ↔ (l.length ≤ 200 ∧ lens48 l ≤ 5000) := by omega
      simp only [this]
    · rw [if_neg (by omega : ¬ (l.length : Int) ≤ 200)]
      have : ¬ (l.length ≤ 200 ∧ lens48 l ≤ 5000) := by omega
      simp [this]
  | succ m ih =>
    intro i k x hi hk hx
    obtain ⟨k, rfl⟩ : ∃ j, k = j + 1 := ⟨k - 1, by omega⟩
    unfold gazetteerlaw10_Small.l0
    rw [if_pos (by omega : ((i : Int) < (l.length : Int))), if_pos (by omega : (0 : Int) ≤ (i : Int))]
    have e : wrap64 ((i : Int) + 1) = ((i + 1 : Nat) : Int) := by unfold wrap64; omega
    rw [e]
    refine ih (i + 1) k _ (by omega) (by omega) (fun h2 => ?_)
    obtain ⟨h3, h4⟩ := hx h2
    have h5 := hs h2
    rw [lens_drop l i (by omega)] at h4
    have e2 : wrap64 (x + ((rd_T48 l (i : Int)).f2.length : Int)) = x + ((rd_T48 l (i : Int)).f2.length : Int) := by unfold wrap64; omega
    rw [e2]
    omega
theorem small_val (l : List S48) (hL : l.length ≤ 140737488351232) (hb : (l.all fun d => decide (d.f2.length ≤ 140737488351232)) = true) : gazetteerlaw10_Small.f (l.length + 1) l = some (decide (l.length ≤ 200 ∧ lens48 l ≤ 5000)) :=
  small_go l hL (fun h => Nat.le_trans (lens_le l hb) (Nat.mul_le_mul_right _ h)) l.length 0 (l.length + 1) 0 (by omega) (by omega) (fun _ => by simp)
set_option maxHeartbeats 8000000 in
set_option maxRecDepth 100000 in
theorem gazetteerlaw10_MediumPlays.calls (A0 : Option Addr) (c0 : Nat) (l0 : List (S48)) (A1 : Option Addr) (c1 : Nat) (l1 : List (S48)) (r : Bool) (w : World) (hr0 : Kd.C k48 w A0 l0.length l0) (hc0 : l0.length ≤ c0) (hr1 : Kd.C k48 w A1 l1.length l1) (hc1 : l1.length ≤ c1) (HLT0 : r = true) (h : gazetteerlaw10_MediumPlays.f l0 l1 = some r) :
    Calls Try.prog 6 #[.slice A0 l0.length c0, .slice A1 l1.length c1] w fun e w' => e = .returned (.bool r) ∧ Below w.heap.size w w' := by
  have hB : (l0.length ≤ 140737488351232 ∧ (l0.all fun d => decide (d.f2.length ≤ 140737488351232)) = true) ∧ (l1.length ≤ 140737488351232 ∧ (l1.all fun d => decide (d.f2.length ≤ 140737488351232)) = true) := by
    unfold gazetteerlaw10_MediumPlays.f at h
    split at h
    · assumption
    · cases h
  obtain rfl := HLT0
  clear h
  have HR0 := Aside0.mk hr0
  have HR1 := Aside0.mk hr1
  have HX := Aside0.mk awake_calls
  have HS0 := Aside0.mk (fun (W : World) (hb : Below w.heap.size w W) => gazetteerlaw10_Small.calls (l0.length + 1) A0 c0 l0 _ W (Kd.C_below hr0 hb) hc0 (small_val l0 hB.1.1 hB.1.2))
  have HS1 := Aside0.mk (fun (W : World) (hb : Below w.heap.size w W) => gazetteerlaw10_Small.calls (l1.length + 1) A1 c1 l1 _ W (Kd.C_below hr1 hb) hc1 (small_val l1 hB.2.1 hB.2.2))
  have hu48 := Try.underlying48
  have hu45 := Try.underlying45
  clear hr0 hr1 hc0 hc1 hB
  by_cases s0 : l0.length ≤ 200 ∧ lens48 l0 ≤ 5000
  case neg =>
    rw [decide_eq_false s0] at HS0
    clear s0
    go_enter Try.func6, Try.ntmps6
    go_wp2_with fail
    go_at_call 11; refine (HX.out w).mono ?_; rintro e w1 ⟨rfl, hb⟩; have HB := Aside0.mk hb; clear hb
    go_wp2_with fail
    go_at_call 25; refine (HS0.out _ HB.out).mono ?_; rintro e w2 ⟨rfl, hb⟩; have HB := Aside0.mk (below_step HB.out hb.below); clear hb
    go_wp2_with fail
    go_ret
    exact ⟨rfl, HB.out⟩
  by_cases s1 : l1.length ≤ 200 ∧ lens48 l1 ≤ 5000
  case neg =>
    rw [decide_eq_true s0] at HS0
    rw [decide_eq_false s1] at HS1
    clear s0 s1
    go_enter Try.func6, Try.ntmps6
    go_wp2_with fail
    go_at_call 11; refine (HX.out w).mono ?_; rintro e w1 ⟨rfl, hb⟩; have HB := Aside0.mk hb; clear hb
    go_wp2_with fail
    go_at_call 25; refine (HS0.out _ HB.out).mono ?_; rintro e w2 ⟨rfl, hb⟩; have HB := Aside0.mk (below_step HB.out hb.below); clear hb
    go_wp2_with fail
    go_at_call 25; refine (HS1.out _ HB.out).mono ?_; rintro e w3 ⟨rfl, hb⟩; have HB := Aside0.mk (below_step HB.out hb.below); clear hb
    go_wp2_with fail
    go_ret
    exact ⟨rfl, HB.out⟩
  have HL := Aside0.mk (And.intro s0 s1)
  rw [decide_eq_true s0] at HS0
  rw [decide_eq_true s1] at HS1
  clear s0 s1
  go_enter Try.func6, Try.ntmps6
  go_wp2_with fail
  go_at_call 11; refine (HX.out w).mono ?_; rintro e w1 ⟨rfl, hb⟩; have HB1 := Aside0.mk hb; clear hb
  go_wp2_with fail
  go_at_call 25; refine (HS0.out _ HB1.out).mono ?_; rintro e w2 ⟨rfl, hb⟩; have HB2 := Aside0.mk (below_step HB1.out hb.below); clear hb
  go_wp2_with fail
  go_at_call 25; refine (HS1.out _ HB2.out).mono ?_; rintro e w3 ⟨rfl, hb⟩; have HB3 := Aside0.mk (below_step HB2.out hb.below); clear hb
  clear HX HS0 HS1 HB1 HB2
  go_wp2_with fail
  go_at_call 12; refine (new_calls w3).mono ?_; rintro e w4 ⟨g, rfl, hg, hbx, hb⟩; have hnl := fun wx => run_eql_ptr_nil (P := Try.prog) wx 24 60 ⟨g, 0, none⟩ Try.underlying24
  have HM : Aside0 (Med w.heap.size w4 g (fun k => w3.heap.size ≤ k ∧ k < w4.heap.size) [] 0) := ⟨(med_new hg HB3.out.size hbx).cap⟩
  have HW4 : Aside0 (Below w.heap.size w w4) := ⟨below_step HB3.out hb⟩
  have HS3 := Aside0.mk HB3.out.size
  clear hg hbx hb HB3
  go_wp2_with ((with_reducible refine gate_dst (N := 23) rfl ?_); refine box_event ?hg (N := 23) ?hd (cs := #[.slice none 0 0, .int .i64 0]) (t := 45) ?hr ?_; (case hd => rfl); (case hg => rfl); (case hr => first | (go_simp; done) | (go_simp; rfl)); intro gr hgr w5 hbox hb; have HG := Aside0.mk hbox; have HB5 := Aside0.mk hb; have HGR := Aside0.mk hgr; clear hbox hb hgr)
  have HP : Aside0 (Pair w.heap.size w5 g gr (fun k => w3.heap.size ≤ k ∧ k < w4.heap.size) (fun _ => False) [] 0) := ⟨⟨HM.out.below HB5.out, ⟨_, HG.out, Kd.V_nil _ _ _ _ _, fun h => h⟩, by have := HW4.out.size; rw [HGR.out]; exact this, fun k hk => by have := HS3.out; omega, fun h => by have := HGR.out; omega, fun k _ h => h, fun k hk => by have := HB5.out.size; rcases hk with hk | hk <;> first | omega | exact hk.elim⟩⟩
  have HW5 : Aside0 (Below w.heap.size w w5) := ⟨below_step HW4.out HB5.out⟩
  clear HM HG HB5 HGR HS3 HW4
  go_wp2_with fail
  go_loopw [7] (fun i wr => ∃ k : Nat, k ≤ l0.length ∧ i = .int .i64 k ∧ Aside0 (Below w.heap.size w wr) ∧ Aside0 (∃ bs s P B, Pair w.heap.size wr g gr P B bs s ∧ bs.length + lens48 (l0.drop k) ≤ 5000)) (fun i _ => l0.length - (intOf i).toNat)
  case atStart => exact ⟨0, Nat.zero_le _, rfl, HW5, ⟨[], 0, _, _, HP.out, by have := HL.out; simp; omega⟩⟩
  case round =>
    obtain ⟨k1, hk, rfl, HB, HQ⟩ := hrel
    by_cases hlt : k1 < l0.length
    · have hc1 : ((k1 : Int) < (l0.length : Int)) = True := eq_true (by omega)
      have hc2 : (0 : Int) ≤ (k1 : Int) := by omega
      have hc3 : ((0 : Int) ≤ (k1 : Int)) = True := eq_true hc2
      obtain ⟨ad, A2, c2, rfl, hx0, hx1, hx2, hl2, hi2⟩ := at_T48 HR0.out (k1 : Int) (by omega) (by omega)
      obtain ⟨d, hd⟩ : ∃ d : S48, d = rd_T48 l0 (k1 : Int) := ⟨_, rfl⟩
      have HLD : Aside0 (lens48 (l0.drop k1) = d.f2.length + lens48 (l0.drop (k1 + 1))) := ⟨by rw [hd]; exact lens_drop l0 k1 hlt⟩
      rw [← hd] at hx0 hx1 hx2 hl2 hi2
      have y0 := cell_keep HB.out hx0
      have y1 := cell_keep HB.out hx1
      have y2 := cell_keep HB.out hx2
      rw [Int.toNat_natCast] at y0 y1 y2
      have HI := Aside0.mk hi2
      have HLT := Aside0.mk hlt
      have HW : Aside0 (wrap64 ((k1 : Int) + 1) = ((k1 + 1 : Nat) : Int)) := ⟨by have := HL.out; unfold wrap64; omega⟩
      clear hd hx0 hx1 hx2 hl2 hi2
      go_wp2_with fail
      obtain ⟨bs, s, P, B, hp, hle⟩ := HQ.out
      go_at_call 26; refine (do_calls w wr g gr P B bs d.f2 s d.f0 d.f1 A2 c2 HB.out hp HI.out (by have := HLD.out; omega)).mono ?_
      rintro e w6 ⟨rfl, P2, B2, bs2, s2, hp2, hP2, hB2, hf2, hl2⟩
      have HP2 := Aside0.mk hp2
      have HQ2 : Aside0 (∃ bs s P B, Pair w.heap.size w6 g gr P B bs s ∧ bs.length + lens48 (l0.drop (k1 + 1)) ≤ 5000) := ⟨⟨bs2, s2, P2, B2, hp2, by have := HLD.out; omega⟩⟩
      have HB6 : Aside0 (Below w.heap.size w w6) := ⟨HB.out.trans hf2.below⟩
      have HN2 : Aside0 (bs2.length ≤ 100000000) := ⟨by have := HLD.out; omega⟩
      clear hp hle hp2 hP2 hB2 hf2 hl2 HQ HB y0 y1 y2
      go_wp2_with fail
      go_at_call 27; refine (same_calls w.heap.size g gr P2 B2 bs2 s2 w6 HP2.out HN2.out).mono ?_
      rintro e w7 ⟨rfl, hb⟩
      have HB7 : Aside0 (Below w.heap.size w w7) := ⟨below_step HB6.out hb⟩
      have HQ7 : Aside0 (∃ bs s P B, Pair w.heap.size w7 g gr P B bs s ∧ bs.length + lens48 (l0.drop (k1 + 1)) ≤ 5000) := ⟨by obtain ⟨bs, s, P, B, h1, h2⟩ := HQ2.out; exact ⟨bs, s, P, B, h1.below hb, h2⟩⟩
      clear hb HP2 HQ2 HB6 HN2
      go_wp2
      go_split_ands
      go_roundw
      case rel => exact ⟨k1 + 1, HLT.out, by rw [HW.out], HB7, HQ7⟩
      case measure => have := HLT.out; rw [HW.out]; simp [intOf]; omega
    · have hc1 : ((k1 : Int) < (l0.length : Int)) = False := eq_false (by omega)
      obtain ⟨w8, hw_⟩ : ∃ z, z = wr := ⟨_, rfl⟩
      subst hw_
      obtain ⟨bs, s, P, B, hp, hle⟩ := HQ.out
      obtain ⟨lo, hlo⟩ : ∃ lo : Nat, lo = bs.length - s := ⟨_, rfl⟩
      have HLO := Aside0.mk hlo
      have HP8 := Aside0.mk hp
      have HN8 : Aside0 (bs.length ≤ 5000) := ⟨by omega⟩
      obtain ⟨x, h1, h2, h3⟩ := hp.ref
      rw [← hlo] at h1
      obtain ⟨Av, cv, rfl⟩ := Kd.V_slice h2
      have HG := Aside0.mk h1
      have HV := Aside0.mk h2
      clear hp hle h1 h2 h3 hlo HQ HP
      go_wp2_with fail
      refine wp_region_steps 14 rfl rfl (by kernel_rfl) (fun LL a wx => ∃ gc : Nat, ∃ gk : Nat, ∃ gc2 : Nat, ∃ gk2 : Nat, ∃ t : Nat → Value, Aside0 (a = { tmps := List.toArray (.slice A0 l0.length c0 :: .slice A1 l1.length c1 :: undef :: undef :: u4 :: .pointer (some ⟨g, 0, none⟩) :: .pointer (some ⟨gr, 0, none⟩) :: .int .i64 (k1 : Int) :: t 8 :: t 9 :: undef :: .bool true :: .bool false :: .slice A0 l0.length c0 :: .bool true :: .bool false :: .bool false :: .slice A1 l1.length c1 :: .bool true :: .bool false :: .bool false :: .pointer (some ⟨g, 0, none⟩) :: .agg #[.slice none 0 0, .int .i64 0] :: .pointer (some ⟨gr, 0, none⟩) :: .pointer (some ⟨g, 0, none⟩) :: .bool false :: .int .i64 (k1 : Int) :: .slice A0 l0.length c0 :: .int .i64 (l0.length : Int) :: .bool false :: u30 :: u31 :: u32 :: u33 :: u34 :: u35 :: u36 :: u37 :: u38 :: u39 :: u40 :: u41 :: u42 :: t 43 :: t 44 :: t 45 :: t 46 :: t 47 :: t 48 :: t 49 :: t 50 :: t 51 :: t 52 :: t 53 :: t 54 :: undef :: undef :: undef :: undef :: undef :: undef :: undef :: undef :: undef :: undef :: undef :: undef :: undef :: undef :: undef :: undef :: undef :: undef :: undef :: undef :: undef :: undef :: undef :: []), defers := [] } ∧ Tab LL t [(0, 43, .pointer (some ⟨g, 0, none⟩)), (1, 44, .pointer (some ⟨gc, 0, none⟩)), (2, 45, .pointer (some ⟨gr, 0, none⟩)), (3, 46, .pointer (some ⟨gr, 0, none⟩)), (4, 47, .pointer (some ⟨gr, 0, none⟩)), (5, 48, .slice Av bs.length cv), (6, 49, .pointer (some ⟨gr, 0, none⟩)), (7, 50, .pointer (some ⟨gr, 0, none⟩)), (8, 51, .pointer (some ⟨gr, 1, none⟩)), (9, 52, .int .i64 (lo : Int)), (10, 53, .agg #[.slice Av bs.length cv, .int .i64 (lo : Int)]), (11, 54, .pointer (some ⟨gk, 0, none⟩)), (12, 8, .pointer (some ⟨gc2, 0, none⟩)), (13, 9, .pointer (some ⟨gk2, 0, none⟩))] ∧ Aside0 (Below w8.heap.size w8 wx) ∧ Aside0 (LL 1 = true → ∃ P : Nat → Prop, Med w.heap.size wx gc P bs s ∧ (∀ k, P k → w8.heap.size ≤ k ∧ k < wx.heap.size) ∧ (LL 11 = true → ¬ P gk)) ∧ Aside0 (LL 11 = true → wx.heap[gk]? = some (.cells #[.slice Av bs.length cv, .int .i64 (lo : Int)] 45 (0, 0)) ∧ w8.heap.size ≤ gk) ∧ Aside0 (LL 12 = true → LL 1 = true ∧ gc2 = gc) ∧ Aside0 (LL 13 = true → LL 11 = true ∧ gk2 = gk))) ?_ ?_ ?_
      · exact ⟨0, 0, 0, 0, fun _ => undef, ⟨rfl, Tab.start 14 rfl rfl, ⟨below_drew (Below.refl _ _)⟩, ⟨fun h => absurd h (by decide)⟩, ⟨fun h => absurd h (by decide)⟩, ⟨fun h => absurd h (by decide)⟩, ⟨fun h => absurd h (by decide)⟩⟩⟩
      · refine Steps.cons ?_ (Steps.cons ?_ (Steps.cons ?_ (Steps.cons ?_ (Steps.cons ?_ (Steps.cons ?_ (Steps.cons ?_ (Steps.cons ?_ (Steps.cons ?_ (Steps.cons ?_ (Steps.cons ?_ (Steps.cons ?_ (Steps.cons ?_ (Steps.cons ?_ (Steps.nil))))))))))))))
        · intro LL a wx hI hLk hd K' hK
          obtain ⟨gc, gk, gc2, gk2, t, hI⟩ := hI
          obtain rfl := hI.out.1
          rw [if_pos (by rfl)]
          go_simp
          exact hK.out _ _ ⟨gc, gk, gc2, gk2, (put1 t 43 (.pointer (some ⟨g, 0, none⟩))), ⟨rfl, hI.out.2.1.upd 0 rfl rfl rfl rfl, hI.out.2.2.1, hI.out.2.2.2.1, hI.out.2.2.2.2.1, hI.out.2.2.2.2.2.1, hI.out.2.2.2.2.2.2⟩⟩
        · intro LL a wx hI hLk hd K' hK
          obtain ⟨gc, gk, gc2, gk2, t, hI⟩ := hI
          obtain rfl := hI.out.1
          have e0 := hI.out.2.1.at 0 rfl (hd 0 rfl)
          have hb := hI.out.2.2.1
          have hk_ := hI.out.2.2.2.2.1
          have h12 := hI.out.2.2.2.2.2.1
          rw [if_pos (by rfl)]
          go_simp
          go_at_call 28
          refine (copy_calls w.heap.size g bs s P wx (HP8.out.med.below hb.out) (by have := HN8.out; omega) (Nat.le_trans HB.out.size hb.out.size)).mono ?_
          rintro e w9 ⟨gc', rfl, hm9, hb9⟩
          exact hK.out _ _ ⟨gc', gk, gc2, gk2, (put1 (put1 t 43 (.pointer (some ⟨g, 0, none⟩))) 44 (.pointer (some ⟨gc', 0, none⟩))), ⟨rfl, (hI.out.2.1.same (s := 43) (v := .pointer (some ⟨g, 0, none⟩)) e0).upd 1 rfl rfl rfl rfl, ⟨below_step hb.out hb9⟩, ⟨fun _ => ⟨_, hm9.cap, fun k hk => ⟨Nat.le_trans hb.out.size hk.1, hk.2⟩, fun h hk => by have := blk_lt (hk_.out h).1; have := hk.1; omega⟩⟩, ⟨fun h => ⟨blk_below (hk_.out h).1 hb9, (hk_.out h).2⟩⟩, ⟨fun h => absurd (h12.out h).1 (by rw [hLk]; decide)⟩, hI.out.2.2.2.2.2.2⟩⟩
        · intro LL a wx hI hLk hd K' hK
          obtain ⟨gc, gk, gc2, gk2, t, hI⟩ := hI
          obtain rfl := hI.out.1
          rw [if_pos (by rfl)]
          go_simp
          exact hK.out _ _ ⟨gc, gk, gc2, gk2, (put1 t 45 (.pointer (some ⟨gr, 0, none⟩))), ⟨rfl, hI.out.2.1.upd 2 rfl rfl rfl rfl, hI.out.2.2.1, hI.out.2.2.2.1, hI.out.2.2.2.2.1, hI.out.2.2.2.2.2.1, hI.out.2.2.2.2.2.2⟩⟩
        · intro LL a wx hI hLk hd K' hK
          obtain ⟨gc, gk, gc2, gk2, t, hI⟩ := hI
          obtain rfl := hI.out.1
          have e2 := hI.out.2.1.at 2 rfl (hd 2 rfl)
          rw [if_pos (by rfl)]
          go_simp
          exact hK.out _ _ ⟨gc, gk, gc2, gk2, (put1 (put1 t 45 (.pointer (some ⟨gr, 0, none⟩))) 46 (.pointer (some ⟨gr, 0, none⟩))), ⟨rfl, (hI.out.2.1.same (s := 45) (v := .pointer (some ⟨gr, 0, none⟩)) e2).upd 3 rfl rfl rfl rfl, hI.out.2.2.1, hI.out.2.2.2.1, hI.out.2.2.2.2.1, hI.out.2.2.2.2.2.1, hI.out.2.2.2.2.2.2⟩⟩
        · intro LL a wx hI hLk hd K' hK
          obtain ⟨gc, gk, gc2, gk2, t, hI⟩ := hI
          obtain rfl := hI.out.1
          have e3 := hI.out.2.1.at 3 rfl (hd 3 rfl)
          rw [if_pos (by rfl)]
          go_simp
          exact hK.out _ _ ⟨gc, gk, gc2, gk2, (put1 (put1 t 46 (.pointer (some ⟨gr, 0, none⟩))) 47 (.pointer (some ⟨gr, 0, none⟩))), ⟨rfl, (hI.out.2.1.same (s := 46) (v := .pointer (some ⟨gr, 0, none⟩)) e3).upd 4 rfl rfl rfl rfl, hI.out.2.2.1, hI.out.2.2.2.1, hI.out.2.2.2.2.1, hI.out.2.2.2.2.2.1, hI.out.2.2.2.2.2.2⟩⟩
        · intro LL a wx hI hLk hd K' hK
          obtain ⟨gc, gk, gc2, gk2, t, hI⟩ := hI
          obtain rfl := hI.out.1
          have e4 := hI.out.2.1.at 4 rfl (hd 4 rfl)
          have hb := hI.out.2.2.1
          have hg := blk_below HG.out hb.out
          have d0 : wx.cell? ⟨gr, 0, none⟩ = some (.slice Av bs.length cv) := (blk_cell hg 0).trans rfl
          have d1 : wx.cell? ⟨gr, 1, none⟩ = some (.int .i64 (lo : Int)) := (blk_cell hg 1).trans rfl
          rw [if_pos (by rfl)]
          go_simp
          exact hK.out _ _ ⟨gc, gk, gc2, gk2, (put1 (put1 t 47 (.pointer (some ⟨gr, 0, none⟩))) 48 (.slice Av bs.length cv)), ⟨rfl, (hI.out.2.1.same (s := 47) (v := .pointer (some ⟨gr, 0, none⟩)) e4).upd 5 rfl rfl rfl rfl, hI.out.2.2.1, hI.out.2.2.2.1, hI.out.2.2.2.2.1, hI.out.2.2.2.2.2.1, hI.out.2.2.2.2.2.2⟩⟩
        · intro LL a wx hI hLk hd K' hK
          obtain ⟨gc, gk, gc2, gk2, t, hI⟩ := hI
          obtain rfl := hI.out.1
          rw [if_pos (by rfl)]
          go_simp
          exact hK.out _ _ ⟨gc, gk, gc2, gk2, (put1 t 49 (.pointer (some ⟨gr, 0, none⟩))), ⟨rfl, hI.out.2.1.upd 6 rfl rfl rfl rfl, hI.out.2.2.1, hI.out.2.2.2.1, hI.out.2.2.2.2.1, hI.out.2.2.2.2.2.1, hI.out.2.2.2.2.2.2⟩⟩
        · intro LL a wx hI hLk hd K' hK
          obtain ⟨gc, gk, gc2, gk2, t, hI⟩ := hI
          obtain rfl := hI.out.1
          have e6 := hI.out.2.1.at 6 rfl (hd 6 rfl)
          rw [if_pos (by rfl)]
          go_simp
          exact hK.out _ _ ⟨gc, gk, gc2, gk2, (put1 (put1 t 49 (.pointer (some ⟨gr, 0, none⟩))) 50 (.pointer (some ⟨gr, 0, none⟩))), ⟨rfl, (hI.out.2.1.same (s := 49) (v := .pointer (some ⟨gr, 0, none⟩)) e6).upd 7 rfl rfl rfl rfl, hI.out.2.2.1, hI.out.2.2.2.1, hI.out.2.2.2.2.1, hI.out.2.2.2.2.2.1, hI.out.2.2.2.2.2.2⟩⟩
        · intro LL a wx hI hLk hd K' hK
          obtain ⟨gc, gk, gc2, gk2, t, hI⟩ := hI
          obtain rfl := hI.out.1
          have e7 := hI.out.2.1.at 7 rfl (hd 7 rfl)
          rw [if_pos (by rfl)]
          go_simp
          exact hK.out _ _ ⟨gc, gk, gc2, gk2, (put1 (put1 t 50 (.pointer (some ⟨gr, 0, none⟩))) 51 (.pointer (some ⟨gr, 1, none⟩))), ⟨rfl, (hI.out.2.1.same (s := 50) (v := .pointer (some ⟨gr, 0, none⟩)) e7).upd 8 rfl rfl rfl rfl, hI.out.2.2.1, hI.out.2.2.2.1, hI.out.2.2.2.2.1, hI.out.2.2.2.2.2.1, hI.out.2.2.2.2.2.2⟩⟩
        · intro LL a wx hI hLk hd K' hK
          obtain ⟨gc, gk, gc2, gk2, t, hI⟩ := hI
          obtain rfl := hI.out.1
          have e8 := hI.out.2.1.at 8 rfl (hd 8 rfl)
          have hb := hI.out.2.2.1
          have hg := blk_below HG.out hb.out
          have d0 : wx.cell? ⟨gr, 0, none⟩ = some (.slice Av bs.length cv) := (blk_cell hg 0).trans rfl
          have d1 : wx.cell? ⟨gr, 1, none⟩ = some (.int .i64 (lo : Int)) := (blk_cell hg 1).trans rfl
          rw [if_pos (by rfl)]
          go_simp
          exact hK.out _ _ ⟨gc, gk, gc2, gk2, (put1 (put1 t 51 (.pointer (some ⟨gr, 1, none⟩))) 52 (.int .i64 (lo : Int))), ⟨rfl, (hI.out.2.1.same (s := 51) (v := .pointer (some ⟨gr, 1, none⟩)) e8).upd 9 rfl rfl rfl rfl, hI.out.2.2.1, hI.out.2.2.2.1, hI.out.2.2.2.2.1, hI.out.2.2.2.2.2.1, hI.out.2.2.2.2.2.2⟩⟩
        · intro LL a wx hI hLk hd K' hK
          obtain ⟨gc, gk, gc2, gk2, t, hI⟩ := hI
          obtain rfl := hI.out.1
          have e5 := hI.out.2.1.at 5 rfl (hd 5 rfl)
          have e9 := hI.out.2.1.at 9 rfl (hd 9 rfl)
          rw [if_pos (by rfl)]
          go_simp
          exact hK.out _ _ ⟨gc, gk, gc2, gk2, (put1 (put1 (put1 t 48 (.slice Av bs.length cv)) 52 (.int .i64 (lo : Int))) 53 (.agg #[.slice Av bs.length cv, .int .i64 (lo : Int)])), ⟨rfl, ((hI.out.2.1.same (s := 48) (v := .slice Av bs.length cv) e5).same (s := 52) (v := .int .i64 (lo : Int)) e9).upd 10 rfl rfl rfl rfl, hI.out.2.2.1, hI.out.2.2.2.1, hI.out.2.2.2.2.1, hI.out.2.2.2.2.2.1, hI.out.2.2.2.2.2.2⟩⟩
        · intro LL a wx hI hLk hd K' hK
          obtain ⟨gc, gk, gc2, gk2, t, hI⟩ := hI
          obtain rfl := hI.out.1
          have e10 := hI.out.2.1.at 10 rfl (hd 10 rfl)
          have hb := hI.out.2.2.1
          have hm := hI.out.2.2.2.1
          have h13 := hI.out.2.2.2.2.2.2
          rw [if_pos (by rfl)]
          go_simp
          exact hK.out _ _ ⟨gc, wx.heap.size, gc2, gk2, (put1 (put1 t 53 (.agg #[.slice Av bs.length cv, .int .i64 (lo : Int)])) 54 (.pointer (some ⟨wx.heap.size, 0, none⟩))), ⟨rfl, (hI.out.2.1.same (s := 53) (v := .agg #[.slice Av bs.length cv, .int .i64 (lo : Int)]) e10).upd 11 rfl rfl rfl rfl, ⟨below_alloc hb.out _⟩, ⟨fun h => by obtain ⟨P, h1, h2, _⟩ := hm.out h; exact ⟨P, h1.below (below_alloc (Below.refl _ _) _), fun k hk => ⟨(h2 k hk).1, Nat.lt_of_lt_of_le (h2 k hk).2 (below_alloc (Below.refl wx.heap.size wx) _).size⟩, fun _ hk => Nat.lt_irrefl _ (h2 _ hk).2⟩⟩, ⟨fun _ => ⟨by simpa using heap_alloc_new wx _, hb.out.size⟩⟩, hI.out.2.2.2.2.2.1, ⟨fun h => absurd (h13.out h).1 (by rw [hLk]; decide)⟩⟩⟩
        · intro LL a wx hI hLk hd K' hK
          obtain ⟨gc, gk, gc2, gk2, t, hI⟩ := hI
          obtain rfl := hI.out.1
          have e1 := hI.out.2.1.at 1 rfl (hd 1 rfl)
          rw [if_pos (by rfl)]
          go_simp
          exact hK.out _ _ ⟨gc, gk, gc, gk2, (put1 (put1 t 44 (.pointer (some ⟨gc, 0, none⟩))) 8 (.pointer (some ⟨gc, 0, none⟩))), ⟨rfl, (hI.out.2.1.same (s := 44) (v := .pointer (some ⟨gc, 0, none⟩)) e1).upd 12 rfl rfl rfl rfl, hI.out.2.2.1, hI.out.2.2.2.1, hI.out.2.2.2.2.1, ⟨fun _ => ⟨upd_old (hd 1 rfl), rfl⟩⟩, hI.out.2.2.2.2.2.2⟩⟩
        · intro LL a wx hI hLk hd K' hK
          obtain ⟨gc, gk, gc2, gk2, t, hI⟩ := hI
          obtain rfl := hI.out.1
          have e11 := hI.out.2.1.at 11 rfl (hd 11 rfl)
          rw [if_pos (by rfl)]
          go_simp
          exact hK.out _ _ ⟨gc, gk, gc2, gk, (put1 (put1 t 54 (.pointer (some ⟨gk, 0, none⟩))) 9 (.pointer (some ⟨gk, 0, none⟩))), ⟨rfl, (hI.out.2.1.same (s := 54) (v := .pointer (some ⟨gk, 0, none⟩)) e11).upd 13 rfl rfl rfl rfl, hI.out.2.2.1, hI.out.2.2.2.1, hI.out.2.2.2.2.1, hI.out.2.2.2.2.2.1, ⟨fun _ => ⟨upd_old (hd 11 rfl), rfl⟩⟩⟩⟩
      · intro LL a w9 hall hI
        obtain ⟨gc, gk, gc2, gk2, t, hI⟩ := hI
        obtain rfl := hI.out.1
        have hb := hI.out.2.2.1
        have hm := hI.out.2.2.2.1
        have hk_ := hI.out.2.2.2.2.1
        have h12 := hI.out.2.2.2.2.2.1
        have h13 := hI.out.2.2.2.2.2.2
        have e12 := hI.out.2.1.at 12 rfl (hall 12 (by decide))
        have e13 := hI.out.2.1.at 13 rfl (hall 13 (by decide))
        obtain ⟨Pc, hm1, hm2, hm3⟩ := hm.out (hall 1 (by decide))
        obtain ⟨hk1, hk2⟩ := hk_.out (hall 11 (by decide))
        have hm4 := hm3 (hall 11 (by decide))
        have HPC : Aside0 (Pair w.heap.size w9 gc gk Pc B bs s) := ⟨⟨hm1, ⟨_, by rw [← HLO.out]; exact hk1, Kd.V_below HV.out hb.out, fun h => by have := HP8.out.cap gk (.inr h); omega⟩, Nat.le_trans HB.out.size hk2, fun k hk => Nat.le_trans HB.out.size (hm2 k hk).1, hm4, fun k hk h => by have := HP8.out.cap k (.inr h); have := (hm2 k hk).1; omega, fun k hk => by rcases hk with hk | hk; exact (hm2 k hk).2; have := HP8.out.cap k (.inr hk); have := hb.out.size; omega⟩⟩
        have HPL : Aside0 (∀ k, Pc k → w8.heap.size ≤ k) := ⟨fun k hk => (hm2 k hk).1⟩
        have HGK : Aside0 (w8.heap.size ≤ gk) := ⟨hk2⟩
        have HB9 := Aside0.mk hb.out
        have HW9 : Aside0 (Below w.heap.size w w9) := ⟨below_step HB.out hb.out⟩
        rw [e12, e13, (h12.out (hall 12 (by decide))).2, (h13.out (hall 13 (by decide))).2]
        clear hI hb hm hk_ h12 h13 e12 e13 hm1 hm2 hm3 hm4 hk1 hk2 HG HV
        go_wp2_with fail
        go_loopw [10] (fun i wr => ∃ k : Nat, k ≤ l1.length ∧ i = .int .i64 k ∧ Aside0 (Below w.heap.size w wr) ∧ Aside0 (Below w8.heap.size w8 wr ∧ ∃ bs s P B, Pair w.heap.size wr gc gk P B bs s ∧ bs.length + lens48 (l1.drop k) ≤ 10000 ∧ ∀ k, P k → w8.heap.size ≤ k)) (fun i _ => l1.length - (intOf i).toNat)
        case atStart => exact ⟨0, Nat.zero_le _, rfl, HW9, ⟨HB9.out, bs, s, Pc, B, HPC.out, by have := HL.out; have := HN8.out; simp; omega, HPL.out⟩⟩
        case round =>
          obtain ⟨k2, hk, rfl, HB, HQ⟩ := hrel
          by_cases hlt : k2 < l1.length
          · have hc1 : ((k2 : Int) < (l1.length : Int)) = True := eq_true (by omega)
            have hc2 : (0 : Int) ≤ (k2 : Int) := by omega
            have hc3 : ((0 : Int) ≤ (k2 : Int)) = True := eq_true hc2
            obtain ⟨ad, A2, c2, rfl, hx0, hx1, hx2, hl2, hi2⟩ := at_T48 HR1.out (k2 : Int) (by omega) (by omega)
            obtain ⟨d, hd⟩ : ∃ d : S48, d = rd_T48 l1 (k2 : Int) := ⟨_, rfl⟩
            have HLD : Aside0 (lens48 (l1.drop k2) = d.f2.length + lens48 (l1.drop (k2 + 1))) := ⟨by rw [hd]; exact lens_drop l1 k2 hlt⟩
            rw [← hd] at hx0 hx1 hx2 hl2 hi2
            have y0 := cell_keep HB.out hx0
            have y1 := cell_keep HB.out hx1
            have y2 := cell_keep HB.out hx2
            rw [Int.toNat_natCast] at y0 y1 y2
            have HI := Aside0.mk hi2
            have HLT := Aside0.mk hlt
            have HW : Aside0 (wrap64 ((k2 : Int) + 1) = ((k2 + 1 : Nat) : Int)) := ⟨by have := HL.out; unfold wrap64; omega⟩
            clear hd hx0 hx1 hx2 hl2 hi2
            go_wp2_with fail
            obtain ⟨hb8, bs, s, P, B, hp, hle, hlow⟩ := HQ.out
            go_at_call 26; refine (do_calls w wr gc gk P B bs d.f2 s d.f0 d.f1 A2 c2 HB.out hp HI.out (by have := HLD.out; omega)).mono ?_
            rintro e wa ⟨rfl, P2, B2, bs2, s2, hp2, hP2, hB2, hf2, hl2⟩
            have HP2 := Aside0.mk hp2
            have HB8a : Aside0 (Below w8.heap.size w8 wa) := ⟨hb8.trans (hf2.out (fun k hk => by rcases hk with hk | hk; exact hlow k hk; rw [hk]; exact HGK.out) hb8.size)⟩
            have HLW : Aside0 (∀ k, P2 k → w8.heap.size ≤ k) := ⟨fun k hk => by rcases hP2 k hk with h | h; exact hlow k h; exact Nat.le_trans hb8.size h⟩
            have HN3 : Aside0 (bs2.length + lens48 (l1.drop (k2 + 1)) ≤ 10000) := ⟨by have := HLD.out; omega⟩
            have HBa : Aside0 (Below w.heap.size w wa) := ⟨HB.out.trans hf2.below⟩
            clear hp hle hlow hp2 hP2 hB2 hf2 hl2 hb8 HQ HB y0 y1 y2
            go_wp2_with fail
            go_at_call 27; refine (same_calls w.heap.size gc gk P2 B2 bs2 s2 wa HP2.out (by have := HN3.out; omega)).mono ?_
            rintro e wb ⟨rfl, hb⟩
            have HBb : Aside0 (Below w.heap.size w wb) := ⟨below_step HBa.out hb⟩
            have HB8b : Aside0 (Below w8.heap.size w8 wb) := ⟨below_step HB8a.out hb⟩
            have HP2 := Aside0.mk (HP2.out.below hb)
            clear hb HBa HB8a
            go_wp2_with fail
            go_at_call 27; refine (same_calls w.heap.size g gr _ _ _ _ wb (HP8.out.below HB8b.out) (by have := HN8.out; omega)).mono ?_
            rintro e wc ⟨rfl, hb⟩
            have HBc : Aside0 (Below w.heap.size w wc) := ⟨below_step HBb.out hb⟩
            have HQc : Aside0 (Below w8.heap.size w8 wc ∧ ∃ bs s P B, Pair w.heap.size wc gc gk P B bs s ∧ bs.length + lens48 (l1.drop (k2 + 1)) ≤ 10000 ∧ ∀ k, P k → w8.heap.size ≤ k) := ⟨⟨below_step HB8b.out hb, bs2, s2, P2, B2, HP2.out.below hb, HN3.out, HLW.out⟩⟩
            clear hb HP2 HBb HB8b
            go_wp2
            go_split_ands
            go_roundw
            case rel => exact ⟨k2 + 1, HLT.out, by rw [HW.out], HBc, HQc⟩
            case measure => have := HLT.out; rw [HW.out]; simp [intOf]; omega
          · have hc1 : ((k2 : Int) < (l1.length : Int)) = False := eq_false (by omega)
            go_wp2_with fail
            go_ret
            exact ⟨rfl, HB.out⟩


end Go.Proofs.Ytkolcgofhjbebaa.PMediumPlays

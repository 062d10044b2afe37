-- printed by a program of this session (wip/tools), a turned form of the kit's print
import Derived.Test.YtbajekndbamcmaaPAtlasBackx9
namespace Go.Proofs.Ytbajekndbamcmaa.PAtlasBack
open Go.RowKit Go.Proofs.YtbajekndbamcmaaW.PrintWords Go.Proofs.YtbajekndbamcmaaW.PrintLast Go.Proofs.YtbajekndbamcmaaW.PrintMore
attribute [local go_sem] max2_int min2_int max_two min_two max_three min_three max_four min_four max2_str min2_str str_geq str_leq str_gtr   -- for this text's walks alone
open Go.Proofs.YtbajekndbamcmaaW.PrintOrd Go.Proofs.YtbajekndbamcmaaW.PrintReg
set_option linter.unusedVariables false
set_option linter.unusedSimpArgs false

attribute [local go_sem high] eqA28
def gazetteerlaw14_AtlasBack.f (a0_0 : Int) (l0_1 : List S38) (a1 : ByteArray) (a2 : Int) : Option Bool := if 0 ≤ a2 ∧ a2 ≤ 255 then some true else none
set_option maxHeartbeats 8000000 in
set_option maxRecDepth 100000 in
theorem gazetteerlaw14_AtlasBack.calls (a0_0 : Int) (A0_1 : Option Addr) (c0_1 : Nat) (l0_1 : List (S38)) (a1 : ByteArray) (a2 : Int) (r : Bool) (w : World) (hr0_1 : Kd.C k38 w A0_1 l0_1.length l0_1) (hc0_1 : l0_1.length ≤ c0_1) (HLT0 : r = true) (h : gazetteerlaw14_AtlasBack.f a0_0 l0_1 a1 a2 = some r) :
    Calls Try.prog 7 #[.agg #[.int .i64 a0_0, .slice A0_1 l0_1.length c0_1], .string a1, .int .u8 a2] w fun e w' => e = .returned (.bool r) ∧ Below w.heap.size w w' := by
  have hA2 : 0 ≤ a2 ∧ a2 ≤ 255 := by
    unfold gazetteerlaw14_AtlasBack.f at h
    split at h
    · assumption
    · cases h
  obtain rfl := HLT0
  clear h
  have HA2 := Aside0.mk hA2
  have HR := Aside0.mk hr0_1
  have HX := Aside0.mk (fun W => gazetteerlaw14_awake.calls 400 true W (awake_eq 380))
  have hu24 := Try.underlying24
  have hu35 := Try.underlying35
  have hu30 := Try.underlying30
  have hu28 := Try.underlying28
  obtain ⟨bs, hs1, hs2⟩ := small a0_0 l0_1 400 (by omega)
  have HSM := Aside0.mk (fun (W : World) (hb : Below w.heap.size w W) => gazetteerlaw14_Small.calls 400 a0_0 A0_1 c0_1 l0_1 bs W (Kd.C_below hr0_1 hb) hc0_1 hs1)
  clear hA2 hs1
  cases bs with
  | false =>
    clear hs2 hr0_1 hc0_1
    go_enter Try.func7, Try.ntmps7
    go_wp2_with ((with_reducible refine gate_dst (N := 3) rfl ?_); refine box_event ?hg (N := 3) ?hd (cs := #[.int .i64 a0_0, .slice A0_1 l0_1.length c0_1]) (t := 24) ?hr ?_; (case hd => rfl); (case hg => rfl); (case hr => first | (go_simp; done) | (go_simp; rfl)); intro gA hgA w1 hbox hb; have d0 : w1.cell? ⟨gA, 0, none⟩ = some (.int .i64 a0_0) := (blk_cell hbox 0).trans rfl; have d1 : w1.cell? ⟨gA, 1, none⟩ = some (.slice A0_1 l0_1.length c0_1) := (blk_cell hbox 1).trans rfl; have HB1 := Aside0.mk hb; clear hbox hb hgA)
    go_at_call 11; refine (HX.out w1).mono ?_; rintro e w2 ⟨rfl, hb⟩
    have d0 := cell_keep hb d0
    have d1 := cell_keep hb d1
    have HB2 : Aside0 (Below w.heap.size w w2) := ⟨below_step HB1.out hb⟩
    clear hb HB1
    go_wp2_with fail
    go_at_call 12; refine (HSM.out _ HB2.out).mono ?_; rintro e w3 ⟨rfl, hb⟩
    have d0 := cell_keep (hb) d0
    have d1 := cell_keep (hb) d1
    have HB3 : Aside0 (Below w.heap.size w w3) := ⟨below_step HB2.out (hb)⟩
    clear hb HB2
    go_wp2_with fail
    go_ret
    exact ⟨rfl, HB3.out⟩
  | true =>
    have hl60 : l0_1.length ≤ 60 := hs2 rfl
    by_cases hk : 300 < a1.size
    · have hk1 : ((300 : Int) < (a1.size : Int)) = True := eq_true (by omega)
      clear hs2 hr0_1 hc0_1 hk
      go_enter Try.func7, Try.ntmps7
      go_wp2_with ((with_reducible refine gate_dst (N := 3) rfl ?_); refine box_event ?hg (N := 3) ?hd (cs := #[.int .i64 a0_0, .slice A0_1 l0_1.length c0_1]) (t := 24) ?hr ?_; (case hd => rfl); (case hg => rfl); (case hr => first | (go_simp; done) | (go_simp; rfl)); intro gA hgA w1 hbox hb; have d0 : w1.cell? ⟨gA, 0, none⟩ = some (.int .i64 a0_0) := (blk_cell hbox 0).trans rfl; have d1 : w1.cell? ⟨gA, 1, none⟩ = some (.slice A0_1 l0_1.length c0_1) := (blk_cell hbox 1).trans rfl; have HB1 := Aside0.mk hb; clear hbox hb hgA)
      go_at_call 11; refine (HX.out w1).mono ?_; rintro e w2 ⟨rfl, hb⟩
      have d0 := cell_keep hb d0
      have d1 := cell_keep hb d1
      have HB2 : Aside0 (Below w.heap.size w w2) := ⟨below_step HB1.out hb⟩
      clear hb HB1
      go_wp2_with fail
      go_at_call 12; refine (HSM.out _ HB2.out).mono ?_; rintro e w3 ⟨rfl, hb⟩
      have d0 := cell_keep (hb) d0
      have d1 := cell_keep (hb) d1
      have HB3 : Aside0 (Below w.heap.size w w3) := ⟨below_step HB2.out (hb)⟩
      clear hb HB2
      go_wp2_with fail
      go_ret
      exact ⟨rfl, HB3.out⟩
    have hk1 : ((300 : Int) < (a1.size : Int)) = False := eq_false (by omega)
    obtain ⟨bm, hm1, hm2⟩ := refmay a0_0 l0_1 (by omega) 400 (by omega)
    have HMY := Aside0.mk (fun (W : World) (hb : Below w.heap.size w W) => gazetteerref5_AtlasMay.calls 400 a0_0 A0_1 c0_1 l0_1 5 bm W (Kd.C_below hr0_1 hb) hc0_1 hm1)
    clear hm1 hs2 hk
    cases bm with
    | false =>
      clear hm2 hr0_1 hc0_1
      go_enter Try.func7, Try.ntmps7
      go_wp2_with ((with_reducible refine gate_dst (N := 3) rfl ?_); refine box_event ?hg (N := 3) ?hd (cs := #[.int .i64 a0_0, .slice A0_1 l0_1.length c0_1]) (t := 24) ?hr ?_; (case hd => rfl); (case hg => rfl); (case hr => first | (go_simp; done) | (go_simp; rfl)); intro gA hgA w1 hbox hb; have d0 : w1.cell? ⟨gA, 0, none⟩ = some (.int .i64 a0_0) := (blk_cell hbox 0).trans rfl; have d1 : w1.cell? ⟨gA, 1, none⟩ = some (.slice A0_1 l0_1.length c0_1) := (blk_cell hbox 1).trans rfl; have HB1 := Aside0.mk hb; clear hbox hb hgA)
      go_at_call 11; refine (HX.out w1).mono ?_; rintro e w2 ⟨rfl, hb⟩
      have d0 := cell_keep hb d0
      have d1 := cell_keep hb d1
      have HB2 : Aside0 (Below w.heap.size w w2) := ⟨below_step HB1.out hb⟩
      clear hb HB1
      go_wp2_with fail
      go_at_call 12; refine (HSM.out _ HB2.out).mono ?_; rintro e w3 ⟨rfl, hb⟩
      have d0 := cell_keep (hb) d0
      have d1 := cell_keep (hb) d1
      have HB3 : Aside0 (Below w.heap.size w w3) := ⟨below_step HB2.out (hb)⟩
      clear hb HB2
      go_wp2_with fail
      go_at_call 16; refine (HMY.out _ HB3.out).mono ?_; rintro e w4 ⟨rfl, hb⟩
      have d0 := cell_keep (hb) d0
      have d1 := cell_keep (hb) d1
      have HB4 : Aside0 (Below w.heap.size w w4) := ⟨below_step HB3.out (hb)⟩
      clear hb HB3
      go_wp2_with fail
      go_ret
      exact ⟨rfl, HB4.out⟩
    | true =>
      obtain ⟨hm3, hm4, hm5⟩ := hm2 rfl
      by_cases he : 134217728 < a0_0
      · have he1 : ((134217728 : Int) < a0_0) = True := eq_true he
        clear hm2 hm3 hm4 hm5 hr0_1 hc0_1 he
        go_enter Try.func7, Try.ntmps7
        go_wp2_with ((with_reducible refine gate_dst (N := 3) rfl ?_); refine box_event ?hg (N := 3) ?hd (cs := #[.int .i64 a0_0, .slice A0_1 l0_1.length c0_1]) (t := 24) ?hr ?_; (case hd => rfl); (case hg => rfl); (case hr => first | (go_simp; done) | (go_simp; rfl)); intro gA hgA w1 hbox hb; have d0 : w1.cell? ⟨gA, 0, none⟩ = some (.int .i64 a0_0) := (blk_cell hbox 0).trans rfl; have d1 : w1.cell? ⟨gA, 1, none⟩ = some (.slice A0_1 l0_1.length c0_1) := (blk_cell hbox 1).trans rfl; have HB1 := Aside0.mk hb; clear hbox hb hgA)
        go_at_call 11; refine (HX.out w1).mono ?_; rintro e w2 ⟨rfl, hb⟩
        have d0 := cell_keep hb d0
        have d1 := cell_keep hb d1
        have HB2 : Aside0 (Below w.heap.size w w2) := ⟨below_step HB1.out hb⟩
        clear hb HB1
        go_wp2_with fail
        go_at_call 12; refine (HSM.out _ HB2.out).mono ?_; rintro e w3 ⟨rfl, hb⟩
        have d0 := cell_keep (hb) d0
        have d1 := cell_keep (hb) d1
        have HB3 : Aside0 (Below w.heap.size w w3) := ⟨below_step HB2.out (hb)⟩
        clear hb HB2
        go_wp2_with fail
        go_at_call 16; refine (HMY.out _ HB3.out).mono ?_; rintro e w4 ⟨rfl, hb⟩
        have d0 := cell_keep (hb) d0
        have d1 := cell_keep (hb) d1
        have HB4 : Aside0 (Below w.heap.size w w4) := ⟨below_step HB3.out (hb)⟩
        clear hb HB3
        go_wp2_with fail
        go_ret
        exact ⟨rfl, HB4.out⟩
      have he1 : ((134217728 : Int) < a0_0) = False := eq_false he
      have hv := valid_made a0_0 l0_1 hm3 hm4 hm5
      have HMD := Aside0.mk (fun (W : World) (hb : Below w.heap.size w W) => gazetteerlaw14_Made.calls 400 a0_0 A0_1 c0_1 l0_1 a0_0 (l0_1.map mk) W (Kd.C_below hr0_1 hb) hc0_1 (made a0_0 l0_1 (by omega) 400 (by omega)))
      obtain ⟨L, hL⟩ : ∃ L : List S30, L = l0_1.map mk := ⟨_, rfl⟩
      rw [← hL] at hv HMD
      have HV := Aside0.mk hv
      have HE : Aside0 (1 ≤ a0_0 ∧ a0_0 ≤ 134217728) := ⟨⟨hm3.2.2, by omega⟩⟩
      clear hm2 hm3 hm4 hm5 hr0_1 hc0_1 he hL hv hl60
      go_enter Try.func7, Try.ntmps7
      go_wp2_with ((with_reducible refine gate_dst (N := 3) rfl ?_); refine box_event ?hg (N := 3) ?hd (cs := #[.int .i64 a0_0, .slice A0_1 l0_1.length c0_1]) (t := 24) ?hr ?_; (case hd => rfl); (case hg => rfl); (case hr => first | (go_simp; done) | (go_simp; rfl)); intro gA hgA w1 hbox hb; have d0 : w1.cell? ⟨gA, 0, none⟩ = some (.int .i64 a0_0) := (blk_cell hbox 0).trans rfl; have d1 : w1.cell? ⟨gA, 1, none⟩ = some (.slice A0_1 l0_1.length c0_1) := (blk_cell hbox 1).trans rfl; have HB1 := Aside0.mk hb; clear hbox hb hgA)
      go_at_call 11; refine (HX.out w1).mono ?_; rintro e w2 ⟨rfl, hb⟩
      have d0 := cell_keep hb d0
      have d1 := cell_keep hb d1
      have HB2 : Aside0 (Below w.heap.size w w2) := ⟨below_step HB1.out hb⟩
      clear hb HB1
      go_wp2_with fail
      go_at_call 12; refine (HSM.out _ HB2.out).mono ?_; rintro e w3 ⟨rfl, hb⟩
      have d0 := cell_keep (hb) d0
      have d1 := cell_keep (hb) d1
      have HB3 : Aside0 (Below w.heap.size w w3) := ⟨below_step HB2.out (hb)⟩
      clear hb HB2
      go_wp2_with fail
      go_at_call 16; refine (HMY.out _ HB3.out).mono ?_; rintro e w4 ⟨rfl, hb⟩
      have d0 := cell_keep (hb) d0
      have d1 := cell_keep (hb) d1
      have HB4 : Aside0 (Below w.heap.size w w4) := ⟨below_step HB3.out (hb)⟩
      clear hb HB3
      go_wp2_with fail
      go_at_call 14; refine (HMD.out _ HB4.out).mono ?_; rintro e w5 ⟨v1_, rfl, hr, hb⟩
      obtain ⟨AX, cX, rfl, hcX, _⟩ := Kd.R_reads hr
      have HRX := Aside0.mk ((Kd.R_reads' hr).2.2)
      have HCX := Aside0.mk hcX
      have HB5 : Aside0 (Below w.heap.size w w5) := ⟨below_step HB4.out hb⟩
      clear hb hr hcX HB4 d0 d1 HX HSM HMY HMD
      go_wp2_with fail
      obtain ⟨gX, hgX⟩ : ∃ g, g = w5.heap.size := ⟨_, rfl⟩
      obtain ⟨w6, hw6⟩ : ∃ W, W = w5.alloc (.cells #[.int .i64 a0_0, .slice AX L.length cX] 35) := ⟨_, rfl⟩
      have hb6 : Below w5.heap.size w5 w6 := by rw [hw6]; exact below_alloc (Below.refl _ _) _
      have HX6 : Aside0 (w6.heap[gX]? = some (.cells #[.int .i64 a0_0, .slice AX L.length cX] 35 (0, 0))) := ⟨by rw [hw6, hgX]; simpa using heap_alloc_new w5 _⟩
      rw [← hw6, ← hgX]
      clear hw6 hgX
      have HB6 : Aside0 (Below w.heap.size w w6) := ⟨below_step HB5.out hb6⟩
      have HRX : Aside0 (Kd.C k30 w6 AX L.length L) := ⟨Kd.C_below HRX.out hb6⟩
      clear hb6 HB5
      obtain ⟨r1, r2, r3, r4, hsp, hcase⟩ : ∃ (r1 : Int) (r2 : List S30) (r3 : List Int) (r4 : Int), atlas_Split.f 400 a0_0 L a1 = some (r1, r2, r3, r4) ∧ (r4 ≠ 0 ∨ (r4 = 0 ∧ ∃ (i : Nat) (L2 : List S30), r1 = a0_0 + 1 ∧ r3 = [(i : Int)] ∧ i < L.length ∧ atlas_Merge.f 400 (a0_0 + 1) r2 (i : Int) = some (a0_0 + 2, L2, [(i : Int), ((i + 1 : Nat) : Int)], 0) ∧ L2.length = L.length ∧
          (L2.getD i z30).f0 = (L.getD i z30).f0 ∧ (L2.getD i z30).f1 = (L.getD i z30).f1 ∧ (L2.getD i z30).f2 = a0_0 + 2 ∧ ∀ j, j ≠ i → L2.getD j z30 = L.getD j z30)) := by
        rcases back_split a0_0 L a1 400 (by omega) HV.out HE.out.2 with ⟨c, hc, hs⟩ | ⟨i, L1, L2, hi, hl1, hs, hm, hl2, q0, q1, q2, q3⟩
        · exact ⟨_, _, _, _, hs, .inl hc⟩
        · exact ⟨_, _, _, _, hs, .inr ⟨rfl, i, L2, rfl, rfl, hi, hm, hl2, q0, q1, q2, q3⟩⟩
      have HCASE := Aside0.mk hcase
      go_at_call 25; refine (atlas_Split.calls 400 a0_0 AX cX L a1 r1 r2 r3 r4 w6 HRX.out HCX.out hsp).mono ?_
      rintro e w7 ⟨v1, v2, rfl, hr1, hr2, hb⟩
      clear hsp hcase
      obtain ⟨AB, cB, rfl, hcB, _⟩ := Kd.R_reads hr1
      obtain ⟨AG, cG, rfl, hcG, _⟩ := Kd.R_reads hr2
      have HRB := Aside0.mk ((Kd.R_reads' hr1).2.2)
      have HRG := Aside0.mk ((Kd.R_reads' hr2).2.2)
      have HCB := Aside0.mk hcB
      have HB7 : Aside0 (Below w.heap.size w w7) := ⟨below_step HB6.out hb⟩
      have HX7 : Aside0 (w7.heap[gX]? = some (.cells #[.int .i64 a0_0, .slice AX L.length cX] 35 (0, 0))) := ⟨blk_below HX6.out hb⟩
      have HRX : Aside0 (Kd.C k30 w7 AX L.length L) := ⟨Kd.C_below HRX.out hb⟩
      clear hb hr1 hr2 hcB hcG HB6 HX6
      go_upto_region 7 with (fail)
      obtain ⟨gB, hgB⟩ : ∃ g, g = w7.heap.size := ⟨_, rfl⟩
      obtain ⟨w8, hw8⟩ : ∃ W, W = w7.alloc (.cells #[.int .i64 r1, .slice AB r2.length cB] 35) := ⟨_, rfl⟩
      have hb8 : Below w7.heap.size w7 w8 := by rw [hw8]; exact below_alloc (Below.refl _ _) _
      have HB8_ : Aside0 (w8.heap[gB]? = some (.cells #[.int .i64 r1, .slice AB r2.length cB] 35 (0, 0))) := ⟨by rw [hw8, hgB]; simpa using heap_alloc_new w7 _⟩
      rw [← hw8, ← hgB]
      clear hw8 hgB
      have HB8 : Aside0 (Below w.heap.size w w8) := ⟨below_step HB7.out hb8⟩
      have HX8 : Aside0 (w8.heap[gX]? = some (.cells #[.int .i64 a0_0, .slice AX L.length cX] 35 (0, 0))) := ⟨blk_below HX7.out hb8⟩
      have HRX : Aside0 (Kd.C k30 w8 AX L.length L) := ⟨Kd.C_below HRX.out hb8⟩
      have HRB : Aside0 (Kd.C k30 w8 AB r2.length r2) := ⟨Kd.C_below HRB.out hb8⟩
      have HRG : Aside0 (Kd.C (Kd.int .i64) w8 AG r3.length r3) := ⟨Kd.C_below HRG.out hb8⟩
      clear hb8 HB7 HX7
      rename_i K1 aK1 K2 aK2
      have tail : Aside0 (∀ (z : Nat → Value) (W : World), Below w8.heap.size w8 W → K1 { tmps := List.toArray (.agg #[.int .i64 a0_0, .slice A0_1 l0_1.length c0_1] :: .string a1 :: .int .u8 a2 :: .pointer (some ⟨gA, 0, none⟩) :: undef :: undef :: z 6 :: .pointer (some ⟨gX, 0, none⟩) :: .pointer (some ⟨gB, 0, none⟩) :: .slice AG r3.length cG :: .int .i64 r4 :: z 11 :: z 12 :: z 13 :: z 14 :: undef :: undef :: undef :: undef :: undef :: undef :: undef :: undef :: .bool true :: .bool false :: .agg #[.int .i64 a0_0, .slice A0_1 l0_1.length c0_1] :: .bool true :: .bool false :: .bool false :: .string a1 :: .int .i64 (a1.size : Int) :: .bool false :: .bool false :: .bool false :: .agg #[.int .i64 a0_0, .slice A0_1 l0_1.length c0_1] :: .bool true :: .bool false :: .bool false :: .bool false :: .pointer (some ⟨gA, 0, none⟩) :: .int .i64 a0_0 :: .bool false :: .bool false :: .agg #[.int .i64 a0_0, .slice A0_1 l0_1.length c0_1] :: .agg #[.int .i64 a0_0, .slice AX L.length cX] :: .tuple #[.agg #[.int .i64 r1, .slice AB r2.length cB], .slice AG r3.length cG, .int .i64 r4] :: .agg #[.int .i64 a0_0, .slice AX L.length cX] :: .string a1 :: .tuple #[.agg #[.int .i64 r1, .slice AB r2.length cB], .slice AG r3.length cG, .int .i64 r4] :: .agg #[.int .i64 r1, .slice AB r2.length cB] :: .slice AG r3.length cG :: .int .i64 r4 :: z 52 :: z 53 :: z 54 :: z 55 :: z 56 :: z 57 :: z 58 :: z 59 :: z 60 :: z 61 :: z 62 :: z 63 :: z 64 :: z 65 :: z 66 :: z 67 :: z 68 :: z 69 :: z 70 :: z 71 :: z 72 :: z 73 :: z 74 :: z 75 :: z 76 :: z 77 :: z 78 :: z 79 :: z 80 :: z 81 :: z 82 :: z 83 :: z 84 :: z 85 :: z 86 :: z 87 :: z 88 :: z 89 :: z 90 :: z 91 :: z 92 :: z 93 :: z 94 :: z 95 :: z 96 :: z 97 :: z 98 :: z 99 :: z 100 :: z 101 :: z 102 :: z 103 :: z 104 :: z 105 :: z 106 :: z 107 :: z 108 :: z 109 :: z 110 :: z 111 :: z 112 :: z 113 :: z 114 :: z 115 :: z 116 :: z 117 :: z 118 :: z 119 :: z 120 :: z 121 :: z 122 :: z 123 :: z 124 :: z 125 :: z 126 :: z 127 :: z 128 :: z 129 :: z 130 :: z 131 :: z 132 :: z 133 :: z 134 :: z 135 :: z 136 :: z 137 :: z 138 :: z 139 :: z 140 :: z 141 :: z 142 :: z 143 :: z 144 :: z 145 :: z 146 :: z 147 :: z 148 :: z 149 :: z 150 :: undef :: undef :: undef :: undef :: undef :: undef :: undef :: undef :: undef :: undef :: undef :: undef :: undef :: undef :: undef :: undef :: undef :: undef :: undef :: undef :: undef :: undef :: undef :: undef :: undef :: undef :: undef :: undef :: undef :: undef :: undef :: undef :: undef :: undef :: undef :: undef :: undef :: undef :: undef :: undef :: undef :: undef :: undef :: undef :: undef :: undef :: undef :: undef :: undef :: undef :: undef :: undef :: undef :: undef :: undef :: undef :: undef :: undef :: undef :: undef :: undef :: undef :: undef :: undef :: undef :: undef :: undef :: undef :: undef :: undef :: undef :: undef :: undef :: undef :: undef :: undef :: undef :: undef :: undef :: undef :: undef :: undef :: undef :: undef :: undef :: undef :: undef :: undef :: undef :: []), defers := [] } W) := ⟨by
        intro z W hbz
        have HX9 : Aside0 (W.heap[gX]? = some (.cells #[.int .i64 a0_0, .slice AX L.length cX] 35 (0, 0))) := ⟨blk_below HX8.out hbz⟩
        have HRX : Aside0 (Kd.C k30 W AX L.length L) := ⟨Kd.C_below HRX.out hbz⟩
        have HBt : Aside0 (Below w.heap.size w W) := ⟨below_step HB8.out hbz⟩
        have x0 : W.cell? ⟨gX, 0, none⟩ = some (.int .i64 a0_0) := (blk_cell HX9.out 0).trans rfl
        have x1 : W.cell? ⟨gX, 1, none⟩ = some (.slice AX L.length cX) := (blk_cell HX9.out 1).trans rfl
        clear hbz HRB HRG HB8_ HCASE
        obtain ⟨m, hm⟩ : ∃ m : Nat, (m : Int) = a2.tmod (L.length : Int) := ⟨(a2.tmod (L.length : Int)).toNat, by have := HA2.out; have := HV.out.1; have h1 : 0 ≤ a2.tmod (L.length : Int) := Int.tmod_nonneg _ HA2.out.1; omega⟩
        have hml : m < L.length := by have h0 := HA2.out; have h1 := HV.out.1; have h2 : a2.tmod (L.length : Int) < (L.length : Int) := (by rw [Int.tmod_eq_emod_of_nonneg h0.1]; exact Int.emod_lt_of_pos _ (by omega)); omega
        obtain ⟨n, M1, M2, g1, g2, hn, hn5, hv1, hv2, l1, l2, p1, p2, p3⟩ := back_move a0_0 L m 400 (by omega) HV.out HE.out.2 hml
        obtain ⟨adX, qX, ex0, ex1, ex2, ex3⟩ := at_T30 HRX.out (m : Int) (by omega) (by omega)
        subst qX
        obtain ⟨d, hd⟩ : ∃ d : S30, d = L.getD m z30 := ⟨_, rfl⟩
        have hrd : rd_T30 L (m : Int) = d := by rw [hd]; simp [rd_T30]
        rw [hrd, Int.toNat_natCast] at ex0 ex1 ex2 ex3
        rw [← hd] at hn hn5 hv2 p2 p3
        have hLe : (L = []) = False := eq_false (by have h1 := HV.out.1; intro e; rw [e] at h1; simp at h1)
        have hlen0 : ((L.length : Int) = 0) = False := eq_false (by have := HV.out.1; omega)
        have hm1 : a2.tmod (L.length : Int) = (m : Int) := hm.symm
        have hm2 : ((m : Int) < (L.length : Int)) = True := eq_true (by omega)
        have hm3 : ((0 : Int) ≤ (m : Int)) = True := eq_true (by omega)
        have hn1 : d.f1.tmod 5 = n - 1 := by rw [Int.tmod_eq_emod_of_nonneg (by omega)]; omega
        have hw1 : wrap64 (1 + (n - 1)) = n := by unfold wrap64; omega
        have hw2 : IntKind.i64.wrap (1 + (n - 1)) = n := by rw [i64_w]; exact hw1
        have hw3 : IntKind.i64.wrap a2 = a2 := by have := HA2.out; rw [i64_w]; unfold wrap64; omega
        have HN := Aside0.mk hn
        have HN5 := Aside0.mk hn5
        have HL1 := Aside0.mk l1
        have HL2' := Aside0.mk l2
        have P1 := Aside0.mk p1
        have P2 := Aside0.mk p2
        have P3 := Aside0.mk p3
        have HV1 := Aside0.mk hv1
        have HV2 := Aside0.mk hv2
        have HML := Aside0.mk hml
        have HRD := Aside0.mk hrd
        clear hn hn5 l1 l2 p1 p2 p3 hv1 hv2 hml hm hd hrd
        refine aK1 _ _ ?_
        go_wp2_with fail
        go_at_call 27; refine (atlas_Move.calls 400 a0_0 (some adX) cX L (m : Int) n 5 (a0_0 + 1) M1 g1 0 W HRX.out HCX.out HV1.out).mono ?_
        rintro e w10 ⟨v1, v2, rfl, hr1, hr2, hb⟩
        obtain ⟨AM, cM, rfl, hcM, _⟩ := Kd.R_reads hr1
        obtain ⟨AN, cN, rfl, _, _⟩ := Kd.R_reads hr2
        have HRM := Aside0.mk ((Kd.R_reads' hr1).2.2)
        have HCM := Aside0.mk hcM
        have HX10 : Aside0 (w10.heap[gX]? = some (.cells #[.int .i64 a0_0, .slice (some adX) L.length cX] 35 (0, 0))) := ⟨blk_below HX9.out hb⟩
        have HRX : Aside0 (Kd.C k30 w10 (some adX) L.length L) := ⟨Kd.C_below HRX.out hb⟩
        have HB10 : Aside0 (Below w.heap.size w w10) := ⟨below_step HBt.out hb⟩
        clear hb hr1 hr2 hcM HX9 HBt x0 x1 ex0 ex1 ex2 ex3
        go_wp2_with fail
        obtain ⟨gM, hgM⟩ : ∃ g, g = w10.heap.size := ⟨_, rfl⟩
        obtain ⟨w11, hw11⟩ : ∃ W, W = w10.alloc (.cells #[.int .i64 (a0_0 + 1), .slice AM M1.length cM] 35) := ⟨_, rfl⟩
        have hb11 : Below w10.heap.size w10 w11 := by rw [hw11]; exact below_alloc (Below.refl _ _) _
        have HGM : Aside0 (w11.heap[gM]? = some (.cells #[.int .i64 (a0_0 + 1), .slice AM M1.length cM] 35 (0, 0))) := ⟨by rw [hw11, hgM]; simpa using heap_alloc_new w10 _⟩
        rw [← hw11, ← hgM]
        clear hw11 hgM
        have HX11 : Aside0 (w11.heap[gX]? = some (.cells #[.int .i64 a0_0, .slice (some adX) L.length cX] 35 (0, 0))) := ⟨blk_below HX10.out hb11⟩
        have HRX : Aside0 (Kd.C k30 w11 (some adX) L.length L) := ⟨Kd.C_below HRX.out hb11⟩
        have HRM : Aside0 (Kd.C k30 w11 AM M1.length M1) := ⟨Kd.C_below HRM.out hb11⟩
        have HB11 : Aside0 (Below w.heap.size w w11) := ⟨below_step HB10.out hb11⟩
        have HMV := Aside0.mk (fun (U : World) (hb : Below w11.heap.size w11 U) => atlas_Move.calls 400 (a0_0 + 1) AM cM M1 (m : Int) d.f1 5 (a0_0 + 2) M2 g2 0 U (Kd.C_below HRM.out hb) HCM.out HV2.out)
        have X0 : Aside0 (w11.cell? ⟨gX, 0, none⟩ = some (.int .i64 a0_0)) := ⟨(blk_cell HX11.out 0).trans rfl⟩
        have X1 : Aside0 (w11.cell? ⟨gX, 1, none⟩ = some (.slice (some adX) L.length cX)) := ⟨(blk_cell HX11.out 1).trans rfl⟩
        have M0c : Aside0 (w11.cell? ⟨gM, 0, none⟩ = some (.int .i64 (a0_0 + 1))) := ⟨(blk_cell HGM.out 0).trans rfl⟩
        have M1c : Aside0 (w11.cell? ⟨gM, 1, none⟩ = some (.slice AM M1.length cM)) := ⟨(blk_cell HGM.out 1).trans rfl⟩
        have EX : Aside0 (w11.cell? (adX.add (m * 4)) = some (.string d.f0.f0) ∧ w11.cell? ⟨(adX.add (m * 4)).block, (adX.add (m * 4)).off + 1, none⟩ = some (.string d.f0.f1) ∧ w11.cell? ⟨(adX.add (m * 4)).block, (adX.add (m * 4)).off + 2, none⟩ = some (.int .i64 d.f1) ∧ w11.cell? ⟨(adX.add (m * 4)).block, (adX.add (m * 4)).off + 3, none⟩ = some (.int .i64 d.f2)) := ⟨by
          obtain ⟨ad', q', h0, h1, h2, h3⟩ := at_T30 HRX.out (m : Int) (by omega) (by have := HML.out; omega)
          injection q' with q'
          subst q'
          rw [HRD.out, Int.toNat_natCast] at h0 h1 h2 h3
          exact ⟨h0, h1, h2, h3⟩⟩
        have HRMk := HRM
        clear hb11 HB10 HX10 HRM HCM
        refine wp_region_steps 17 rfl rfl (by kernel_rfl) (fun LL a wx => ∃ AC : Option Addr, ∃ cC : Nat, ∃ AH : Option Addr, ∃ cH : Nat, ∃ T54 : Value, ∃ P60 : Value, ∃ Q61 : Value, ∃ Q12 : Value, ∃ g11 : Nat, ∃ tb : Nat → Value, Aside0 (a = { tmps := List.toArray (.agg #[.int .i64 a0_0, .slice A0_1 l0_1.length c0_1] :: .string a1 :: .int .u8 a2 :: .pointer (some ⟨gA, 0, none⟩) :: undef :: undef :: z 6 :: .pointer (some ⟨gX, 0, none⟩) :: .pointer (some ⟨gB, 0, none⟩) :: .slice AG r3.length cG :: .int .i64 r4 :: z 11 :: z 12 :: z 13 :: z 14 :: .int .i64 (m : Int) :: .int .i64 n :: .pointer (some ⟨gM, 0, none⟩) :: .slice AN g1.length cN :: .int .i64 0 :: tb 20 :: tb 21 :: tb 22 :: .bool true :: .bool false :: .agg #[.int .i64 a0_0, .slice A0_1 l0_1.length c0_1] :: .bool true :: .bool false :: .bool false :: .string a1 :: .int .i64 (a1.size : Int) :: .bool false :: .bool false :: .bool false :: .agg #[.int .i64 a0_0, .slice A0_1 l0_1.length c0_1] :: .bool true :: .bool false :: .bool false :: .bool false :: .pointer (some ⟨gA, 0, none⟩) :: .int .i64 a0_0 :: .bool false :: .bool false :: .agg #[.int .i64 a0_0, .slice A0_1 l0_1.length c0_1] :: .agg #[.int .i64 a0_0, .slice (some adX) L.length cX] :: .tuple #[.agg #[.int .i64 r1, .slice AB r2.length cB], .slice AG r3.length cG, .int .i64 r4] :: .agg #[.int .i64 a0_0, .slice (some adX) L.length cX] :: .string a1 :: .tuple #[.agg #[.int .i64 r1, .slice AB r2.length cB], .slice AG r3.length cG, .int .i64 r4] :: .agg #[.int .i64 r1, .slice AB r2.length cB] :: .slice AG r3.length cG :: .int .i64 r4 :: z 52 :: z 53 :: z 54 :: z 55 :: z 56 :: z 57 :: z 58 :: z 59 :: z 60 :: z 61 :: z 62 :: z 63 :: z 64 :: z 65 :: z 66 :: z 67 :: z 68 :: z 69 :: z 70 :: z 71 :: z 72 :: z 73 :: z 74 :: z 75 :: z 76 :: z 77 :: z 78 :: z 79 :: z 80 :: z 81 :: z 82 :: z 83 :: z 84 :: z 85 :: z 86 :: z 87 :: z 88 :: z 89 :: z 90 :: z 91 :: z 92 :: z 93 :: z 94 :: z 95 :: z 96 :: z 97 :: z 98 :: z 99 :: z 100 :: z 101 :: z 102 :: z 103 :: z 104 :: z 105 :: z 106 :: z 107 :: z 108 :: z 109 :: z 110 :: z 111 :: z 112 :: z 113 :: z 114 :: z 115 :: z 116 :: z 117 :: z 118 :: z 119 :: z 120 :: z 121 :: z 122 :: z 123 :: z 124 :: z 125 :: z 126 :: z 127 :: z 128 :: z 129 :: z 130 :: z 131 :: z 132 :: z 133 :: z 134 :: z 135 :: z 136 :: z 137 :: z 138 :: z 139 :: z 140 :: z 141 :: z 142 :: z 143 :: z 144 :: z 145 :: z 146 :: z 147 :: z 148 :: z 149 :: z 150 :: .int .u8 a2 :: .int .i64 a2 :: .pointer (some ⟨gX, 1, none⟩) :: .slice (some adX) L.length cX :: .int .i64 (L.length : Int) :: .int .i64 (m : Int) :: .pointer (some ⟨gX, 1, none⟩) :: .slice (some adX) L.length cX :: .int .i64 (m : Int) :: .pointer (some (adX.add (m * 4))) :: .pointer (some { block := (adX.add (m * 4)).block, off := (adX.add (m * 4)).off + 2 }) :: .int .i64 d.f1 :: .int .i64 (n - 1) :: .int .i64 n :: .tuple #[.agg #[.int .i64 (a0_0 + 1), .slice AM M1.length cM], .slice AN g1.length cN, .int .i64 0] :: .agg #[.int .i64 a0_0, .slice (some adX) L.length cX] :: .int .i64 (m : Int) :: .int .i64 n :: .tuple #[.agg #[.int .i64 (a0_0 + 1), .slice AM M1.length cM], .slice AN g1.length cN, .int .i64 0] :: .agg #[.int .i64 (a0_0 + 1), .slice AM M1.length cM] :: .slice AN g1.length cN :: .int .i64 0 :: tb 173 :: tb 174 :: tb 175 :: tb 176 :: tb 177 :: tb 178 :: tb 179 :: tb 180 :: tb 181 :: tb 182 :: tb 183 :: tb 184 :: tb 185 :: undef :: undef :: undef :: undef :: undef :: undef :: undef :: undef :: undef :: undef :: undef :: undef :: undef :: undef :: undef :: undef :: undef :: undef :: undef :: undef :: undef :: undef :: undef :: undef :: undef :: undef :: undef :: undef :: undef :: undef :: undef :: undef :: undef :: undef :: undef :: undef :: undef :: undef :: undef :: undef :: undef :: undef :: undef :: undef :: undef :: undef :: undef :: undef :: undef :: undef :: undef :: undef :: undef :: undef :: []), defers := [] } ∧ Tab LL tb [(0, 174, .agg #[.int .i64 (a0_0 + 1), .slice AM M1.length cM]), (1, 175, .int .i64 (m : Int)), (2, 176, .pointer (some ⟨gX, 1, none⟩)), (3, 177, .slice (some adX) L.length cX), (4, 178, .int .i64 (m : Int)), (5, 179, .pointer (some (adX.add (m * 4)))), (6, 180, .pointer (some ⟨(adX.add (m * 4)).block, (adX.add (m * 4)).off + 2, none⟩)), (7, 181, .int .i64 d.f1), (8, 182, .tuple #[.agg #[.int .i64 (a0_0 + 2), .slice AC M2.length cC], .slice AH g2.length cH, .int .i64 0]), (9, 173, T54), (10, 183, P60), (11, 184, Q61), (12, 185, .int .i64 0), (13, 20, .pointer (some ⟨g11, 0, none⟩)), (15, 21, Q12), (16, 22, .int .i64 0)] ∧ Aside0 (Below w11.heap.size w11 wx) ∧ Aside0 (LL 8 = true → Kd.R k30 30 wx w11.heap.size (fun _ => True) (.slice AC M2.length cC) M2) ∧ Aside0 (LL 8 = true → Kd.R (Kd.int .i64) 3 wx w11.heap.size (fun _ => True) (.slice AH g2.length cH) g2) ∧ Aside0 (LL 9 = true → LL 8 = true ∧ T54 = .tuple #[.agg #[.int .i64 (a0_0 + 2), .slice AC M2.length cC], .slice AH g2.length cH, .int .i64 0]) ∧ Aside0 (LL 10 = true → LL 9 = true ∧ P60 = .agg #[.int .i64 (a0_0 + 2), .slice AC M2.length cC]) ∧ Aside0 (LL 11 = true → LL 9 = true ∧ Q61 = .slice AH g2.length cH) ∧ Aside0 (LL 15 = true → LL 11 = true ∧ Q12 = Q61) ∧ Aside0 (LL 13 = true → RowAt w11.heap.size wx g11 (LL 14) #[.int .i64 (a0_0 + 2), .slice AC M2.length cC] #[.int .i64 0, .slice none 0 0] 35) ∧ Aside0 (LL 14 = true → LL 10 = true ∧ LL 13 = true))) ?_ ?_ ?_
        · exact ⟨none, 0, none, 0, undef, undef, undef, undef, 0, (put1 (put1 (put1 (fun _ => undef) 20 (undef)) 21 (undef)) 22 (undef)), ⟨rfl, Tab.start 17 rfl rfl, ⟨below_drew (Below.refl _ _)⟩, ⟨fun h => absurd h (by decide)⟩, ⟨fun h => absurd h (by decide)⟩, ⟨fun h => absurd h (by decide)⟩, ⟨fun h => absurd h (by decide)⟩, ⟨fun h => absurd h (by decide)⟩, ⟨fun h => absurd h (by decide)⟩, ⟨fun h => absurd h (by decide)⟩, ⟨fun h => absurd h (by decide)⟩⟩⟩
        · refine Steps.cons ?_ (Steps.cons ?_ (Steps.cons ?_ (Steps.cons ?_ (Steps.cons ?_ (Steps.cons ?_ (Steps.cons ?_ (Steps.cons ?_ (Steps.cons ?_ (Steps.cons ?_ (Steps.cons ?_ (Steps.cons ?_ (Steps.cons ?_ (Steps.cons ?_ (Steps.cons ?_ (Steps.cons ?_ (Steps.cons ?_ (Steps.nil)))))))))))))))))
          · intro LL a wx hI hLk hd K' hK
            obtain ⟨AC, cC, AH, cH, T54, P60, Q61, Q12, g11, tb, hI⟩ := hI
            obtain rfl := hI.out.1
            have hb := hI.out.2.2.1
            have b0 := cell_keep hb.out M0c.out
            have b1 := cell_keep hb.out M1c.out
            rw [if_pos (by rfl)]
            go_simp
            exact hK.out _ _ ⟨AC, cC, AH, cH, T54, P60, Q61, Q12, g11, (put1 tb 174 (.agg #[.int .i64 (a0_0 + 1), .slice AM M1.length cM])), ⟨rfl, hI.out.2.1.upd 0 rfl rfl rfl rfl, hI.out.2.2.1, hI.out.2.2.2.1, hI.out.2.2.2.2.1, hI.out.2.2.2.2.2.1, hI.out.2.2.2.2.2.2.1, hI.out.2.2.2.2.2.2.2.1, hI.out.2.2.2.2.2.2.2.2.1, hI.out.2.2.2.2.2.2.2.2.2.1, hI.out.2.2.2.2.2.2.2.2.2.2⟩⟩
          · intro LL a wx hI hLk hd K' hK
            obtain ⟨AC, cC, AH, cH, T54, P60, Q61, Q12, g11, tb, hI⟩ := hI
            obtain rfl := hI.out.1
            rw [if_pos (by rfl)]
            go_simp
            exact hK.out _ _ ⟨AC, cC, AH, cH, T54, P60, Q61, Q12, g11, (put1 tb 175 (.int .i64 (m : Int))), ⟨rfl, hI.out.2.1.upd 1 rfl rfl rfl rfl, hI.out.2.2.1, hI.out.2.2.2.1, hI.out.2.2.2.2.1, hI.out.2.2.2.2.2.1, hI.out.2.2.2.2.2.2.1, hI.out.2.2.2.2.2.2.2.1, hI.out.2.2.2.2.2.2.2.2.1, hI.out.2.2.2.2.2.2.2.2.2.1, hI.out.2.2.2.2.2.2.2.2.2.2⟩⟩
          · intro LL a wx hI hLk hd K' hK
            obtain ⟨AC, cC, AH, cH, T54, P60, Q61, Q12, g11, tb, hI⟩ := hI
            obtain rfl := hI.out.1
            rw [if_pos (by rfl)]
            go_simp
            exact hK.out _ _ ⟨AC, cC, AH, cH, T54, P60, Q61, Q12, g11, (put1 tb 176 (.pointer (some ⟨gX, 1, none⟩))), ⟨rfl, hI.out.2.1.upd 2 rfl rfl rfl rfl, hI.out.2.2.1, hI.out.2.2.2.1, hI.out.2.2.2.2.1, hI.out.2.2.2.2.2.1, hI.out.2.2.2.2.2.2.1, hI.out.2.2.2.2.2.2.2.1, hI.out.2.2.2.2.2.2.2.2.1, hI.out.2.2.2.2.2.2.2.2.2.1, hI.out.2.2.2.2.2.2.2.2.2.2⟩⟩
          · intro LL a wx hI hLk hd K' hK
            obtain ⟨AC, cC, AH, cH, T54, P60, Q61, Q12, g11, tb, hI⟩ := hI
            obtain rfl := hI.out.1
            have e2 := hI.out.2.1.at 2 rfl (hd 2 rfl)
            have hb := hI.out.2.2.1
            have b1 := cell_keep hb.out X1.out
            rw [if_pos (by rfl)]
            go_simp
            exact hK.out _ _ ⟨AC, cC, AH, cH, T54, P60, Q61, Q12, g11, (put1 (put1 tb 176 (.pointer (some ⟨gX, 1, none⟩))) 177 (.slice (some adX) L.length cX)), ⟨rfl, (hI.out.2.1.same (s := 176) (v := .pointer (some ⟨gX, 1, none⟩)) e2).upd 3 rfl rfl rfl rfl, hI.out.2.2.1, hI.out.2.2.2.1, hI.out.2.2.2.2.1, hI.out.2.2.2.2.2.1, hI.out.2.2.2.2.2.2.1, hI.out.2.2.2.2.2.2.2.1, hI.out.2.2.2.2.2.2.2.2.1, hI.out.2.2.2.2.2.2.2.2.2.1, hI.out.2.2.2.2.2.2.2.2.2.2⟩⟩
          · intro LL a wx hI hLk hd K' hK
            obtain ⟨AC, cC, AH, cH, T54, P60, Q61, Q12, g11, tb, hI⟩ := hI
            obtain rfl := hI.out.1
            rw [if_pos (by rfl)]
            go_simp
            exact hK.out _ _ ⟨AC, cC, AH, cH, T54, P60, Q61, Q12, g11, (put1 tb 178 (.int .i64 (m : Int))), ⟨rfl, hI.out.2.1.upd 4 rfl rfl rfl rfl, hI.out.2.2.1, hI.out.2.2.2.1, hI.out.2.2.2.2.1, hI.out.2.2.2.2.2.1, hI.out.2.2.2.2.2.2.1, hI.out.2.2.2.2.2.2.2.1, hI.out.2.2.2.2.2.2.2.2.1, hI.out.2.2.2.2.2.2.2.2.2.1, hI.out.2.2.2.2.2.2.2.2.2.2⟩⟩
          · intro LL a wx hI hLk hd K' hK
            obtain ⟨AC, cC, AH, cH, T54, P60, Q61, Q12, g11, tb, hI⟩ := hI
            obtain rfl := hI.out.1
            have e3 := hI.out.2.1.at 3 rfl (hd 3 rfl)
            have e4 := hI.out.2.1.at 4 rfl (hd 4 rfl)
            rw [if_pos (by rfl)]
            go_simp
            exact hK.out _ _ ⟨AC, cC, AH, cH, T54, P60, Q61, Q12, g11, (put1 (put1 (put1 tb 177 (.slice (some adX) L.length cX)) 178 (.int .i64 (m : Int))) 179 (.pointer (some (adX.add (m * 4))))), ⟨rfl, ((hI.out.2.1.same (s := 177) (v := .slice (some adX) L.length cX) e3).same (s := 178) (v := .int .i64 (m : Int)) e4).upd 5 rfl rfl rfl rfl, hI.out.2.2.1, hI.out.2.2.2.1, hI.out.2.2.2.2.1, hI.out.2.2.2.2.2.1, hI.out.2.2.2.2.2.2.1, hI.out.2.2.2.2.2.2.2.1, hI.out.2.2.2.2.2.2.2.2.1, hI.out.2.2.2.2.2.2.2.2.2.1, hI.out.2.2.2.2.2.2.2.2.2.2⟩⟩
          · intro LL a wx hI hLk hd K' hK
            obtain ⟨AC, cC, AH, cH, T54, P60, Q61, Q12, g11, tb, hI⟩ := hI
            obtain rfl := hI.out.1
            have e5 := hI.out.2.1.at 5 rfl (hd 5 rfl)
            rw [if_pos (by rfl)]
            go_simp
            exact hK.out _ _ ⟨AC, cC, AH, cH, T54, P60, Q61, Q12, g11, (put1 (put1 tb 179 (.pointer (some (adX.add (m * 4))))) 180 (.pointer (some ⟨(adX.add (m * 4)).block, (adX.add (m * 4)).off + 2, none⟩))), ⟨rfl, (hI.out.2.1.same (s := 179) (v := .pointer (some (adX.add (m * 4)))) e5).upd 6 rfl rfl rfl rfl, hI.out.2.2.1, hI.out.2.2.2.1, hI.out.2.2.2.2.1, hI.out.2.2.2.2.2.1, hI.out.2.2.2.2.2.2.1, hI.out.2.2.2.2.2.2.2.1, hI.out.2.2.2.2.2.2.2.2.1, hI.out.2.2.2.2.2.2.2.2.2.1, hI.out.2.2.2.2.2.2.2.2.2.2⟩⟩
          · intro LL a wx hI hLk hd K' hK
            obtain ⟨AC, cC, AH, cH, T54, P60, Q61, Q12, g11, tb, hI⟩ := hI
            obtain rfl := hI.out.1
            have e6 := hI.out.2.1.at 6 rfl (hd 6 rfl)
            have hb := hI.out.2.2.1
            have b1 := cell_keep hb.out EX.out.2.2.1
            rw [if_pos (by rfl)]
            go_simp
            exact hK.out _ _ ⟨AC, cC, AH, cH, T54, P60, Q61, Q12, g11, (put1 (put1 tb 180 (.pointer (some ⟨(adX.add (m * 4)).block, (adX.add (m * 4)).off + 2, none⟩))) 181 (.int .i64 d.f1)), ⟨rfl, (hI.out.2.1.same (s := 180) (v := .pointer (some ⟨(adX.add (m * 4)).block, (adX.add (m * 4)).off + 2, none⟩)) e6).upd 7 rfl rfl rfl rfl, hI.out.2.2.1, hI.out.2.2.2.1, hI.out.2.2.2.2.1, hI.out.2.2.2.2.2.1, hI.out.2.2.2.2.2.2.1, hI.out.2.2.2.2.2.2.2.1, hI.out.2.2.2.2.2.2.2.2.1, hI.out.2.2.2.2.2.2.2.2.2.1, hI.out.2.2.2.2.2.2.2.2.2.2⟩⟩
          · intro LL a wx hI hLk hd K' hK
            obtain ⟨AC, cC, AH, cH, T54, P60, Q61, Q12, g11, tb, hI⟩ := hI
            obtain rfl := hI.out.1
            have e0 := hI.out.2.1.at 0 rfl (hd 0 rfl)
            have e1 := hI.out.2.1.at 1 rfl (hd 1 rfl)
            have e7 := hI.out.2.1.at 7 rfl (hd 7 rfl)
            have hb := hI.out.2.2.1
            have l5 := hI.out.2.2.2.2.2.1
            have l6 := hI.out.2.2.2.2.2.2.1
            have l7 := hI.out.2.2.2.2.2.2.2.1
            have h9 := hI.out.2.2.2.2.2.2.2.2.2.1
            have z10 := hI.out.2.2.2.2.2.2.2.2.2.2
            rw [if_pos (by rfl)]
            go_simp
            go_at_call 27
            refine (HMV.out wx hb.out).mono ?_
            rintro e w' ⟨v1, v2, rfl, hr1, hr2, hb1⟩
            obtain ⟨AC', cC', rfl, hcC', _⟩ := Kd.R_reads hr1
            obtain ⟨AH', cH', rfl, _, _⟩ := Kd.R_reads hr2
            exact hK.out _ _ ⟨AC', cC', AH', cH', T54, P60, Q61, Q12, g11, (put1 (put1 (put1 (put1 tb 174 (.agg #[.int .i64 (a0_0 + 1), .slice AM M1.length cM])) 175 (.int .i64 (m : Int))) 181 (.int .i64 d.f1)) 182 (.tuple #[.agg #[.int .i64 (a0_0 + 2), .slice AC' M2.length cC'], .slice AH' g2.length cH', .int .i64 0])), ⟨rfl, (((hI.out.2.1.same (s := 174) (v := .agg #[.int .i64 (a0_0 + 1), .slice AM M1.length cM]) e0).same (s := 175) (v := .int .i64 (m : Int)) e1).same (s := 181) (v := .int .i64 d.f1) e7).upd 8 rfl rfl rfl rfl, ⟨below_step hb.out hb1⟩, ⟨fun _ => Kd.R_lower hr1 hb.out.size⟩, ⟨fun _ => Kd.R_lower hr2 hb.out.size⟩, ⟨fun h => absurd (l5.out h).1 (by rw [hLk]; decide)⟩, ⟨fun h => absurd (l5.out (l6.out h).1).1 (by rw [hLk]; decide)⟩, ⟨fun h => absurd (l5.out (l7.out h).1).1 (by rw [hLk]; decide)⟩, hI.out.2.2.2.2.2.2.2.2.1, ⟨fun h => RowAt.swap ((h9.out h).below hb1) (flag_off (fun h => (l5.out (l6.out (z10.out h).1).1).1) hLk)⟩, hI.out.2.2.2.2.2.2.2.2.2.2⟩⟩
          · intro LL a wx hI hLk hd K' hK
            obtain ⟨AC, cC, AH, cH, T54, P60, Q61, Q12, g11, tb, hI⟩ := hI
            obtain rfl := hI.out.1
            have e8 := hI.out.2.1.at 8 rfl (hd 8 rfl)
            have l6 := hI.out.2.2.2.2.2.2.1
            have l7 := hI.out.2.2.2.2.2.2.2.1
            rw [if_pos (by rfl)]
            go_simp
            exact hK.out _ _ ⟨AC, cC, AH, cH, .tuple #[.agg #[.int .i64 (a0_0 + 2), .slice AC M2.length cC], .slice AH g2.length cH, .int .i64 0], P60, Q61, Q12, g11, (put1 (put1 tb 182 (.tuple #[.agg #[.int .i64 (a0_0 + 2), .slice AC M2.length cC], .slice AH g2.length cH, .int .i64 0])) 173 (.tuple #[.agg #[.int .i64 (a0_0 + 2), .slice AC M2.length cC], .slice AH g2.length cH, .int .i64 0])), ⟨rfl, (hI.out.2.1.same (s := 182) (v := .tuple #[.agg #[.int .i64 (a0_0 + 2), .slice AC M2.length cC], .slice AH g2.length cH, .int .i64 0]) e8).upd 9 rfl rfl rfl rfl, hI.out.2.2.1, hI.out.2.2.2.1, hI.out.2.2.2.2.1, ⟨fun _ => ⟨upd_old (hd 8 rfl), rfl⟩⟩, ⟨fun h => ⟨upd_old (l6.out h).1, (l6.out h).2⟩⟩, ⟨fun h => ⟨upd_old (l7.out h).1, (l7.out h).2⟩⟩, hI.out.2.2.2.2.2.2.2.2.1, hI.out.2.2.2.2.2.2.2.2.2.1, hI.out.2.2.2.2.2.2.2.2.2.2⟩⟩
          · intro LL a wx hI hLk hd K' hK
            obtain ⟨AC, cC, AH, cH, T54, P60, Q61, Q12, g11, tb, hI⟩ := hI
            obtain rfl := hI.out.1
            have l5 := hI.out.2.2.2.2.2.1
            have z10 := hI.out.2.2.2.2.2.2.2.2.2.2
            have e5' := (hI.out.2.1.at 9 rfl (hd 9 rfl)).trans (l5.out (hd 9 rfl)).2
            rw [if_pos (by rfl)]
            go_simp
            exact hK.out _ _ ⟨AC, cC, AH, cH, T54, .agg #[.int .i64 (a0_0 + 2), .slice AC M2.length cC], Q61, Q12, g11, (put1 (put1 tb 173 (.tuple #[.agg #[.int .i64 (a0_0 + 2), .slice AC M2.length cC], .slice AH g2.length cH, .int .i64 0])) 183 (.agg #[.int .i64 (a0_0 + 2), .slice AC M2.length cC])), ⟨rfl, (hI.out.2.1.same (s := 173) (v := .tuple #[.agg #[.int .i64 (a0_0 + 2), .slice AC M2.length cC], .slice AH g2.length cH, .int .i64 0]) e5').upd 10 rfl rfl rfl rfl, hI.out.2.2.1, hI.out.2.2.2.1, hI.out.2.2.2.2.1, hI.out.2.2.2.2.2.1, ⟨fun _ => ⟨upd_old (hd 9 rfl), rfl⟩⟩, hI.out.2.2.2.2.2.2.2.1, hI.out.2.2.2.2.2.2.2.2.1, hI.out.2.2.2.2.2.2.2.2.2.1, ⟨fun h => ⟨upd_old (z10.out h).1, upd_old (z10.out h).2⟩⟩⟩⟩
          · intro LL a wx hI hLk hd K' hK
            obtain ⟨AC, cC, AH, cH, T54, P60, Q61, Q12, g11, tb, hI⟩ := hI
            obtain rfl := hI.out.1
            have l5 := hI.out.2.2.2.2.2.1
            have l11 := hI.out.2.2.2.2.2.2.2.2.1
            have e5' := (hI.out.2.1.at 9 rfl (hd 9 rfl)).trans (l5.out (hd 9 rfl)).2
            rw [if_pos (by rfl)]
            go_simp
            exact hK.out _ _ ⟨AC, cC, AH, cH, T54, P60, .slice AH g2.length cH, Q12, g11, (put1 (put1 tb 173 (.tuple #[.agg #[.int .i64 (a0_0 + 2), .slice AC M2.length cC], .slice AH g2.length cH, .int .i64 0])) 184 (.slice AH g2.length cH)), ⟨rfl, (hI.out.2.1.same (s := 173) (v := .tuple #[.agg #[.int .i64 (a0_0 + 2), .slice AC M2.length cC], .slice AH g2.length cH, .int .i64 0]) e5').upd 11 rfl rfl rfl rfl, hI.out.2.2.1, hI.out.2.2.2.1, hI.out.2.2.2.2.1, hI.out.2.2.2.2.2.1, hI.out.2.2.2.2.2.2.1, ⟨fun _ => ⟨upd_old (hd 9 rfl), rfl⟩⟩, ⟨fun h => absurd (l11.out h).1 (by rw [hLk]; decide)⟩, hI.out.2.2.2.2.2.2.2.2.2.1, hI.out.2.2.2.2.2.2.2.2.2.2⟩⟩
          · intro LL a wx hI hLk hd K' hK
            obtain ⟨AC, cC, AH, cH, T54, P60, Q61, Q12, g11, tb, hI⟩ := hI
            obtain rfl := hI.out.1
            have l5 := hI.out.2.2.2.2.2.1
            have e5' := (hI.out.2.1.at 9 rfl (hd 9 rfl)).trans (l5.out (hd 9 rfl)).2
            rw [if_pos (by rfl)]
            go_simp
            exact hK.out _ _ ⟨AC, cC, AH, cH, T54, P60, Q61, Q12, g11, (put1 (put1 tb 173 (.tuple #[.agg #[.int .i64 (a0_0 + 2), .slice AC M2.length cC], .slice AH g2.length cH, .int .i64 0])) 185 (.int .i64 0)), ⟨rfl, (hI.out.2.1.same (s := 173) (v := .tuple #[.agg #[.int .i64 (a0_0 + 2), .slice AC M2.length cC], .slice AH g2.length cH, .int .i64 0]) e5').upd 12 rfl rfl rfl rfl, hI.out.2.2.1, hI.out.2.2.2.1, hI.out.2.2.2.2.1, hI.out.2.2.2.2.2.1, hI.out.2.2.2.2.2.2.1, hI.out.2.2.2.2.2.2.2.1, hI.out.2.2.2.2.2.2.2.2.1, hI.out.2.2.2.2.2.2.2.2.2.1, hI.out.2.2.2.2.2.2.2.2.2.2⟩⟩
          · intro LL a wx hI hLk hd K' hK
            obtain ⟨AC, cC, AH, cH, T54, P60, Q61, Q12, g11, tb, hI⟩ := hI
            obtain rfl := hI.out.1
            have hb := hI.out.2.2.1
            have hC := hI.out.2.2.2.1
            have hH := hI.out.2.2.2.2.1
            have z10 := hI.out.2.2.2.2.2.2.2.2.2.2
            rw [if_pos (by rfl)]
            go_simp
            exact hK.out _ _ ⟨AC, cC, AH, cH, T54, P60, Q61, Q12, wx.heap.size, (put1 tb 20 (.pointer (some ⟨wx.heap.size, 0, none⟩))), ⟨rfl, hI.out.2.1.upd 13 rfl rfl rfl rfl, ⟨below_alloc hb.out _⟩, ⟨fun h => Kd.R_alloc (hC.out h) _⟩, ⟨fun h => Kd.R_alloc (hH.out h) _⟩, hI.out.2.2.2.2.2.1, hI.out.2.2.2.2.2.2.1, hI.out.2.2.2.2.2.2.2.1, hI.out.2.2.2.2.2.2.2.2.1, ⟨fun _ => RowAt.new _ _ _ (flag_off (fun h => (z10.out h).2) hLk) hb.out.size⟩, ⟨fun h => ⟨upd_old (z10.out h).1, upd_old (z10.out h).2⟩⟩⟩⟩
          · intro LL a wx hI hLk hd K' hK
            obtain ⟨AC, cC, AH, cH, T54, P60, Q61, Q12, g11, tb, hI⟩ := hI
            obtain rfl := hI.out.1
            have e13 := hI.out.2.1.at 13 rfl (hd 13 rfl)
            have hb := hI.out.2.2.1
            have hC := hI.out.2.2.2.1
            have hH := hI.out.2.2.2.2.1
            have l6 := hI.out.2.2.2.2.2.2.1
            have h9 := hI.out.2.2.2.2.2.2.2.2.2.1
            have e6' := (hI.out.2.1.at 10 rfl (hd 10 rfl)).trans (l6.out (hd 10 rfl)).2
            have r := h9.out (hd 13 rfl)
            have rv := r.void hLk
            have f0 := blk_frozen rv 0
            have f1 := blk_frozen rv 1
            have c0 := blk_cell rv 0
            have c1 := blk_cell rv 1
            rw [if_pos (by rfl)]
            go_simp
            exact hK.out _ _ ⟨AC, cC, AH, cH, T54, P60, Q61, Q12, g11, (put1 (put1 tb 20 (.pointer (some ⟨g11, 0, none⟩))) 183 (.agg #[.int .i64 (a0_0 + 2), .slice AC M2.length cC])), ⟨rfl, ((hI.out.2.1.same (s := 20) (v := .pointer (some ⟨g11, 0, none⟩)) e13).same (s := 183) (v := .agg #[.int .i64 (a0_0 + 2), .slice AC M2.length cC]) e6').none 14 rfl, ⟨below_set (below_set hb.out r.1) r.1⟩, ⟨fun h => Kd.R_set (Kd.R_set (hC.out h) rv (by decide) 0 _) (blk_put rv 0 _ rfl) (by decide) 1 _⟩, ⟨fun h => Kd.R_set (Kd.R_set (hH.out h) rv (by decide) 0 _) (blk_put rv 0 _ rfl) (by decide) 1 _⟩, hI.out.2.2.2.2.2.1, hI.out.2.2.2.2.2.2.1, hI.out.2.2.2.2.2.2.2.1, hI.out.2.2.2.2.2.2.2.2.1, ⟨fun _ => ⟨r.1, put2 rv⟩⟩, ⟨fun _ => ⟨hd 10 rfl, hd 13 rfl⟩⟩⟩⟩
          · intro LL a wx hI hLk hd K' hK
            obtain ⟨AC, cC, AH, cH, T54, P60, Q61, Q12, g11, tb, hI⟩ := hI
            obtain rfl := hI.out.1
            have e11 := hI.out.2.1.at 11 rfl (hd 11 rfl)
            rw [if_pos (by rfl)]
            go_simp
            exact hK.out _ _ ⟨AC, cC, AH, cH, T54, P60, Q61, Q61, g11, (put1 (put1 tb 184 (Q61)) 21 (Q61)), ⟨rfl, (hI.out.2.1.same (s := 184) (v := Q61) e11).upd 14 rfl rfl rfl rfl, hI.out.2.2.1, hI.out.2.2.2.1, hI.out.2.2.2.2.1, hI.out.2.2.2.2.2.1, hI.out.2.2.2.2.2.2.1, hI.out.2.2.2.2.2.2.2.1, ⟨fun _ => ⟨upd_old (hd 11 rfl), rfl⟩⟩, hI.out.2.2.2.2.2.2.2.2.2.1, hI.out.2.2.2.2.2.2.2.2.2.2⟩⟩
          · intro LL a wx hI hLk hd K' hK
            obtain ⟨AC, cC, AH, cH, T54, P60, Q61, Q12, g11, tb, hI⟩ := hI
            obtain rfl := hI.out.1
            have e12 := hI.out.2.1.at 12 rfl (hd 12 rfl)
            rw [if_pos (by rfl)]
            go_simp
            exact hK.out _ _ ⟨AC, cC, AH, cH, T54, P60, Q61, Q12, g11, (put1 (put1 tb 185 (.int .i64 0)) 22 (.int .i64 0)), ⟨rfl, (hI.out.2.1.same (s := 185) (v := .int .i64 0) e12).upd 15 rfl rfl rfl rfl, hI.out.2.2.1, hI.out.2.2.2.1, hI.out.2.2.2.2.1, hI.out.2.2.2.2.2.1, hI.out.2.2.2.2.2.2.1, hI.out.2.2.2.2.2.2.2.1, hI.out.2.2.2.2.2.2.2.2.1, hI.out.2.2.2.2.2.2.2.2.2.1, hI.out.2.2.2.2.2.2.2.2.2.2⟩⟩
        · intro LL a w12 hall hI
          obtain ⟨AC, cC, AH, cH, T54, P60, Q61, Q12, g11, tb, hI⟩ := hI
          obtain rfl := hI.out.1
          have hb := hI.out.2.2.1
          have hC := hI.out.2.2.2.1
          have hH := hI.out.2.2.2.2.1
          have l5 := hI.out.2.2.2.2.2.1
          have l6 := hI.out.2.2.2.2.2.2.1
          have l7 := hI.out.2.2.2.2.2.2.2.1
          have l11 := hI.out.2.2.2.2.2.2.2.2.1
          have h9 := hI.out.2.2.2.2.2.2.2.2.2.1
          have z10 := hI.out.2.2.2.2.2.2.2.2.2.2
          have e13 := hI.out.2.1.at 13 rfl (hall 13 (by decide))
          have e15 := hI.out.2.1.at 14 rfl (hall 15 (by decide))
          have e16 := hI.out.2.1.at 15 rfl (hall 16 (by decide))
          have h61 := (l7.out (hall 11 (by decide))).2
          have h12 := (l11.out (hall 15 (by decide))).2.trans h61
          rw [e13, e15, e16, h12]
          have HBn := Aside0.mk hb.out
          have HRC := Aside0.mk (Kd.R_reads' (hC.out (hall 8 (by decide)))).2.2
          have HCC := Aside0.mk (Kd.R_reads' (hC.out (hall 8 (by decide)))).2.1
          have HRH := Aside0.mk (Kd.R_reads' (hH.out (hall 8 (by decide)))).2.2
          have HCH := Aside0.mk (Kd.R_reads' (hH.out (hall 8 (by decide)))).2.1
          have HG := Aside0.mk ((h9.out (hall 13 (by decide))).full (hall 14 (by decide)))
          clear hI hb hC hH l5 l6 l7 l11 h9 z10 e13 e15 e16 h61 h12
          have X0 : Aside0 (w12.cell? ⟨gX, 0, none⟩ = some (.int .i64 a0_0)) := ⟨cell_keep HBn.out X0.out⟩
          have X1 : Aside0 (w12.cell? ⟨gX, 1, none⟩ = some (.slice (some adX) L.length cX)) := ⟨cell_keep HBn.out X1.out⟩
          have M1c : Aside0 (w12.cell? ⟨gM, 1, none⟩ = some (.slice AM M1.length cM)) := ⟨cell_keep HBn.out M1c.out⟩
          have EX : Aside0 (w12.cell? (adX.add (m * 4)) = some (.string d.f0.f0) ∧ w12.cell? ⟨(adX.add (m * 4)).block, (adX.add (m * 4)).off + 1, none⟩ = some (.string d.f0.f1) ∧ w12.cell? ⟨(adX.add (m * 4)).block, (adX.add (m * 4)).off + 2, none⟩ = some (.int .i64 d.f1)) := ⟨⟨cell_keep HBn.out EX.out.1, cell_keep HBn.out EX.out.2.1, cell_keep HBn.out EX.out.2.2.1⟩⟩
          have HB12 : Aside0 (Below w.heap.size w w12) := ⟨below_step HB11.out HBn.out⟩
          have HRM : Aside0 (Kd.C k30 w12 AM M1.length M1) := ⟨Kd.C_below HRMk.out HBn.out⟩
          obtain ⟨adM, qM, em0, em1, em2, em3⟩ := at_T30 HRM.out (m : Int) (by omega) (by have := HML.out; have := HL1.out; omega)
          subst qM
          obtain ⟨adC, qC, ec0, ec1, ec2, ec3⟩ := at_T30 HRC.out (m : Int) (by omega) (by have := HML.out; have := HL2'.out; omega)
          subst qC
          rw [show rd_T30 M1 (m : Int) = M1.getD m z30 by simp [rd_T30], Int.toNat_natCast, P1.out] at em2
          rw [show rd_T30 M2 (m : Int) = M2.getD m z30 by simp [rd_T30], Int.toNat_natCast] at ec0 ec1 ec2
          rw [P3.out] at ec0 ec1
          rw [P2.out] at ec2
          have EM := Aside0.mk em2
          have EC := Aside0.mk (And.intro ec0 (And.intro ec1 ec2))
          have C0c : Aside0 (w12.cell? ⟨g11, 0, none⟩ = some (.int .i64 (a0_0 + 2))) := ⟨(blk_cell HG.out 0).trans rfl⟩
          have C1c : Aside0 (w12.cell? ⟨g11, 1, none⟩ = some (.slice (some adC) M2.length cC)) := ⟨(blk_cell HG.out 1).trans rfl⟩
          clear HBn HB11 HMV HRX HRM HRMk HRC HCC HRH HCH HG em0 em1 em2 em3 ec0 ec1 ec2 ec3
          go_wp2_with fail
          have HM1m : Aside0 (((m : Int) < (M1.length : Int)) = True) := ⟨eq_true (by have := HML.out; have := HL1.out; omega)⟩
          have HM2m : Aside0 (((m : Int) < (M2.length : Int)) = True) := ⟨eq_true (by have := HML.out; have := HL2'.out; omega)⟩
          have HW2 : Aside0 (IntKind.i64.wrap (a0_0 + 2) = a0_0 + 2) := ⟨by have := HE.out; rw [i64_w]; unfold wrap64; omega⟩
          refine wp_region_steps 55 rfl rfl (by kernel_rfl) (fun LL a wx => ∃ tc : Nat → Value, Aside0 (a = { tmps := List.toArray (.agg #[.int .i64 a0_0, .slice A0_1 l0_1.length c0_1] :: .string a1 :: .int .u8 a2 :: .pointer (some ⟨gA, 0, none⟩) :: undef :: undef :: tc 6 :: .pointer (some ⟨gX, 0, none⟩) :: .pointer (some ⟨gB, 0, none⟩) :: .slice AG r3.length cG :: .int .i64 r4 :: z 11 :: z 12 :: z 13 :: z 14 :: .int .i64 (m : Int) :: .int .i64 n :: .pointer (some ⟨gM, 0, none⟩) :: .slice AN g1.length cN :: .int .i64 0 :: .pointer (some ⟨g11, 0, none⟩) :: .slice AH g2.length cH :: .int .i64 0 :: .bool true :: .bool false :: .agg #[.int .i64 a0_0, .slice A0_1 l0_1.length c0_1] :: .bool true :: .bool false :: .bool false :: .string a1 :: .int .i64 (a1.size : Int) :: .bool false :: .bool false :: .bool false :: .agg #[.int .i64 a0_0, .slice A0_1 l0_1.length c0_1] :: .bool true :: .bool false :: .bool false :: .bool false :: .pointer (some ⟨gA, 0, none⟩) :: .int .i64 a0_0 :: .bool false :: .bool false :: .agg #[.int .i64 a0_0, .slice A0_1 l0_1.length c0_1] :: .agg #[.int .i64 a0_0, .slice (some adX) L.length cX] :: .tuple #[.agg #[.int .i64 r1, .slice AB r2.length cB], .slice AG r3.length cG, .int .i64 r4] :: .agg #[.int .i64 a0_0, .slice (some adX) L.length cX] :: .string a1 :: .tuple #[.agg #[.int .i64 r1, .slice AB r2.length cB], .slice AG r3.length cG, .int .i64 r4] :: .agg #[.int .i64 r1, .slice AB r2.length cB] :: .slice AG r3.length cG :: .int .i64 r4 :: z 52 :: z 53 :: z 54 :: z 55 :: z 56 :: z 57 :: z 58 :: z 59 :: z 60 :: z 61 :: z 62 :: z 63 :: z 64 :: z 65 :: z 66 :: z 67 :: z 68 :: z 69 :: z 70 :: z 71 :: z 72 :: z 73 :: z 74 :: z 75 :: z 76 :: z 77 :: z 78 :: z 79 :: z 80 :: z 81 :: z 82 :: z 83 :: z 84 :: z 85 :: z 86 :: z 87 :: z 88 :: z 89 :: z 90 :: z 91 :: z 92 :: z 93 :: z 94 :: z 95 :: z 96 :: z 97 :: z 98 :: z 99 :: z 100 :: z 101 :: z 102 :: z 103 :: z 104 :: z 105 :: z 106 :: z 107 :: z 108 :: z 109 :: z 110 :: z 111 :: z 112 :: z 113 :: z 114 :: z 115 :: z 116 :: z 117 :: z 118 :: z 119 :: z 120 :: z 121 :: z 122 :: z 123 :: z 124 :: z 125 :: z 126 :: z 127 :: z 128 :: z 129 :: z 130 :: z 131 :: z 132 :: z 133 :: z 134 :: z 135 :: z 136 :: z 137 :: z 138 :: z 139 :: z 140 :: z 141 :: z 142 :: z 143 :: z 144 :: z 145 :: z 146 :: z 147 :: z 148 :: z 149 :: z 150 :: .int .u8 a2 :: .int .i64 a2 :: .pointer (some ⟨gX, 1, none⟩) :: .slice (some adX) L.length cX :: .int .i64 (L.length : Int) :: .int .i64 (m : Int) :: .pointer (some ⟨gX, 1, none⟩) :: .slice (some adX) L.length cX :: .int .i64 (m : Int) :: .pointer (some (adX.add (m * 4))) :: .pointer (some { block := (adX.add (m * 4)).block, off := (adX.add (m * 4)).off + 2 }) :: .int .i64 d.f1 :: .int .i64 (n - 1) :: .int .i64 n :: .tuple #[.agg #[.int .i64 (a0_0 + 1), .slice (some adM) M1.length cM], .slice AN g1.length cN, .int .i64 0] :: .agg #[.int .i64 a0_0, .slice (some adX) L.length cX] :: .int .i64 (m : Int) :: .int .i64 n :: .tuple #[.agg #[.int .i64 (a0_0 + 1), .slice (some adM) M1.length cM], .slice AN g1.length cN, .int .i64 0] :: .agg #[.int .i64 (a0_0 + 1), .slice (some adM) M1.length cM] :: .slice AN g1.length cN :: .int .i64 0 :: tb 173 :: tb 174 :: tb 175 :: tb 176 :: tb 177 :: tb 178 :: tb 179 :: tb 180 :: tb 181 :: tb 182 :: tb 183 :: tb 184 :: tb 185 :: tc 186 :: tc 187 :: tc 188 :: tc 189 :: tc 190 :: tc 191 :: tc 192 :: tc 193 :: tc 194 :: tc 195 :: tc 196 :: tc 197 :: tc 198 :: tc 199 :: tc 200 :: tc 201 :: tc 202 :: tc 203 :: tc 204 :: tc 205 :: tc 206 :: tc 207 :: tc 208 :: tc 209 :: tc 210 :: tc 211 :: tc 212 :: tc 213 :: tc 214 :: tc 215 :: tc 216 :: tc 217 :: tc 218 :: tc 219 :: tc 220 :: tc 221 :: tc 222 :: tc 223 :: tc 224 :: tc 225 :: tc 226 :: tc 227 :: tc 228 :: tc 229 :: tc 230 :: tc 231 :: tc 232 :: tc 233 :: tc 234 :: tc 235 :: tc 236 :: tc 237 :: tc 238 :: tc 239 :: []), defers := [] } ∧ Tab LL tc [(0, 186, .int .i64 0), (1, 187, .bool true), (2, 188, .bool true), (3, 189, .int .i64 0), (4, 190, .bool true), (5, 191, .bool true), (6, 192, .bool true), (7, 193, .pointer (some ⟨gM, 1, none⟩)), (8, 194, .slice (some adM) M1.length cM), (9, 195, .int .i64 (m : Int)), (10, 196, .pointer (some (adM.add (m * 4)))), (11, 197, .pointer (some ⟨(adM.add (m * 4)).block, (adM.add (m * 4)).off + 2, none⟩)), (12, 198, .int .i64 n), (13, 199, .int .i64 n), (14, 200, .bool true), (15, 201, .bool true), (16, 202, .bool true), (17, 203, .pointer (some ⟨g11, 1, none⟩)), (18, 204, .slice (some adC) M2.length cC), (19, 205, .int .i64 (m : Int)), (20, 206, .pointer (some (adC.add (m * 4)))), (21, 207, .pointer (some ⟨(adC.add (m * 4)).block, (adC.add (m * 4)).off + 2, none⟩)), (22, 208, .int .i64 d.f1), (23, 209, .pointer (some ⟨gX, 1, none⟩)), (24, 210, .slice (some adX) L.length cX), (25, 211, .int .i64 (m : Int)), (26, 212, .pointer (some (adX.add (m * 4)))), (27, 213, .pointer (some ⟨(adX.add (m * 4)).block, (adX.add (m * 4)).off + 2, none⟩)), (28, 214, .int .i64 d.f1), (29, 215, .bool true), (30, 216, .bool true), (31, 217, .bool true), (32, 218, .pointer (some ⟨g11, 1, none⟩)), (33, 219, .slice (some adC) M2.length cC), (34, 220, .int .i64 (m : Int)), (35, 221, .pointer (some (adC.add (m * 4)))), (36, 222, .pointer (some (adC.add (m * 4)))), (37, 223, .agg #[.string d.f0.f0, .string d.f0.f1]), (38, 224, .pointer (some ⟨gX, 1, none⟩)), (39, 225, .slice (some adX) L.length cX), (40, 226, .int .i64 (m : Int)), (41, 227, .pointer (some (adX.add (m * 4)))), (42, 228, .pointer (some (adX.add (m * 4)))), (43, 229, .agg #[.string d.f0.f0, .string d.f0.f1]), (44, 230, .bool true), (45, 231, .bool true), (46, 232, .bool true), (47, 233, .pointer (some ⟨g11, 0, none⟩)), (48, 234, .int .i64 (a0_0 + 2)), (49, 235, .pointer (some ⟨gX, 0, none⟩)), (50, 236, .int .i64 a0_0), (51, 237, .int .i64 (a0_0 + 2)), (52, 238, .bool true), (53, 239, .bool true), (54, 6, .bool true)] ∧ Aside0 (Below w12.heap.size w12 wx))) ?_ ?_ ?_
          · exact ⟨(put1 (fun _ => undef) 6 (z 6)), ⟨rfl, Tab.start 55 rfl rfl, ⟨below_drew (Below.refl _ _)⟩⟩⟩
          · refine Steps.cons ?_ (Steps.cons ?_ (Steps.cons ?_ (Steps.cons ?_ (Steps.cons ?_ (Steps.cons ?_ (Steps.cons ?_ (Steps.cons ?_ (Steps.cons ?_ (Steps.cons ?_ (Steps.cons ?_ (Steps.cons ?_ (Steps.cons ?_ (Steps.cons ?_ (Steps.cons ?_ (Steps.cons ?_ (Steps.cons ?_ (Steps.cons ?_ (Steps.cons ?_ (Steps.cons ?_ (Steps.cons ?_ (Steps.cons ?_ (Steps.cons ?_ (Steps.cons ?_ (Steps.cons ?_ (Steps.cons ?_ (Steps.cons ?_ (Steps.cons ?_ (Steps.cons ?_ (Steps.cons ?_ (Steps.cons ?_ (Steps.cons ?_ (Steps.cons ?_ (Steps.cons ?_ (Steps.cons ?_ (Steps.cons ?_ (Steps.cons ?_ (Steps.cons ?_ (Steps.cons ?_ (Steps.cons ?_ (Steps.cons ?_ (Steps.cons ?_ (Steps.cons ?_ (Steps.cons ?_ (Steps.cons ?_ (Steps.cons ?_ (Steps.cons ?_ (Steps.cons ?_ (Steps.cons ?_ (Steps.cons ?_ (Steps.cons ?_ (Steps.cons ?_ (Steps.cons ?_ (Steps.cons ?_ (Steps.cons ?_ (Steps.nil)))))))))))))))))))))))))))))))))))))))))))))))))))))))
            · intro LL a wx hI hLk hd K' hK
              obtain ⟨tc, hI⟩ := hI
              obtain rfl := hI.out.1
              rw [if_pos (by rfl)]
              go_simp
              exact hK.out _ _ ⟨(put1 tc 186 (.int .i64 0)), ⟨rfl, hI.out.2.1.upd 0 rfl rfl rfl rfl, hI.out.2.2⟩⟩
            · intro LL a wx hI hLk hd K' hK
              obtain ⟨tc, hI⟩ := hI
              obtain rfl := hI.out.1
              have e0 := hI.out.2.1.at 0 rfl (hd 0 rfl)
              rw [if_pos (by rfl)]
              go_simp
              exact hK.out _ _ ⟨(put1 (put1 tc 186 (.int .i64 0)) 187 (.bool true)), ⟨rfl, (hI.out.2.1.same (s := 186) (v := .int .i64 0) e0).upd 1 rfl rfl rfl rfl, hI.out.2.2⟩⟩
            · intro LL a wx hI hLk hd K' hK
              obtain ⟨tc, hI⟩ := hI
              obtain rfl := hI.out.1
              have e1 := hI.out.2.1.at 1 rfl (hd 1 rfl)
              rw [if_pos (by rfl)]
              go_simp
              exact hK.out _ _ ⟨(put1 (put1 tc 187 (.bool true)) 188 (.bool true)), ⟨rfl, (hI.out.2.1.same (s := 187) (v := .bool true) e1).upd 2 rfl rfl rfl rfl, hI.out.2.2⟩⟩
            · intro LL a wx hI hLk hd K' hK
              obtain ⟨tc, hI⟩ := hI
              obtain rfl := hI.out.1
              have eg := hI.out.2.1.at 2 rfl (hd 2 rfl)
              rw [eg]
              rw [if_pos (by rfl)]
              go_simp
              exact hK.out _ _ ⟨(put1 (put1 tc 188 (.bool true)) 189 (.int .i64 0)), ⟨rfl, (hI.out.2.1.same (s := 188) (v := .bool true) eg).upd 3 rfl rfl rfl rfl, hI.out.2.2⟩⟩
            · intro LL a wx hI hLk hd K' hK
              obtain ⟨tc, hI⟩ := hI
              obtain rfl := hI.out.1
              have e3 := hI.out.2.1.at 3 rfl (hd 3 rfl)
              have eg := hI.out.2.1.at 2 rfl (hd 2 rfl)
              rw [eg]
              rw [if_pos (by rfl)]
              go_simp
              exact hK.out _ _ ⟨(put1 (put1 (put1 tc 189 (.int .i64 0)) 188 (.bool true)) 190 (.bool true)), ⟨rfl, ((hI.out.2.1.same (s := 189) (v := .int .i64 0) e3).same (s := 188) (v := .bool true) eg).upd 4 rfl rfl rfl rfl, hI.out.2.2⟩⟩
            · intro LL a wx hI hLk hd K' hK
              obtain ⟨tc, hI⟩ := hI
              obtain rfl := hI.out.1
              have e2 := hI.out.2.1.at 2 rfl (hd 2 rfl)
              have e4 := hI.out.2.1.at 4 rfl (hd 4 rfl)
              rw [if_pos (by rfl)]
              go_simp
              exact hK.out _ _ ⟨(put1 (put1 (put1 tc 188 (.bool true)) 190 (.bool true)) 191 (.bool true)), ⟨rfl, ((hI.out.2.1.same (s := 188) (v := .bool true) e2).same (s := 190) (v := .bool true) e4).upd 5 rfl rfl rfl rfl, hI.out.2.2⟩⟩
            · intro LL a wx hI hLk hd K' hK
              obtain ⟨tc, hI⟩ := hI
              obtain rfl := hI.out.1
              have e5 := hI.out.2.1.at 5 rfl (hd 5 rfl)
              rw [if_pos (by rfl)]
              go_simp
              exact hK.out _ _ ⟨(put1 (put1 tc 191 (.bool true)) 192 (.bool true)), ⟨rfl, (hI.out.2.1.same (s := 191) (v := .bool true) e5).upd 6 rfl rfl rfl rfl, hI.out.2.2⟩⟩
            · intro LL a wx hI hLk hd K' hK
              obtain ⟨tc, hI⟩ := hI
              obtain rfl := hI.out.1
              have eg := hI.out.2.1.at 6 rfl (hd 6 rfl)
              rw [eg]
              rw [if_pos (by rfl)]
              go_simp
              exact hK.out _ _ ⟨(put1 (put1 tc 192 (.bool true)) 193 (.pointer (some ⟨gM, 1, none⟩))), ⟨rfl, (hI.out.2.1.same (s := 192) (v := .bool true) eg).upd 7 rfl rfl rfl rfl, hI.out.2.2⟩⟩
            · intro LL a wx hI hLk hd K' hK
              obtain ⟨tc, hI⟩ := hI
              obtain rfl := hI.out.1
              have e7 := hI.out.2.1.at 7 rfl (hd 7 rfl)
              have hb := hI.out.2.2
              have ck := cell_keep hb.out M1c.out
              have eg := hI.out.2.1.at 6 rfl (hd 6 rfl)
              rw [eg]
              rw [if_pos (by rfl)]
              go_simp
              exact hK.out _ _ ⟨(put1 (put1 (put1 tc 193 (.pointer (some ⟨gM, 1, none⟩))) 192 (.bool true)) 194 (.slice (some adM) M1.length cM)), ⟨rfl, ((hI.out.2.1.same (s := 193) (v := .pointer (some ⟨gM, 1, none⟩)) e7).same (s := 192) (v := .bool true) eg).upd 8 rfl rfl rfl rfl, hI.out.2.2⟩⟩
            · intro LL a wx hI hLk hd K' hK
              obtain ⟨tc, hI⟩ := hI
              obtain rfl := hI.out.1
              have eg := hI.out.2.1.at 6 rfl (hd 6 rfl)
              rw [eg]
              rw [if_pos (by rfl)]
              go_simp
              exact hK.out _ _ ⟨(put1 (put1 tc 192 (.bool true)) 195 (.int .i64 (m : Int))), ⟨rfl, (hI.out.2.1.same (s := 192) (v := .bool true) eg).upd 9 rfl rfl rfl rfl, hI.out.2.2⟩⟩
            · intro LL a wx hI hLk hd K' hK
              obtain ⟨tc, hI⟩ := hI
              obtain rfl := hI.out.1
              have e8 := hI.out.2.1.at 8 rfl (hd 8 rfl)
              have e9 := hI.out.2.1.at 9 rfl (hd 9 rfl)
              have hb3 := HM1m.out
              have eg := hI.out.2.1.at 6 rfl (hd 6 rfl)
              rw [eg]
              rw [if_pos (by rfl)]
              go_simp
              exact hK.out _ _ ⟨(put1 (put1 (put1 (put1 tc 194 (.slice (some adM) M1.length cM)) 195 (.int .i64 (m : Int))) 192 (.bool true)) 196 (.pointer (some (adM.add (m * 4))))), ⟨rfl, (((hI.out.2.1.same (s := 194) (v := .slice (some adM) M1.length cM) e8).same (s := 195) (v := .int .i64 (m : Int)) e9).same (s := 192) (v := .bool true) eg).upd 10 rfl rfl rfl rfl, hI.out.2.2⟩⟩
            · intro LL a wx hI hLk hd K' hK
              obtain ⟨tc, hI⟩ := hI
              obtain rfl := hI.out.1
              have e10 := hI.out.2.1.at 10 rfl (hd 10 rfl)
              have eg := hI.out.2.1.at 6 rfl (hd 6 rfl)
              rw [eg]
              rw [if_pos (by rfl)]
              go_simp
              exact hK.out _ _ ⟨(put1 (put1 (put1 tc 196 (.pointer (some (adM.add (m * 4))))) 192 (.bool true)) 197 (.pointer (some ⟨(adM.add (m * 4)).block, (adM.add (m * 4)).off + 2, none⟩))), ⟨rfl, ((hI.out.2.1.same (s := 196) (v := .pointer (some (adM.add (m * 4)))) e10).same (s := 192) (v := .bool true) eg).upd 11 rfl rfl rfl rfl, hI.out.2.2⟩⟩
            · intro LL a wx hI hLk hd K' hK
              obtain ⟨tc, hI⟩ := hI
              obtain rfl := hI.out.1
              have e11 := hI.out.2.1.at 11 rfl (hd 11 rfl)
              have hb := hI.out.2.2
              have ck := cell_keep hb.out EM.out
              have eg := hI.out.2.1.at 6 rfl (hd 6 rfl)
              rw [eg]
              rw [if_pos (by rfl)]
              go_simp
              exact hK.out _ _ ⟨(put1 (put1 (put1 tc 197 (.pointer (some ⟨(adM.add (m * 4)).block, (adM.add (m * 4)).off + 2, none⟩))) 192 (.bool true)) 198 (.int .i64 n)), ⟨rfl, ((hI.out.2.1.same (s := 197) (v := .pointer (some ⟨(adM.add (m * 4)).block, (adM.add (m * 4)).off + 2, none⟩)) e11).same (s := 192) (v := .bool true) eg).upd 12 rfl rfl rfl rfl, hI.out.2.2⟩⟩
            · intro LL a wx hI hLk hd K' hK
              obtain ⟨tc, hI⟩ := hI
              obtain rfl := hI.out.1
              have eg := hI.out.2.1.at 6 rfl (hd 6 rfl)
              rw [eg]
              rw [if_pos (by rfl)]
              go_simp
              exact hK.out _ _ ⟨(put1 (put1 tc 192 (.bool true)) 199 (.int .i64 n)), ⟨rfl, (hI.out.2.1.same (s := 192) (v := .bool true) eg).upd 13 rfl rfl rfl rfl, hI.out.2.2⟩⟩
            · intro LL a wx hI hLk hd K' hK
              obtain ⟨tc, hI⟩ := hI
              obtain rfl := hI.out.1
              have e12 := hI.out.2.1.at 12 rfl (hd 12 rfl)
              have e13 := hI.out.2.1.at 13 rfl (hd 13 rfl)
              have eg := hI.out.2.1.at 6 rfl (hd 6 rfl)
              rw [eg]
              rw [if_pos (by rfl)]
              go_simp
              exact hK.out _ _ ⟨(put1 (put1 (put1 (put1 tc 198 (.int .i64 n)) 199 (.int .i64 n)) 192 (.bool true)) 200 (.bool true)), ⟨rfl, (((hI.out.2.1.same (s := 198) (v := .int .i64 n) e12).same (s := 199) (v := .int .i64 n) e13).same (s := 192) (v := .bool true) eg).upd 14 rfl rfl rfl rfl, hI.out.2.2⟩⟩
            · intro LL a wx hI hLk hd K' hK
              obtain ⟨tc, hI⟩ := hI
              obtain rfl := hI.out.1
              have e6 := hI.out.2.1.at 6 rfl (hd 6 rfl)
              have e14 := hI.out.2.1.at 14 rfl (hd 14 rfl)
              rw [if_pos (by rfl)]
              go_simp
              exact hK.out _ _ ⟨(put1 (put1 (put1 tc 192 (.bool true)) 200 (.bool true)) 201 (.bool true)), ⟨rfl, ((hI.out.2.1.same (s := 192) (v := .bool true) e6).same (s := 200) (v := .bool true) e14).upd 15 rfl rfl rfl rfl, hI.out.2.2⟩⟩
            · intro LL a wx hI hLk hd K' hK
              obtain ⟨tc, hI⟩ := hI
              obtain rfl := hI.out.1
              have e15 := hI.out.2.1.at 15 rfl (hd 15 rfl)
              rw [if_pos (by rfl)]
              go_simp
              exact hK.out _ _ ⟨(put1 (put1 tc 201 (.bool true)) 202 (.bool true)), ⟨rfl, (hI.out.2.1.same (s := 201) (v := .bool true) e15).upd 16 rfl rfl rfl rfl, hI.out.2.2⟩⟩
            · intro LL a wx hI hLk hd K' hK
              obtain ⟨tc, hI⟩ := hI
              obtain rfl := hI.out.1
              have eg := hI.out.2.1.at 16 rfl (hd 16 rfl)
              rw [eg]
              rw [if_pos (by rfl)]
              go_simp
              exact hK.out _ _ ⟨(put1 (put1 tc 202 (.bool true)) 203 (.pointer (some ⟨g11, 1, none⟩))), ⟨rfl, (hI.out.2.1.same (s := 202) (v := .bool true) eg).upd 17 rfl rfl rfl rfl, hI.out.2.2⟩⟩
            · intro LL a wx hI hLk hd K' hK
              obtain ⟨tc, hI⟩ := hI
              obtain rfl := hI.out.1
              have e17 := hI.out.2.1.at 17 rfl (hd 17 rfl)
              have hb := hI.out.2.2
              have ck := cell_keep hb.out C1c.out
              have eg := hI.out.2.1.at 16 rfl (hd 16 rfl)
              rw [eg]
              rw [if_pos (by rfl)]
              go_simp
              exact hK.out _ _ ⟨(put1 (put1 (put1 tc 203 (.pointer (some ⟨g11, 1, none⟩))) 202 (.bool true)) 204 (.slice (some adC) M2.length cC)), ⟨rfl, ((hI.out.2.1.same (s := 203) (v := .pointer (some ⟨g11, 1, none⟩)) e17).same (s := 202) (v := .bool true) eg).upd 18 rfl rfl rfl rfl, hI.out.2.2⟩⟩
            · intro LL a wx hI hLk hd K' hK
              obtain ⟨tc, hI⟩ := hI
              obtain rfl := hI.out.1
              have eg := hI.out.2.1.at 16 rfl (hd 16 rfl)
              rw [eg]
              rw [if_pos (by rfl)]
              go_simp
              exact hK.out _ _ ⟨(put1 (put1 tc 202 (.bool true)) 205 (.int .i64 (m : Int))), ⟨rfl, (hI.out.2.1.same (s := 202) (v := .bool true) eg).upd 19 rfl rfl rfl rfl, hI.out.2.2⟩⟩
            · intro LL a wx hI hLk hd K' hK
              obtain ⟨tc, hI⟩ := hI
              obtain rfl := hI.out.1
              have e18 := hI.out.2.1.at 18 rfl (hd 18 rfl)
              have e19 := hI.out.2.1.at 19 rfl (hd 19 rfl)
              have hb3 := HM2m.out
              have eg := hI.out.2.1.at 16 rfl (hd 16 rfl)
              rw [eg]
              rw [if_pos (by rfl)]
              go_simp
              exact hK.out _ _ ⟨(put1 (put1 (put1 (put1 tc 204 (.slice (some adC) M2.length cC)) 205 (.int .i64 (m : Int))) 202 (.bool true)) 206 (.pointer (some (adC.add (m * 4))))), ⟨rfl, (((hI.out.2.1.same (s := 204) (v := .slice (some adC) M2.length cC) e18).same (s := 205) (v := .int .i64 (m : Int)) e19).same (s := 202) (v := .bool true) eg).upd 20 rfl rfl rfl rfl, hI.out.2.2⟩⟩
            · intro LL a wx hI hLk hd K' hK
              obtain ⟨tc, hI⟩ := hI
              obtain rfl := hI.out.1
              have e20 := hI.out.2.1.at 20 rfl (hd 20 rfl)
              have eg := hI.out.2.1.at 16 rfl (hd 16 rfl)
              rw [eg]
              rw [if_pos (by rfl)]
              go_simp
              exact hK.out _ _ ⟨(put1 (put1 (put1 tc 206 (.pointer (some (adC.add (m * 4))))) 202 (.bool true)) 207 (.pointer (some ⟨(adC.add (m * 4)).block, (adC.add (m * 4)).off + 2, none⟩))), ⟨rfl, ((hI.out.2.1.same (s := 206) (v := .pointer (some (adC.add (m * 4)))) e20).same (s := 202) (v := .bool true) eg).upd 21 rfl rfl rfl rfl, hI.out.2.2⟩⟩
            · intro LL a wx hI hLk hd K' hK
              obtain ⟨tc, hI⟩ := hI
              obtain rfl := hI.out.1
              have e21 := hI.out.2.1.at 21 rfl (hd 21 rfl)
              have hb := hI.out.2.2
              have ck := cell_keep hb.out EC.out.2.2
              have eg := hI.out.2.1.at 16 rfl (hd 16 rfl)
              rw [eg]
              rw [if_pos (by rfl)]
              go_simp
              exact hK.out _ _ ⟨(put1 (put1 (put1 tc 207 (.pointer (some ⟨(adC.add (m * 4)).block, (adC.add (m * 4)).off + 2, none⟩))) 202 (.bool true)) 208 (.int .i64 d.f1)), ⟨rfl, ((hI.out.2.1.same (s := 207) (v := .pointer (some ⟨(adC.add (m * 4)).block, (adC.add (m * 4)).off + 2, none⟩)) e21).same (s := 202) (v := .bool true) eg).upd 22 rfl rfl rfl rfl, hI.out.2.2⟩⟩
            · intro LL a wx hI hLk hd K' hK
              obtain ⟨tc, hI⟩ := hI
              obtain rfl := hI.out.1
              have eg := hI.out.2.1.at 16 rfl (hd 16 rfl)
              rw [eg]
              rw [if_pos (by rfl)]
              go_simp
              exact hK.out _ _ ⟨(put1 (put1 tc 202 (.bool true)) 209 (.pointer (some ⟨gX, 1, none⟩))), ⟨rfl, (hI.out.2.1.same (s := 202) (v := .bool true) eg).upd 23 rfl rfl rfl rfl, hI.out.2.2⟩⟩
            · intro LL a wx hI hLk hd K' hK
              obtain ⟨tc, hI⟩ := hI
              obtain rfl := hI.out.1
              have e23 := hI.out.2.1.at 23 rfl (hd 23 rfl)
              have hb := hI.out.2.2
              have ck := cell_keep hb.out X1.out
              have eg := hI.out.2.1.at 16 rfl (hd 16 rfl)
              rw [eg]
              rw [if_pos (by rfl)]
              go_simp
              exact hK.out _ _ ⟨(put1 (put1 (put1 tc 209 (.pointer (some ⟨gX, 1, none⟩))) 202 (.bool true)) 210 (.slice (some adX) L.length cX)), ⟨rfl, ((hI.out.2.1.same (s := 209) (v := .pointer (some ⟨gX, 1, none⟩)) e23).same (s := 202) (v := .bool true) eg).upd 24 rfl rfl rfl rfl, hI.out.2.2⟩⟩
            · intro LL a wx hI hLk hd K' hK
              obtain ⟨tc, hI⟩ := hI
              obtain rfl := hI.out.1
              have eg := hI.out.2.1.at 16 rfl (hd 16 rfl)
              rw [eg]
              rw [if_pos (by rfl)]
              go_simp
              exact hK.out _ _ ⟨(put1 (put1 tc 202 (.bool true)) 211 (.int .i64 (m : Int))), ⟨rfl, (hI.out.2.1.same (s := 202) (v := .bool true) eg).upd 25 rfl rfl rfl rfl, hI.out.2.2⟩⟩
            · intro LL a wx hI hLk hd K' hK
              obtain ⟨tc, hI⟩ := hI
              obtain rfl := hI.out.1
              have e24 := hI.out.2.1.at 24 rfl (hd 24 rfl)
              have e25 := hI.out.2.1.at 25 rfl (hd 25 rfl)
              have eg := hI.out.2.1.at 16 rfl (hd 16 rfl)
              rw [eg]
              rw [if_pos (by rfl)]
              go_simp
              exact hK.out _ _ ⟨(put1 (put1 (put1 (put1 tc 210 (.slice (some adX) L.length cX)) 211 (.int .i64 (m : Int))) 202 (.bool true)) 212 (.pointer (some (adX.add (m * 4))))), ⟨rfl, (((hI.out.2.1.same (s := 210) (v := .slice (some adX) L.length cX) e24).same (s := 211) (v := .int .i64 (m : Int)) e25).same (s := 202) (v := .bool true) eg).upd 26 rfl rfl rfl rfl, hI.out.2.2⟩⟩
            · intro LL a wx hI hLk hd K' hK
              obtain ⟨tc, hI⟩ := hI
              obtain rfl := hI.out.1
              have e26 := hI.out.2.1.at 26 rfl (hd 26 rfl)
              have eg := hI.out.2.1.at 16 rfl (hd 16 rfl)
              rw [eg]
              rw [if_pos (by rfl)]
              go_simp
              exact hK.out _ _ ⟨(put1 (put1 (put1 tc 212 (.pointer (some (adX.add (m * 4))))) 202 (.bool true)) 213 (.pointer (some ⟨(adX.add (m * 4)).block, (adX.add (m * 4)).off + 2, none⟩))), ⟨rfl, ((hI.out.2.1.same (s := 212) (v := .pointer (some (adX.add (m * 4)))) e26).same (s := 202) (v := .bool true) eg).upd 27 rfl rfl rfl rfl, hI.out.2.2⟩⟩
            · intro LL a wx hI hLk hd K' hK
              obtain ⟨tc, hI⟩ := hI
              obtain rfl := hI.out.1
              have e27 := hI.out.2.1.at 27 rfl (hd 27 rfl)
              have hb := hI.out.2.2
              have ck := cell_keep hb.out EX.out.2.2
              have eg := hI.out.2.1.at 16 rfl (hd 16 rfl)
              rw [eg]
              rw [if_pos (by rfl)]
              go_simp
              exact hK.out _ _ ⟨(put1 (put1 (put1 tc 213 (.pointer (some ⟨(adX.add (m * 4)).block, (adX.add (m * 4)).off + 2, none⟩))) 202 (.bool true)) 214 (.int .i64 d.f1)), ⟨rfl, ((hI.out.2.1.same (s := 213) (v := .pointer (some ⟨(adX.add (m * 4)).block, (adX.add (m * 4)).off + 2, none⟩)) e27).same (s := 202) (v := .bool true) eg).upd 28 rfl rfl rfl rfl, hI.out.2.2⟩⟩
            · intro LL a wx hI hLk hd K' hK
              obtain ⟨tc, hI⟩ := hI
              obtain rfl := hI.out.1
              have e22 := hI.out.2.1.at 22 rfl (hd 22 rfl)
              have e28 := hI.out.2.1.at 28 rfl (hd 28 rfl)
              have eg := hI.out.2.1.at 16 rfl (hd 16 rfl)
              rw [eg]
              rw [if_pos (by rfl)]
              go_simp
              exact hK.out _ _ ⟨(put1 (put1 (put1 (put1 tc 208 (.int .i64 d.f1)) 214 (.int .i64 d.f1)) 202 (.bool true)) 215 (.bool true)), ⟨rfl, (((hI.out.2.1.same (s := 208) (v := .int .i64 d.f1) e22).same (s := 214) (v := .int .i64 d.f1) e28).same (s := 202) (v := .bool true) eg).upd 29 rfl rfl rfl rfl, hI.out.2.2⟩⟩
            · intro LL a wx hI hLk hd K' hK
              obtain ⟨tc, hI⟩ := hI
              obtain rfl := hI.out.1
              have e16 := hI.out.2.1.at 16 rfl (hd 16 rfl)
              have e29 := hI.out.2.1.at 29 rfl (hd 29 rfl)
              rw [if_pos (by rfl)]
              go_simp
              exact hK.out _ _ ⟨(put1 (put1 (put1 tc 202 (.bool true)) 215 (.bool true)) 216 (.bool true)), ⟨rfl, ((hI.out.2.1.same (s := 202) (v := .bool true) e16).same (s := 215) (v := .bool true) e29).upd 30 rfl rfl rfl rfl, hI.out.2.2⟩⟩
            · intro LL a wx hI hLk hd K' hK
              obtain ⟨tc, hI⟩ := hI
              obtain rfl := hI.out.1
              have e30 := hI.out.2.1.at 30 rfl (hd 30 rfl)
              rw [if_pos (by rfl)]
              go_simp
              exact hK.out _ _ ⟨(put1 (put1 tc 216 (.bool true)) 217 (.bool true)), ⟨rfl, (hI.out.2.1.same (s := 216) (v := .bool true) e30).upd 31 rfl rfl rfl rfl, hI.out.2.2⟩⟩
            · intro LL a wx hI hLk hd K' hK
              obtain ⟨tc, hI⟩ := hI
              obtain rfl := hI.out.1
              have eg := hI.out.2.1.at 31 rfl (hd 31 rfl)
              rw [eg]
              rw [if_pos (by rfl)]
              go_simp
              exact hK.out _ _ ⟨(put1 (put1 tc 217 (.bool true)) 218 (.pointer (some ⟨g11, 1, none⟩))), ⟨rfl, (hI.out.2.1.same (s := 217) (v := .bool true) eg).upd 32 rfl rfl rfl rfl, hI.out.2.2⟩⟩
            · intro LL a wx hI hLk hd K' hK
              obtain ⟨tc, hI⟩ := hI
              obtain rfl := hI.out.1
              have e32 := hI.out.2.1.at 32 rfl (hd 32 rfl)
              have hb := hI.out.2.2
              have ck := cell_keep hb.out C1c.out
              have eg := hI.out.2.1.at 31 rfl (hd 31 rfl)
              rw [eg]
              rw [if_pos (by rfl)]
              go_simp
              exact hK.out _ _ ⟨(put1 (put1 (put1 tc 218 (.pointer (some ⟨g11, 1, none⟩))) 217 (.bool true)) 219 (.slice (some adC) M2.length cC)), ⟨rfl, ((hI.out.2.1.same (s := 218) (v := .pointer (some ⟨g11, 1, none⟩)) e32).same (s := 217) (v := .bool true) eg).upd 33 rfl rfl rfl rfl, hI.out.2.2⟩⟩
            · intro LL a wx hI hLk hd K' hK
              obtain ⟨tc, hI⟩ := hI
              obtain rfl := hI.out.1
              have eg := hI.out.2.1.at 31 rfl (hd 31 rfl)
              rw [eg]
              rw [if_pos (by rfl)]
              go_simp
              exact hK.out _ _ ⟨(put1 (put1 tc 217 (.bool true)) 220 (.int .i64 (m : Int))), ⟨rfl, (hI.out.2.1.same (s := 217) (v := .bool true) eg).upd 34 rfl rfl rfl rfl, hI.out.2.2⟩⟩
            · intro LL a wx hI hLk hd K' hK
              obtain ⟨tc, hI⟩ := hI
              obtain rfl := hI.out.1
              have e33 := hI.out.2.1.at 33 rfl (hd 33 rfl)
              have e34 := hI.out.2.1.at 34 rfl (hd 34 rfl)
              have hb3 := HM2m.out
              have eg := hI.out.2.1.at 31 rfl (hd 31 rfl)
              rw [eg]
              rw [if_pos (by rfl)]
              go_simp
              exact hK.out _ _ ⟨(put1 (put1 (put1 (put1 tc 219 (.slice (some adC) M2.length cC)) 220 (.int .i64 (m : Int))) 217 (.bool true)) 221 (.pointer (some (adC.add (m * 4))))), ⟨rfl, (((hI.out.2.1.same (s := 219) (v := .slice (some adC) M2.length cC) e33).same (s := 220) (v := .int .i64 (m : Int)) e34).same (s := 217) (v := .bool true) eg).upd 35 rfl rfl rfl rfl, hI.out.2.2⟩⟩
            · intro LL a wx hI hLk hd K' hK
              obtain ⟨tc, hI⟩ := hI
              obtain rfl := hI.out.1
              have e35 := hI.out.2.1.at 35 rfl (hd 35 rfl)
              have eg := hI.out.2.1.at 31 rfl (hd 31 rfl)
              rw [eg]
              rw [if_pos (by rfl)]
              go_simp
              exact hK.out _ _ ⟨(put1 (put1 (put1 tc 221 (.pointer (some (adC.add (m * 4))))) 217 (.bool true)) 222 (.pointer (some (adC.add (m * 4))))), ⟨rfl, ((hI.out.2.1.same (s := 221) (v := .pointer (some (adC.add (m * 4)))) e35).same (s := 217) (v := .bool true) eg).upd 36 rfl rfl rfl rfl, hI.out.2.2⟩⟩
            · intro LL a wx hI hLk hd K' hK
              obtain ⟨tc, hI⟩ := hI
              obtain rfl := hI.out.1
              have e36 := hI.out.2.1.at 36 rfl (hd 36 rfl)
              have hb := hI.out.2.2
              have ck0 := cell_keep hb.out EC.out.1
              have ck1 := cell_keep hb.out EC.out.2.1
              have eg := hI.out.2.1.at 31 rfl (hd 31 rfl)
              rw [eg]
              rw [if_pos (by rfl)]
              go_simp
              exact hK.out _ _ ⟨(put1 (put1 (put1 tc 222 (.pointer (some (adC.add (m * 4))))) 217 (.bool true)) 223 (.agg #[.string d.f0.f0, .string d.f0.f1])), ⟨rfl, ((hI.out.2.1.same (s := 222) (v := .pointer (some (adC.add (m * 4)))) e36).same (s := 217) (v := .bool true) eg).upd 37 rfl rfl rfl rfl, hI.out.2.2⟩⟩
            · intro LL a wx hI hLk hd K' hK
              obtain ⟨tc, hI⟩ := hI
              obtain rfl := hI.out.1
              have eg := hI.out.2.1.at 31 rfl (hd 31 rfl)
              rw [eg]
              rw [if_pos (by rfl)]
              go_simp
              exact hK.out _ _ ⟨(put1 (put1 tc 217 (.bool true)) 224 (.pointer (some ⟨gX, 1, none⟩))), ⟨rfl, (hI.out.2.1.same (s := 217) (v := .bool true) eg).upd 38 rfl rfl rfl rfl, hI.out.2.2⟩⟩
            · intro LL a wx hI hLk hd K' hK
              obtain ⟨tc, hI⟩ := hI
              obtain rfl := hI.out.1
              have e38 := hI.out.2.1.at 38 rfl (hd 38 rfl)
              have hb := hI.out.2.2
              have ck := cell_keep hb.out X1.out
              have eg := hI.out.2.1.at 31 rfl (hd 31 rfl)
              rw [eg]
              rw [if_pos (by rfl)]
              go_simp
              exact hK.out _ _ ⟨(put1 (put1 (put1 tc 224 (.pointer (some ⟨gX, 1, none⟩))) 217 (.bool true)) 225 (.slice (some adX) L.length cX)), ⟨rfl, ((hI.out.2.1.same (s := 224) (v := .pointer (some ⟨gX, 1, none⟩)) e38).same (s := 217) (v := .bool true) eg).upd 39 rfl rfl rfl rfl, hI.out.2.2⟩⟩
            · intro LL a wx hI hLk hd K' hK
              obtain ⟨tc, hI⟩ := hI
              obtain rfl := hI.out.1
              have eg := hI.out.2.1.at 31 rfl (hd 31 rfl)
              rw [eg]
              rw [if_pos (by rfl)]
              go_simp
              exact hK.out _ _ ⟨(put1 (put1 tc 217 (.bool true)) 226 (.int .i64 (m : Int))), ⟨rfl, (hI.out.2.1.same (s := 217) (v := .bool true) eg).upd 40 rfl rfl rfl rfl, hI.out.2.2⟩⟩
            · intro LL a wx hI hLk hd K' hK
              obtain ⟨tc, hI⟩ := hI
              obtain rfl := hI.out.1
              have e39 := hI.out.2.1.at 39 rfl (hd 39 rfl)
              have e40 := hI.out.2.1.at 40 rfl (hd 40 rfl)
              have eg := hI.out.2.1.at 31 rfl (hd 31 rfl)
              rw [eg]
              rw [if_pos (by rfl)]
              go_simp
              exact hK.out _ _ ⟨(put1 (put1 (put1 (put1 tc 225 (.slice (some adX) L.length cX)) 226 (.int .i64 (m : Int))) 217 (.bool true)) 227 (.pointer (some (adX.add (m * 4))))), ⟨rfl, (((hI.out.2.1.same (s := 225) (v := .slice (some adX) L.length cX) e39).same (s := 226) (v := .int .i64 (m : Int)) e40).same (s := 217) (v := .bool true) eg).upd 41 rfl rfl rfl rfl, hI.out.2.2⟩⟩
            · intro LL a wx hI hLk hd K' hK
              obtain ⟨tc, hI⟩ := hI
              obtain rfl := hI.out.1
              have e41 := hI.out.2.1.at 41 rfl (hd 41 rfl)
              have eg := hI.out.2.1.at 31 rfl (hd 31 rfl)
              rw [eg]
              rw [if_pos (by rfl)]
              go_simp
              exact hK.out _ _ ⟨(put1 (put1 (put1 tc 227 (.pointer (some (adX.add (m * 4))))) 217 (.bool true)) 228 (.pointer (some (adX.add (m * 4))))), ⟨rfl, ((hI.out.2.1.same (s := 227) (v := .pointer (some (adX.add (m * 4)))) e41).same (s := 217) (v := .bool true) eg).upd 42 rfl rfl rfl rfl, hI.out.2.2⟩⟩
            · intro LL a wx hI hLk hd K' hK
              obtain ⟨tc, hI⟩ := hI
              obtain rfl := hI.out.1
              have e42 := hI.out.2.1.at 42 rfl (hd 42 rfl)
              have hb := hI.out.2.2
              have ck0 := cell_keep hb.out EX.out.1
              have ck1 := cell_keep hb.out EX.out.2.1
              have eg := hI.out.2.1.at 31 rfl (hd 31 rfl)
              rw [eg]
              rw [if_pos (by rfl)]
              go_simp
              exact hK.out _ _ ⟨(put1 (put1 (put1 tc 228 (.pointer (some (adX.add (m * 4))))) 217 (.bool true)) 229 (.agg #[.string d.f0.f0, .string d.f0.f1])), ⟨rfl, ((hI.out.2.1.same (s := 228) (v := .pointer (some (adX.add (m * 4)))) e42).same (s := 217) (v := .bool true) eg).upd 43 rfl rfl rfl rfl, hI.out.2.2⟩⟩
            · intro LL a wx hI hLk hd K' hK
              obtain ⟨tc, hI⟩ := hI
              obtain rfl := hI.out.1
              have e37 := hI.out.2.1.at 37 rfl (hd 37 rfl)
              have e43 := hI.out.2.1.at 43 rfl (hd 43 rfl)
              have eg := hI.out.2.1.at 31 rfl (hd 31 rfl)
              rw [eg]
              rw [if_pos (by rfl)]
              go_simp
              exact hK.out _ _ ⟨(put1 (put1 (put1 (put1 tc 223 (.agg #[.string d.f0.f0, .string d.f0.f1])) 229 (.agg #[.string d.f0.f0, .string d.f0.f1])) 217 (.bool true)) 230 (.bool true)), ⟨rfl, (((hI.out.2.1.same (s := 223) (v := .agg #[.string d.f0.f0, .string d.f0.f1]) e37).same (s := 229) (v := .agg #[.string d.f0.f0, .string d.f0.f1]) e43).same (s := 217) (v := .bool true) eg).upd 44 rfl rfl rfl rfl, hI.out.2.2⟩⟩
            · intro LL a wx hI hLk hd K' hK
              obtain ⟨tc, hI⟩ := hI
              obtain rfl := hI.out.1
              have e31 := hI.out.2.1.at 31 rfl (hd 31 rfl)
              have e44 := hI.out.2.1.at 44 rfl (hd 44 rfl)
              rw [if_pos (by rfl)]
              go_simp
              exact hK.out _ _ ⟨(put1 (put1 (put1 tc 217 (.bool true)) 230 (.bool true)) 231 (.bool true)), ⟨rfl, ((hI.out.2.1.same (s := 217) (v := .bool true) e31).same (s := 230) (v := .bool true) e44).upd 45 rfl rfl rfl rfl, hI.out.2.2⟩⟩
            · intro LL a wx hI hLk hd K' hK
              obtain ⟨tc, hI⟩ := hI
              obtain rfl := hI.out.1
              have e45 := hI.out.2.1.at 45 rfl (hd 45 rfl)
              rw [if_pos (by rfl)]
              go_simp
              exact hK.out _ _ ⟨(put1 (put1 tc 231 (.bool true)) 232 (.bool true)), ⟨rfl, (hI.out.2.1.same (s := 231) (v := .bool true) e45).upd 46 rfl rfl rfl rfl, hI.out.2.2⟩⟩
            · intro LL a wx hI hLk hd K' hK
              obtain ⟨tc, hI⟩ := hI
              obtain rfl := hI.out.1
              have eg := hI.out.2.1.at 46 rfl (hd 46 rfl)
              rw [eg]
              rw [if_pos (by rfl)]
              go_simp
              exact hK.out _ _ ⟨(put1 (put1 tc 232 (.bool true)) 233 (.pointer (some ⟨g11, 0, none⟩))), ⟨rfl, (hI.out.2.1.same (s := 232) (v := .bool true) eg).upd 47 rfl rfl rfl rfl, hI.out.2.2⟩⟩
            · intro LL a wx hI hLk hd K' hK
              obtain ⟨tc, hI⟩ := hI
              obtain rfl := hI.out.1
              have e47 := hI.out.2.1.at 47 rfl (hd 47 rfl)
              have hb := hI.out.2.2
              have ck := cell_keep hb.out C0c.out
              have eg := hI.out.2.1.at 46 rfl (hd 46 rfl)
              rw [eg]
              rw [if_pos (by rfl)]
              go_simp
              exact hK.out _ _ ⟨(put1 (put1 (put1 tc 233 (.pointer (some ⟨g11, 0, none⟩))) 232 (.bool true)) 234 (.int .i64 (a0_0 + 2))), ⟨rfl, ((hI.out.2.1.same (s := 233) (v := .pointer (some ⟨g11, 0, none⟩)) e47).same (s := 232) (v := .bool true) eg).upd 48 rfl rfl rfl rfl, hI.out.2.2⟩⟩
            · intro LL a wx hI hLk hd K' hK
              obtain ⟨tc, hI⟩ := hI
              obtain rfl := hI.out.1
              have eg := hI.out.2.1.at 46 rfl (hd 46 rfl)
              rw [eg]
              rw [if_pos (by rfl)]
              go_simp
              exact hK.out _ _ ⟨(put1 (put1 tc 232 (.bool true)) 235 (.pointer (some ⟨gX, 0, none⟩))), ⟨rfl, (hI.out.2.1.same (s := 232) (v := .bool true) eg).upd 49 rfl rfl rfl rfl, hI.out.2.2⟩⟩
            · intro LL a wx hI hLk hd K' hK
              obtain ⟨tc, hI⟩ := hI
              obtain rfl := hI.out.1
              have e49 := hI.out.2.1.at 49 rfl (hd 49 rfl)
              have hb := hI.out.2.2
              have ck := cell_keep hb.out X0.out
              have eg := hI.out.2.1.at 46 rfl (hd 46 rfl)
              rw [eg]
              rw [if_pos (by rfl)]
              go_simp
              exact hK.out _ _ ⟨(put1 (put1 (put1 tc 235 (.pointer (some ⟨gX, 0, none⟩))) 232 (.bool true)) 236 (.int .i64 a0_0)), ⟨rfl, ((hI.out.2.1.same (s := 235) (v := .pointer (some ⟨gX, 0, none⟩)) e49).same (s := 232) (v := .bool true) eg).upd 50 rfl rfl rfl rfl, hI.out.2.2⟩⟩
            · intro LL a wx hI hLk hd K' hK
              obtain ⟨tc, hI⟩ := hI
              obtain rfl := hI.out.1
              have e50 := hI.out.2.1.at 50 rfl (hd 50 rfl)
              have hw9 := HW2.out
              have eg := hI.out.2.1.at 46 rfl (hd 46 rfl)
              rw [eg]
              rw [if_pos (by rfl)]
              go_simp
              exact hK.out _ _ ⟨(put1 (put1 (put1 tc 236 (.int .i64 a0_0)) 232 (.bool true)) 237 (.int .i64 (a0_0 + 2))), ⟨rfl, ((hI.out.2.1.same (s := 236) (v := .int .i64 a0_0) e50).same (s := 232) (v := .bool true) eg).upd 51 rfl rfl rfl rfl, hI.out.2.2⟩⟩
            · intro LL a wx hI hLk hd K' hK
              obtain ⟨tc, hI⟩ := hI
              obtain rfl := hI.out.1
              have e48 := hI.out.2.1.at 48 rfl (hd 48 rfl)
              have e51 := hI.out.2.1.at 51 rfl (hd 51 rfl)
              have eg := hI.out.2.1.at 46 rfl (hd 46 rfl)
              rw [eg]
              rw [if_pos (by rfl)]
              go_simp
              exact hK.out _ _ ⟨(put1 (put1 (put1 (put1 tc 234 (.int .i64 (a0_0 + 2))) 237 (.int .i64 (a0_0 + 2))) 232 (.bool true)) 238 (.bool true)), ⟨rfl, (((hI.out.2.1.same (s := 234) (v := .int .i64 (a0_0 + 2)) e48).same (s := 237) (v := .int .i64 (a0_0 + 2)) e51).same (s := 232) (v := .bool true) eg).upd 52 rfl rfl rfl rfl, hI.out.2.2⟩⟩
            · intro LL a wx hI hLk hd K' hK
              obtain ⟨tc, hI⟩ := hI
              obtain rfl := hI.out.1
              have e46 := hI.out.2.1.at 46 rfl (hd 46 rfl)
              have e52 := hI.out.2.1.at 52 rfl (hd 52 rfl)
              rw [if_pos (by rfl)]
              go_simp
              exact hK.out _ _ ⟨(put1 (put1 (put1 tc 232 (.bool true)) 238 (.bool true)) 239 (.bool true)), ⟨rfl, ((hI.out.2.1.same (s := 232) (v := .bool true) e46).same (s := 238) (v := .bool true) e52).upd 53 rfl rfl rfl rfl, hI.out.2.2⟩⟩
            · intro LL a wx hI hLk hd K' hK
              obtain ⟨tc, hI⟩ := hI
              obtain rfl := hI.out.1
              have e53 := hI.out.2.1.at 53 rfl (hd 53 rfl)
              rw [if_pos (by rfl)]
              go_simp
              exact hK.out _ _ ⟨(put1 (put1 tc 239 (.bool true)) 6 (.bool true)), ⟨rfl, (hI.out.2.1.same (s := 239) (v := .bool true) e53).upd 54 rfl rfl rfl rfl, hI.out.2.2⟩⟩
          · intro LL a w13 hall hI
            obtain ⟨tc, hI⟩ := hI
            obtain rfl := hI.out.1
            have hb := hI.out.2.2
            have e54 := hI.out.2.1.at 54 rfl (hall 54 (by decide))
            rw [e54]
            go_wp2
            go_ret
            exact ⟨rfl, below_step HB12.out hb.out⟩⟩
      clear aK1
      rcases HCASE.out with h4 | ⟨rfl, i, L2, rfl, rfl, hi, hm, hl2, q0, q1, q2, q3⟩
      · have r4n : (r4 = 0) = False := eq_false h4
        have r4b : (r4 == 0) = false := beq_eq_false_iff_ne.mpr h4
        clear h4 HCASE
        go_wp2_with fail
        exact tail.out (fun s => List.getD (.agg #[.int .i64 a0_0, .slice A0_1 l0_1.length c0_1] :: .string a1 :: .int .u8 a2 :: .pointer (some ⟨gA, 0, none⟩) :: undef :: undef :: .bool false :: .pointer (some ⟨gX, 0, none⟩) :: .pointer (some ⟨gB, 0, none⟩) :: .slice AG r3.length cG :: .int .i64 r4 :: undef :: undef :: undef :: undef :: undef :: undef :: undef :: undef :: undef :: undef :: undef :: undef :: .bool true :: .bool false :: .agg #[.int .i64 a0_0, .slice A0_1 l0_1.length c0_1] :: .bool true :: .bool false :: .bool false :: .string a1 :: .int .i64 (a1.size : Int) :: .bool false :: .bool false :: .bool false :: .agg #[.int .i64 a0_0, .slice A0_1 l0_1.length c0_1] :: .bool true :: .bool false :: .bool false :: .bool false :: .pointer (some ⟨gA, 0, none⟩) :: .int .i64 a0_0 :: .bool false :: .bool false :: .agg #[.int .i64 a0_0, .slice A0_1 l0_1.length c0_1] :: .agg #[.int .i64 a0_0, .slice AX L.length cX] :: .tuple #[.agg #[.int .i64 r1, .slice AB r2.length cB], .slice AG r3.length cG, .int .i64 r4] :: .agg #[.int .i64 a0_0, .slice AX L.length cX] :: .string a1 :: .tuple #[.agg #[.int .i64 r1, .slice AB r2.length cB], .slice AG r3.length cG, .int .i64 r4] :: .agg #[.int .i64 r1, .slice AB r2.length cB] :: .slice AG r3.length cG :: .int .i64 r4 :: .int .i64 r4 :: .bool false :: undef :: undef :: undef :: undef :: undef :: undef :: undef :: undef :: undef :: undef :: undef :: undef :: undef :: undef :: undef :: undef :: undef :: undef :: undef :: undef :: undef :: undef :: undef :: undef :: undef :: undef :: undef :: undef :: undef :: undef :: undef :: undef :: undef :: undef :: undef :: undef :: undef :: undef :: undef :: undef :: undef :: undef :: undef :: undef :: undef :: undef :: undef :: undef :: undef :: undef :: undef :: undef :: undef :: undef :: undef :: undef :: undef :: undef :: undef :: undef :: undef :: undef :: undef :: undef :: undef :: undef :: undef :: undef :: undef :: undef :: undef :: undef :: undef :: undef :: undef :: undef :: undef :: undef :: undef :: undef :: undef :: undef :: undef :: undef :: undef :: undef :: undef :: undef :: undef :: undef :: undef :: undef :: undef :: undef :: undef :: undef :: undef :: []) s undef) _ (Below.refl _ _)
      · skip
        have HMG := Aside0.mk (fun (W : World) (hb : Below w8.heap.size w8 W) => atlas_Merge.calls 400 (a0_0 + 1) AB cB r2 (i : Int) (a0_0 + 2) L2 [(i : Int), ((i + 1 : Nat) : Int)] 0 W (Kd.C_below HRB.out hb) HCB.out hm)
        have HL2 := Aside0.mk hl2
        have HHI := Aside0.mk hi
        have Q0 := Aside0.mk q0
        have Q1 := Aside0.mk q1
        have q3e := Aside0.mk q2
        have OTH := Aside0.mk q3
        obtain ⟨adG, hG, hg0⟩ := Kd.at_int HRG.out 0 (by omega) (by simp)
        subst hG
        have G0 : Aside0 (w8.cell? (adG.add 0) = some (.int .i64 (i : Int))) := ⟨hg0⟩
        have B0 : Aside0 (w8.cell? ⟨gB, 0, none⟩ = some (.int .i64 (a0_0 + 1))) := ⟨(blk_cell HB8_.out 0).trans rfl⟩
        have B1 : Aside0 (w8.cell? ⟨gB, 1, none⟩ = some (.slice AB r2.length cB)) := ⟨(blk_cell HB8_.out 1).trans rfl⟩
        clear hm hl2 hi q0 q1 q2 q3 hg0 HCASE HRG HB8_
        go_wp2_with fail
        refine wp_region_steps 13 rfl rfl (by kernel_rfl) (fun LL a wx => ∃ AC : Option Addr, ∃ cC : Nat, ∃ AH : Option Addr, ∃ cH : Nat, ∃ T54 : Value, ∃ P60 : Value, ∃ Q61 : Value, ∃ Q12 : Value, ∃ g11 : Nat, ∃ ta : Nat → Value, Aside0 (a = { tmps := List.toArray (.agg #[.int .i64 a0_0, .slice A0_1 l0_1.length c0_1] :: .string a1 :: .int .u8 a2 :: .pointer (some ⟨gA, 0, none⟩) :: undef :: undef :: .bool false :: .pointer (some ⟨gX, 0, none⟩) :: .pointer (some ⟨gB, 0, none⟩) :: .slice (some adG) 1 cG :: .int .i64 0 :: ta 11 :: ta 12 :: ta 13 :: undef :: undef :: undef :: undef :: undef :: undef :: undef :: undef :: undef :: .bool true :: .bool false :: .agg #[.int .i64 a0_0, .slice A0_1 l0_1.length c0_1] :: .bool true :: .bool false :: .bool false :: .string a1 :: .int .i64 (a1.size : Int) :: .bool false :: .bool false :: .bool false :: .agg #[.int .i64 a0_0, .slice A0_1 l0_1.length c0_1] :: .bool true :: .bool false :: .bool false :: .bool false :: .pointer (some ⟨gA, 0, none⟩) :: .int .i64 a0_0 :: .bool false :: .bool false :: .agg #[.int .i64 a0_0, .slice A0_1 l0_1.length c0_1] :: .agg #[.int .i64 a0_0, .slice AX L.length cX] :: .tuple #[.agg #[.int .i64 (a0_0 + 1), .slice AB r2.length cB], .slice (some adG) 1 cG, .int .i64 0] :: .agg #[.int .i64 a0_0, .slice AX L.length cX] :: .string a1 :: .tuple #[.agg #[.int .i64 (a0_0 + 1), .slice AB r2.length cB], .slice (some adG) 1 cG, .int .i64 0] :: .agg #[.int .i64 (a0_0 + 1), .slice AB r2.length cB] :: .slice (some adG) 1 cG :: .int .i64 0 :: .int .i64 0 :: .bool true :: ta 54 :: ta 55 :: ta 56 :: ta 57 :: ta 58 :: ta 59 :: ta 60 :: ta 61 :: ta 62 :: undef :: undef :: undef :: undef :: undef :: undef :: undef :: undef :: undef :: undef :: undef :: undef :: undef :: undef :: undef :: undef :: undef :: undef :: undef :: undef :: undef :: undef :: undef :: undef :: undef :: undef :: undef :: undef :: undef :: undef :: undef :: undef :: undef :: undef :: undef :: undef :: undef :: undef :: undef :: undef :: undef :: undef :: undef :: undef :: undef :: undef :: undef :: undef :: undef :: undef :: undef :: undef :: undef :: undef :: undef :: undef :: undef :: undef :: undef :: undef :: undef :: undef :: undef :: undef :: undef :: undef :: undef :: undef :: undef :: undef :: undef :: undef :: undef :: undef :: undef :: undef :: undef :: undef :: undef :: undef :: undef :: undef :: undef :: undef :: undef :: undef :: undef :: undef :: undef :: undef :: undef :: undef :: undef :: undef :: undef :: undef :: undef :: undef :: undef :: undef :: undef :: undef :: undef :: undef :: undef :: undef :: undef :: undef :: undef :: undef :: undef :: undef :: undef :: undef :: undef :: undef :: undef :: undef :: undef :: undef :: undef :: undef :: undef :: undef :: undef :: undef :: undef :: undef :: undef :: undef :: undef :: undef :: undef :: undef :: undef :: undef :: undef :: undef :: undef :: undef :: undef :: undef :: undef :: undef :: undef :: undef :: undef :: undef :: undef :: undef :: undef :: undef :: undef :: undef :: undef :: undef :: undef :: undef :: undef :: undef :: undef :: undef :: undef :: undef :: undef :: undef :: undef :: undef :: undef :: undef :: undef :: undef :: undef :: undef :: undef :: undef :: undef :: []), defers := [] } ∧ Tab LL ta [(0, 55, .agg #[.int .i64 (a0_0 + 1), .slice AB r2.length cB]), (1, 56, .slice (some adG) 1 cG), (2, 57, .pointer (some (adG.add 0))), (3, 58, .int .i64 (i : Int)), (4, 59, .tuple #[.agg #[.int .i64 (a0_0 + 2), .slice AC L2.length cC], .slice AH [(i : Int), ((i + 1 : Nat) : Int)].length cH, .int .i64 0]), (5, 54, T54), (6, 60, P60), (7, 61, Q61), (8, 62, .int .i64 0), (9, 11, .pointer (some ⟨g11, 0, none⟩)), (11, 12, Q12), (12, 13, .int .i64 0)] ∧ Aside0 (Below w8.heap.size w8 wx) ∧ Aside0 (LL 4 = true → Kd.R k30 30 wx w8.heap.size (fun _ => True) (.slice AC L2.length cC) L2) ∧ Aside0 (LL 4 = true → Kd.R (Kd.int .i64) 3 wx w8.heap.size (fun _ => True) (.slice AH [(i : Int), ((i + 1 : Nat) : Int)].length cH) [(i : Int), ((i + 1 : Nat) : Int)]) ∧ Aside0 (LL 5 = true → LL 4 = true ∧ T54 = .tuple #[.agg #[.int .i64 (a0_0 + 2), .slice AC L2.length cC], .slice AH [(i : Int), ((i + 1 : Nat) : Int)].length cH, .int .i64 0]) ∧ Aside0 (LL 6 = true → LL 5 = true ∧ P60 = .agg #[.int .i64 (a0_0 + 2), .slice AC L2.length cC]) ∧ Aside0 (LL 7 = true → LL 5 = true ∧ Q61 = .slice AH [(i : Int), ((i + 1 : Nat) : Int)].length cH) ∧ Aside0 (LL 11 = true → LL 7 = true ∧ Q12 = Q61) ∧ Aside0 (LL 9 = true → RowAt w8.heap.size wx g11 (LL 10) #[.int .i64 (a0_0 + 2), .slice AC L2.length cC] #[.int .i64 0, .slice none 0 0] 35) ∧ Aside0 (LL 10 = true → LL 6 = true ∧ LL 9 = true))) ?_ ?_ ?_
        · exact ⟨none, 0, none, 0, undef, undef, undef, undef, 0, (put1 (put1 (put1 (fun _ => undef) 11 (undef)) 12 (undef)) 13 (undef)), ⟨rfl, Tab.start 13 rfl rfl, ⟨below_drew (Below.refl _ _)⟩, ⟨fun h => absurd h (by decide)⟩, ⟨fun h => absurd h (by decide)⟩, ⟨fun h => absurd h (by decide)⟩, ⟨fun h => absurd h (by decide)⟩, ⟨fun h => absurd h (by decide)⟩, ⟨fun h => absurd h (by decide)⟩, ⟨fun h => absurd h (by decide)⟩, ⟨fun h => absurd h (by decide)⟩⟩⟩
        · refine Steps.cons ?_ (Steps.cons ?_ (Steps.cons ?_ (Steps.cons ?_ (Steps.cons ?_ (Steps.cons ?_ (Steps.cons ?_ (Steps.cons ?_ (Steps.cons ?_ (Steps.cons ?_ (Steps.cons ?_ (Steps.cons ?_ (Steps.cons ?_ (Steps.nil)))))))))))))
          · intro LL a wx hI hLk hd K' hK
            obtain ⟨AC, cC, AH, cH, T54, P60, Q61, Q12, g11, ta, hI⟩ := hI
            obtain rfl := hI.out.1
            have hb := hI.out.2.2.1
            have b0 := cell_keep hb.out B0.out
            have b1 := cell_keep hb.out B1.out
            rw [if_pos (by rfl)]
            go_simp
            exact hK.out _ _ ⟨AC, cC, AH, cH, T54, P60, Q61, Q12, g11, (put1 ta 55 (.agg #[.int .i64 (a0_0 + 1), .slice AB r2.length cB])), ⟨rfl, hI.out.2.1.upd 0 rfl rfl rfl rfl, hI.out.2.2.1, hI.out.2.2.2.1, hI.out.2.2.2.2.1, hI.out.2.2.2.2.2.1, hI.out.2.2.2.2.2.2.1, hI.out.2.2.2.2.2.2.2.1, hI.out.2.2.2.2.2.2.2.2.1, hI.out.2.2.2.2.2.2.2.2.2.1, hI.out.2.2.2.2.2.2.2.2.2.2⟩⟩
          · intro LL a wx hI hLk hd K' hK
            obtain ⟨AC, cC, AH, cH, T54, P60, Q61, Q12, g11, ta, hI⟩ := hI
            obtain rfl := hI.out.1
            rw [if_pos (by rfl)]
            go_simp
            exact hK.out _ _ ⟨AC, cC, AH, cH, T54, P60, Q61, Q12, g11, (put1 ta 56 (.slice (some adG) 1 cG)), ⟨rfl, hI.out.2.1.upd 1 rfl rfl rfl rfl, hI.out.2.2.1, hI.out.2.2.2.1, hI.out.2.2.2.2.1, hI.out.2.2.2.2.2.1, hI.out.2.2.2.2.2.2.1, hI.out.2.2.2.2.2.2.2.1, hI.out.2.2.2.2.2.2.2.2.1, hI.out.2.2.2.2.2.2.2.2.2.1, hI.out.2.2.2.2.2.2.2.2.2.2⟩⟩
          · intro LL a wx hI hLk hd K' hK
            obtain ⟨AC, cC, AH, cH, T54, P60, Q61, Q12, g11, ta, hI⟩ := hI
            obtain rfl := hI.out.1
            have e1 := hI.out.2.1.at 1 rfl (hd 1 rfl)
            rw [if_pos (by rfl)]
            go_simp
            exact hK.out _ _ ⟨AC, cC, AH, cH, T54, P60, Q61, Q12, g11, (put1 (put1 ta 56 (.slice (some adG) 1 cG)) 57 (.pointer (some (adG.add 0)))), ⟨rfl, (hI.out.2.1.same (s := 56) (v := .slice (some adG) 1 cG) e1).upd 2 rfl rfl rfl rfl, hI.out.2.2.1, hI.out.2.2.2.1, hI.out.2.2.2.2.1, hI.out.2.2.2.2.2.1, hI.out.2.2.2.2.2.2.1, hI.out.2.2.2.2.2.2.2.1, hI.out.2.2.2.2.2.2.2.2.1, hI.out.2.2.2.2.2.2.2.2.2.1, hI.out.2.2.2.2.2.2.2.2.2.2⟩⟩
          · intro LL a wx hI hLk hd K' hK
            obtain ⟨AC, cC, AH, cH, T54, P60, Q61, Q12, g11, ta, hI⟩ := hI
            obtain rfl := hI.out.1
            have e2 := hI.out.2.1.at 2 rfl (hd 2 rfl)
            have hb := hI.out.2.2.1
            have g0 : wx.cell? adG = some (.int .i64 (i : Int)) := cell_keep hb.out G0.out
            rw [if_pos (by rfl)]
            go_simp
            exact hK.out _ _ ⟨AC, cC, AH, cH, T54, P60, Q61, Q12, g11, (put1 (put1 ta 57 (.pointer (some (adG.add 0)))) 58 (.int .i64 (i : Int))), ⟨rfl, (hI.out.2.1.same (s := 57) (v := .pointer (some (adG.add 0))) e2).upd 3 rfl rfl rfl rfl, hI.out.2.2.1, hI.out.2.2.2.1, hI.out.2.2.2.2.1, hI.out.2.2.2.2.2.1, hI.out.2.2.2.2.2.2.1, hI.out.2.2.2.2.2.2.2.1, hI.out.2.2.2.2.2.2.2.2.1, hI.out.2.2.2.2.2.2.2.2.2.1, hI.out.2.2.2.2.2.2.2.2.2.2⟩⟩
          · intro LL a wx hI hLk hd K' hK
            obtain ⟨AC, cC, AH, cH, T54, P60, Q61, Q12, g11, ta, hI⟩ := hI
            obtain rfl := hI.out.1
            have e0 := hI.out.2.1.at 0 rfl (hd 0 rfl)
            have e3 := hI.out.2.1.at 3 rfl (hd 3 rfl)
            have hb := hI.out.2.2.1
            have l5 := hI.out.2.2.2.2.2.1
            have l6 := hI.out.2.2.2.2.2.2.1
            have l7 := hI.out.2.2.2.2.2.2.2.1
            have h9 := hI.out.2.2.2.2.2.2.2.2.2.1
            have z10 := hI.out.2.2.2.2.2.2.2.2.2.2
            rw [if_pos (by rfl)]
            go_simp
            go_at_call 26
            refine (HMG.out wx hb.out).mono ?_
            rintro e w' ⟨v1, v2, rfl, hr1, hr2, hb1⟩
            obtain ⟨AC', cC', rfl, hcC', _⟩ := Kd.R_reads hr1
            obtain ⟨AH', cH', rfl, _, _⟩ := Kd.R_reads hr2
            exact hK.out _ _ ⟨AC', cC', AH', cH', T54, P60, Q61, Q12, g11, (put1 (put1 (put1 ta 55 (.agg #[.int .i64 (a0_0 + 1), .slice AB r2.length cB])) 58 (.int .i64 (i : Int))) 59 (.tuple #[.agg #[.int .i64 (a0_0 + 2), .slice AC' L2.length cC'], .slice AH' [(i : Int), ((i + 1 : Nat) : Int)].length cH', .int .i64 0])), ⟨rfl, ((hI.out.2.1.same (s := 55) (v := .agg #[.int .i64 (a0_0 + 1), .slice AB r2.length cB]) e0).same (s := 58) (v := .int .i64 (i : Int)) e3).upd 4 rfl rfl rfl rfl, ⟨below_step hb.out hb1⟩, ⟨fun _ => Kd.R_lower hr1 hb.out.size⟩, ⟨fun _ => Kd.R_lower hr2 hb.out.size⟩, ⟨fun h => absurd (l5.out h).1 (by rw [hLk]; decide)⟩, ⟨fun h => absurd (l5.out (l6.out h).1).1 (by rw [hLk]; decide)⟩, ⟨fun h => absurd (l5.out (l7.out h).1).1 (by rw [hLk]; decide)⟩, hI.out.2.2.2.2.2.2.2.2.1, ⟨fun h => RowAt.swap ((h9.out h).below hb1) (flag_off (fun h => (l5.out (l6.out (z10.out h).1).1).1) hLk)⟩, hI.out.2.2.2.2.2.2.2.2.2.2⟩⟩
          · intro LL a wx hI hLk hd K' hK
            obtain ⟨AC, cC, AH, cH, T54, P60, Q61, Q12, g11, ta, hI⟩ := hI
            obtain rfl := hI.out.1
            have e4 := hI.out.2.1.at 4 rfl (hd 4 rfl)
            have l6 := hI.out.2.2.2.2.2.2.1
            have l7 := hI.out.2.2.2.2.2.2.2.1
            rw [if_pos (by rfl)]
            go_simp
            exact hK.out _ _ ⟨AC, cC, AH, cH, .tuple #[.agg #[.int .i64 (a0_0 + 2), .slice AC L2.length cC], .slice AH [(i : Int), ((i + 1 : Nat) : Int)].length cH, .int .i64 0], P60, Q61, Q12, g11, (put1 (put1 ta 59 (.tuple #[.agg #[.int .i64 (a0_0 + 2), .slice AC L2.length cC], .slice AH [(i : Int), ((i + 1 : Nat) : Int)].length cH, .int .i64 0])) 54 (.tuple #[.agg #[.int .i64 (a0_0 + 2), .slice AC L2.length cC], .slice AH [(i : Int), ((i + 1 : Nat) : Int)].length cH, .int .i64 0])), ⟨rfl, (hI.out.2.1.same (s := 59) (v := .tuple #[.agg #[.int .i64 (a0_0 + 2), .slice AC L2.length cC], .slice AH [(i : Int), ((i + 1 : Nat) : Int)].length cH, .int .i64 0]) e4).upd 5 rfl rfl rfl rfl, hI.out.2.2.1, hI.out.2.2.2.1, hI.out.2.2.2.2.1, ⟨fun _ => ⟨upd_old (hd 4 rfl), rfl⟩⟩, ⟨fun h => ⟨upd_old (l6.out h).1, (l6.out h).2⟩⟩, ⟨fun h => ⟨upd_old (l7.out h).1, (l7.out h).2⟩⟩, hI.out.2.2.2.2.2.2.2.2.1, hI.out.2.2.2.2.2.2.2.2.2.1, hI.out.2.2.2.2.2.2.2.2.2.2⟩⟩
          · intro LL a wx hI hLk hd K' hK
            obtain ⟨AC, cC, AH, cH, T54, P60, Q61, Q12, g11, ta, hI⟩ := hI
            obtain rfl := hI.out.1
            have l5 := hI.out.2.2.2.2.2.1
            have z10 := hI.out.2.2.2.2.2.2.2.2.2.2
            have e5' := (hI.out.2.1.at 5 rfl (hd 5 rfl)).trans (l5.out (hd 5 rfl)).2
            rw [if_pos (by rfl)]
            go_simp
            exact hK.out _ _ ⟨AC, cC, AH, cH, T54, .agg #[.int .i64 (a0_0 + 2), .slice AC L2.length cC], Q61, Q12, g11, (put1 (put1 ta 54 (.tuple #[.agg #[.int .i64 (a0_0 + 2), .slice AC L2.length cC], .slice AH [(i : Int), ((i + 1 : Nat) : Int)].length cH, .int .i64 0])) 60 (.agg #[.int .i64 (a0_0 + 2), .slice AC L2.length cC])), ⟨rfl, (hI.out.2.1.same (s := 54) (v := .tuple #[.agg #[.int .i64 (a0_0 + 2), .slice AC L2.length cC], .slice AH [(i : Int), ((i + 1 : Nat) : Int)].length cH, .int .i64 0]) e5').upd 6 rfl rfl rfl rfl, hI.out.2.2.1, hI.out.2.2.2.1, hI.out.2.2.2.2.1, hI.out.2.2.2.2.2.1, ⟨fun _ => ⟨upd_old (hd 5 rfl), rfl⟩⟩, hI.out.2.2.2.2.2.2.2.1, hI.out.2.2.2.2.2.2.2.2.1, hI.out.2.2.2.2.2.2.2.2.2.1, ⟨fun h => ⟨upd_old (z10.out h).1, upd_old (z10.out h).2⟩⟩⟩⟩
          · intro LL a wx hI hLk hd K' hK
            obtain ⟨AC, cC, AH, cH, T54, P60, Q61, Q12, g11, ta, hI⟩ := hI
            obtain rfl := hI.out.1
            have l5 := hI.out.2.2.2.2.2.1
            have l11 := hI.out.2.2.2.2.2.2.2.2.1
            have e5' := (hI.out.2.1.at 5 rfl (hd 5 rfl)).trans (l5.out (hd 5 rfl)).2
            rw [if_pos (by rfl)]
            go_simp
            exact hK.out _ _ ⟨AC, cC, AH, cH, T54, P60, .slice AH [(i : Int), ((i + 1 : Nat) : Int)].length cH, Q12, g11, (put1 (put1 ta 54 (.tuple #[.agg #[.int .i64 (a0_0 + 2), .slice AC L2.length cC], .slice AH [(i : Int), ((i + 1 : Nat) : Int)].length cH, .int .i64 0])) 61 (.slice AH [(i : Int), ((i + 1 : Nat) : Int)].length cH)), ⟨rfl, (hI.out.2.1.same (s := 54) (v := .tuple #[.agg #[.int .i64 (a0_0 + 2), .slice AC L2.length cC], .slice AH [(i : Int), ((i + 1 : Nat) : Int)].length cH, .int .i64 0]) e5').upd 7 rfl rfl rfl rfl, hI.out.2.2.1, hI.out.2.2.2.1, hI.out.2.2.2.2.1, hI.out.2.2.2.2.2.1, hI.out.2.2.2.2.2.2.1, ⟨fun _ => ⟨upd_old (hd 5 rfl), rfl⟩⟩, ⟨fun h => absurd (l11.out h).1 (by rw [hLk]; decide)⟩, hI.out.2.2.2.2.2.2.2.2.2.1, hI.out.2.2.2.2.2.2.2.2.2.2⟩⟩
          · intro LL a wx hI hLk hd K' hK
            obtain ⟨AC, cC, AH, cH, T54, P60, Q61, Q12, g11, ta, hI⟩ := hI
            obtain rfl := hI.out.1
            have l5 := hI.out.2.2.2.2.2.1
            have e5' := (hI.out.2.1.at 5 rfl (hd 5 rfl)).trans (l5.out (hd 5 rfl)).2
            rw [if_pos (by rfl)]
            go_simp
            exact hK.out _ _ ⟨AC, cC, AH, cH, T54, P60, Q61, Q12, g11, (put1 (put1 ta 54 (.tuple #[.agg #[.int .i64 (a0_0 + 2), .slice AC L2.length cC], .slice AH [(i : Int), ((i + 1 : Nat) : Int)].length cH, .int .i64 0])) 62 (.int .i64 0)), ⟨rfl, (hI.out.2.1.same (s := 54) (v := .tuple #[.agg #[.int .i64 (a0_0 + 2), .slice AC L2.length cC], .slice AH [(i : Int), ((i + 1 : Nat) : Int)].length cH, .int .i64 0]) e5').upd 8 rfl rfl rfl rfl, hI.out.2.2.1, hI.out.2.2.2.1, hI.out.2.2.2.2.1, hI.out.2.2.2.2.2.1, hI.out.2.2.2.2.2.2.1, hI.out.2.2.2.2.2.2.2.1, hI.out.2.2.2.2.2.2.2.2.1, hI.out.2.2.2.2.2.2.2.2.2.1, hI.out.2.2.2.2.2.2.2.2.2.2⟩⟩
          · intro LL a wx hI hLk hd K' hK
            obtain ⟨AC, cC, AH, cH, T54, P60, Q61, Q12, g11, ta, hI⟩ := hI
            obtain rfl := hI.out.1
            have hb := hI.out.2.2.1
            have hC := hI.out.2.2.2.1
            have hH := hI.out.2.2.2.2.1
            have z10 := hI.out.2.2.2.2.2.2.2.2.2.2
            rw [if_pos (by rfl)]
            go_simp
            exact hK.out _ _ ⟨AC, cC, AH, cH, T54, P60, Q61, Q12, wx.heap.size, (put1 ta 11 (.pointer (some ⟨wx.heap.size, 0, none⟩))), ⟨rfl, hI.out.2.1.upd 9 rfl rfl rfl rfl, ⟨below_alloc hb.out _⟩, ⟨fun h => Kd.R_alloc (hC.out h) _⟩, ⟨fun h => Kd.R_alloc (hH.out h) _⟩, hI.out.2.2.2.2.2.1, hI.out.2.2.2.2.2.2.1, hI.out.2.2.2.2.2.2.2.1, hI.out.2.2.2.2.2.2.2.2.1, ⟨fun _ => RowAt.new _ _ _ (flag_off (fun h => (z10.out h).2) hLk) hb.out.size⟩, ⟨fun h => ⟨upd_old (z10.out h).1, upd_old (z10.out h).2⟩⟩⟩⟩
          · intro LL a wx hI hLk hd K' hK
            obtain ⟨AC, cC, AH, cH, T54, P60, Q61, Q12, g11, ta, hI⟩ := hI
            obtain rfl := hI.out.1
            have e9 := hI.out.2.1.at 9 rfl (hd 9 rfl)
            have hb := hI.out.2.2.1
            have hC := hI.out.2.2.2.1
            have hH := hI.out.2.2.2.2.1
            have l6 := hI.out.2.2.2.2.2.2.1
            have h9 := hI.out.2.2.2.2.2.2.2.2.2.1
            have e6' := (hI.out.2.1.at 6 rfl (hd 6 rfl)).trans (l6.out (hd 6 rfl)).2
            have r := h9.out (hd 9 rfl)
            have rv := r.void hLk
            have f0 := blk_frozen rv 0
            have f1 := blk_frozen rv 1
            have c0 := blk_cell rv 0
            have c1 := blk_cell rv 1
            rw [if_pos (by rfl)]
            go_simp
            exact hK.out _ _ ⟨AC, cC, AH, cH, T54, P60, Q61, Q12, g11, (put1 (put1 ta 11 (.pointer (some ⟨g11, 0, none⟩))) 60 (.agg #[.int .i64 (a0_0 + 2), .slice AC L2.length cC])), ⟨rfl, ((hI.out.2.1.same (s := 11) (v := .pointer (some ⟨g11, 0, none⟩)) e9).same (s := 60) (v := .agg #[.int .i64 (a0_0 + 2), .slice AC L2.length cC]) e6').none 10 rfl, ⟨below_set (below_set hb.out r.1) r.1⟩, ⟨fun h => Kd.R_set (Kd.R_set (hC.out h) rv (by decide) 0 _) (blk_put rv 0 _ rfl) (by decide) 1 _⟩, ⟨fun h => Kd.R_set (Kd.R_set (hH.out h) rv (by decide) 0 _) (blk_put rv 0 _ rfl) (by decide) 1 _⟩, hI.out.2.2.2.2.2.1, hI.out.2.2.2.2.2.2.1, hI.out.2.2.2.2.2.2.2.1, hI.out.2.2.2.2.2.2.2.2.1, ⟨fun _ => ⟨r.1, put2 rv⟩⟩, ⟨fun _ => ⟨hd 6 rfl, hd 9 rfl⟩⟩⟩⟩
          · intro LL a wx hI hLk hd K' hK
            obtain ⟨AC, cC, AH, cH, T54, P60, Q61, Q12, g11, ta, hI⟩ := hI
            obtain rfl := hI.out.1
            have e7 := hI.out.2.1.at 7 rfl (hd 7 rfl)
            rw [if_pos (by rfl)]
            go_simp
            exact hK.out _ _ ⟨AC, cC, AH, cH, T54, P60, Q61, Q61, g11, (put1 (put1 ta 61 (Q61)) 12 (Q61)), ⟨rfl, (hI.out.2.1.same (s := 61) (v := Q61) e7).upd 10 rfl rfl rfl rfl, hI.out.2.2.1, hI.out.2.2.2.1, hI.out.2.2.2.2.1, hI.out.2.2.2.2.2.1, hI.out.2.2.2.2.2.2.1, hI.out.2.2.2.2.2.2.2.1, ⟨fun _ => ⟨upd_old (hd 7 rfl), rfl⟩⟩, hI.out.2.2.2.2.2.2.2.2.2.1, hI.out.2.2.2.2.2.2.2.2.2.2⟩⟩
          · intro LL a wx hI hLk hd K' hK
            obtain ⟨AC, cC, AH, cH, T54, P60, Q61, Q12, g11, ta, hI⟩ := hI
            obtain rfl := hI.out.1
            have e8 := hI.out.2.1.at 8 rfl (hd 8 rfl)
            rw [if_pos (by rfl)]
            go_simp
            exact hK.out _ _ ⟨AC, cC, AH, cH, T54, P60, Q61, Q12, g11, (put1 (put1 ta 62 (.int .i64 0)) 13 (.int .i64 0)), ⟨rfl, (hI.out.2.1.same (s := 62) (v := .int .i64 0) e8).upd 11 rfl rfl rfl rfl, hI.out.2.2.1, hI.out.2.2.2.1, hI.out.2.2.2.2.1, hI.out.2.2.2.2.2.1, hI.out.2.2.2.2.2.2.1, hI.out.2.2.2.2.2.2.2.1, hI.out.2.2.2.2.2.2.2.2.1, hI.out.2.2.2.2.2.2.2.2.2.1, hI.out.2.2.2.2.2.2.2.2.2.2⟩⟩
        · intro LL a w9 hall hI
          obtain ⟨AC, cC, AH, cH, T54, P60, Q61, Q12, g11, ta, hI⟩ := hI
          obtain rfl := hI.out.1
          have hb := hI.out.2.2.1
          have hC := hI.out.2.2.2.1
          have hH := hI.out.2.2.2.2.1
          have l5 := hI.out.2.2.2.2.2.1
          have l6 := hI.out.2.2.2.2.2.2.1
          have l7 := hI.out.2.2.2.2.2.2.2.1
          have l11 := hI.out.2.2.2.2.2.2.2.2.1
          have h9 := hI.out.2.2.2.2.2.2.2.2.2.1
          have z10 := hI.out.2.2.2.2.2.2.2.2.2.2
          have e9 := hI.out.2.1.at 9 rfl (hall 9 (by decide))
          have e11 := hI.out.2.1.at 10 rfl (hall 11 (by decide))
          have e12 := hI.out.2.1.at 11 rfl (hall 12 (by decide))
          have h61 := (l7.out (hall 7 (by decide))).2
          have h12 := (l11.out (hall 11 (by decide))).2.trans h61
          rw [e9, e11, e12, h12]
          have HBn := Aside0.mk hb.out
          have HRC := Aside0.mk (Kd.R_reads' (hC.out (hall 4 (by decide)))).2.2
          have HCC := Aside0.mk (Kd.R_reads' (hC.out (hall 4 (by decide)))).2.1
          have HRH := Aside0.mk (Kd.R_reads' (hH.out (hall 4 (by decide)))).2.2
          have HCH := Aside0.mk (Kd.R_reads' (hH.out (hall 4 (by decide)))).2.1
          have HG := Aside0.mk ((h9.out (hall 9 (by decide))).full (hall 10 (by decide)))
          clear hI hb hC hH l5 l6 l7 l11 h9 z10 e9 e11 e12 h61 h12
          have HB9 : Aside0 (Below w8.heap.size w8 w9) := HBn
          have HX9 : Aside0 (w9.heap[gX]? = some (.cells #[.int .i64 a0_0, .slice AX L.length cX] 35 (0, 0))) := ⟨blk_below HX8.out HBn.out⟩
          have HRX : Aside0 (Kd.C k30 w9 AX L.length L) := ⟨Kd.C_below HRX.out HBn.out⟩
          have G0 : Aside0 (w9.cell? (adG.add 0) = some (.int .i64 (i : Int))) := ⟨cell_keep HBn.out G0.out⟩
          clear HBn HX8 HMG HRB HCB B0 B1 HB8
          go_wp2_with fail
          have QL1 : Aside0 (((L2.length : Int) = (L.length : Int)) = True) := ⟨eq_true (by have := HL2.out; omega)⟩
          have QL2 : Aside0 ((L2.length = L.length) = True) := ⟨eq_true HL2.out⟩
          have QL4 : Aside0 (((L2.length : Int) != (L.length : Int)) = false) := ⟨by rw [bne_eq_false_iff_eq]; have := HL2.out; omega⟩
          have QL3 : Aside0 (((L2.length : Int) == (L.length : Int)) = true) := ⟨by rw [beq_iff_eq]; have := HL2.out; omega⟩
          have HWi : Aside0 (IntKind.i64.wrap ((i : Int) + 1) = ((i + 1 : Nat) : Int)) := ⟨by have := HHI.out; have := HV.out.2.1; rw [i64_w]; unfold wrap64; omega⟩
          have HW2 : Aside0 (IntKind.i64.wrap (a0_0 + 2) = a0_0 + 2) := ⟨by have := HE.out; rw [i64_w]; unfold wrap64; omega⟩
          have C0c : Aside0 (w9.cell? ⟨g11, 0, none⟩ = some (.int .i64 (a0_0 + 2))) := ⟨(blk_cell HG.out 0).trans rfl⟩
          have C1c : Aside0 (w9.cell? ⟨g11, 1, none⟩ = some (.slice AC L2.length cC)) := ⟨(blk_cell HG.out 1).trans rfl⟩
          have X0 : Aside0 (w9.cell? ⟨gX, 0, none⟩ = some (.int .i64 a0_0)) := ⟨(blk_cell HX9.out 0).trans rfl⟩
          have X1 : Aside0 (w9.cell? ⟨gX, 1, none⟩ = some (.slice AX L.length cX)) := ⟨(blk_cell HX9.out 1).trans rfl⟩
          refine wp_region_steps 32 rfl rfl (by kernel_rfl) (fun LL a wx => ∃ g83 : Nat, ∃ tb : Nat → Value, Aside0 (a = { tmps := List.toArray (.agg #[.int .i64 a0_0, .slice A0_1 l0_1.length c0_1] :: .string a1 :: .int .u8 a2 :: .pointer (some ⟨gA, 0, none⟩) :: undef :: undef :: .bool false :: .pointer (some ⟨gX, 0, none⟩) :: .pointer (some ⟨gB, 0, none⟩) :: .slice (some adG) 1 cG :: .int .i64 0 :: .pointer (some ⟨g11, 0, none⟩) :: .slice AH 2 cH :: .int .i64 0 :: undef :: undef :: undef :: undef :: undef :: undef :: undef :: undef :: undef :: .bool true :: .bool false :: .agg #[.int .i64 a0_0, .slice A0_1 l0_1.length c0_1] :: .bool true :: .bool false :: .bool false :: .string a1 :: .int .i64 (a1.size : Int) :: .bool false :: .bool false :: .bool false :: .agg #[.int .i64 a0_0, .slice A0_1 l0_1.length c0_1] :: .bool true :: .bool false :: .bool false :: .bool false :: .pointer (some ⟨gA, 0, none⟩) :: .int .i64 a0_0 :: .bool false :: .bool false :: .agg #[.int .i64 a0_0, .slice A0_1 l0_1.length c0_1] :: .agg #[.int .i64 a0_0, .slice AX L.length cX] :: .tuple #[.agg #[.int .i64 (a0_0 + 1), .slice AB r2.length cB], .slice (some adG) 1 cG, .int .i64 0] :: .agg #[.int .i64 a0_0, .slice AX L.length cX] :: .string a1 :: .tuple #[.agg #[.int .i64 (a0_0 + 1), .slice AB r2.length cB], .slice (some adG) 1 cG, .int .i64 0] :: .agg #[.int .i64 (a0_0 + 1), .slice AB r2.length cB] :: .slice (some adG) 1 cG :: .int .i64 0 :: .int .i64 0 :: .bool true :: ta 54 :: ta 55 :: ta 56 :: ta 57 :: ta 58 :: ta 59 :: ta 60 :: ta 61 :: ta 62 :: tb 63 :: tb 64 :: tb 65 :: tb 66 :: tb 67 :: tb 68 :: tb 69 :: tb 70 :: tb 71 :: tb 72 :: tb 73 :: tb 74 :: tb 75 :: tb 76 :: tb 77 :: tb 78 :: tb 79 :: tb 80 :: tb 81 :: tb 82 :: tb 83 :: tb 84 :: tb 85 :: tb 86 :: tb 87 :: tb 88 :: tb 89 :: tb 90 :: tb 91 :: tb 92 :: tb 93 :: tb 94 :: undef :: undef :: undef :: undef :: undef :: undef :: undef :: undef :: undef :: undef :: undef :: undef :: undef :: undef :: undef :: undef :: undef :: undef :: undef :: undef :: undef :: undef :: undef :: undef :: undef :: undef :: undef :: undef :: undef :: undef :: undef :: undef :: undef :: undef :: undef :: undef :: undef :: undef :: undef :: undef :: undef :: undef :: undef :: undef :: undef :: undef :: undef :: undef :: undef :: undef :: undef :: undef :: undef :: undef :: undef :: undef :: undef :: undef :: undef :: undef :: undef :: undef :: undef :: undef :: undef :: undef :: undef :: undef :: undef :: undef :: undef :: undef :: undef :: undef :: undef :: undef :: undef :: undef :: undef :: undef :: undef :: undef :: undef :: undef :: undef :: undef :: undef :: undef :: undef :: undef :: undef :: undef :: undef :: undef :: undef :: undef :: undef :: undef :: undef :: undef :: undef :: undef :: undef :: undef :: undef :: undef :: undef :: undef :: undef :: undef :: undef :: undef :: undef :: undef :: undef :: undef :: undef :: undef :: undef :: undef :: undef :: undef :: undef :: undef :: undef :: undef :: undef :: undef :: undef :: undef :: undef :: undef :: undef :: undef :: undef :: undef :: undef :: undef :: undef :: undef :: undef :: undef :: undef :: undef :: undef :: []), defers := [] } ∧ Tab LL tb [(0, 63, .int .i64 0), (1, 64, .bool false), (2, 65, .bool false), (3, 66, .pointer (some ⟨g11, 1, none⟩)), (4, 67, .slice AC L2.length cC), (5, 68, .int .i64 (L2.length : Int)), (6, 69, .pointer (some ⟨gX, 1, none⟩)), (7, 70, .slice AX L.length cX), (8, 71, .int .i64 (L.length : Int)), (9, 72, .bool false), (10, 73, .bool false), (11, 74, .bool false), (12, 75, .slice AH 2 cH), (13, 76, .slice (some adG) 1 cG), (14, 77, .pointer (some (adG.add 0))), (15, 78, .int .i64 (i : Int)), (16, 79, .slice (some adG) 1 cG), (17, 80, .pointer (some (adG.add 0))), (18, 81, .int .i64 (i : Int)), (19, 82, .int .i64 ((i + 1 : Nat) : Int)), (20, 83, .slice (some ⟨g83, 0, none⟩) 2 2), (21, 84, .bool true), (22, 85, .bool false), (23, 86, .bool false), (24, 87, .bool false), (25, 88, .pointer (some ⟨g11, 0, none⟩)), (26, 89, .int .i64 (a0_0 + 2)), (27, 90, .pointer (some ⟨gX, 0, none⟩)), (28, 91, .int .i64 a0_0), (29, 92, .int .i64 (a0_0 + 2)), (30, 93, .bool false), (31, 94, .bool false)] ∧ Aside0 (Below w9.heap.size w9 wx) ∧ Aside0 (LL 20 = true → Kd.C (Kd.int .i64) wx (some ⟨g83, 0, none⟩) 2 [(i : Int), ((i + 1 : Nat) : Int)]))) ?_ ?_ ?_
          · exact ⟨0, fun _ => undef, ⟨rfl, Tab.start 32 rfl rfl, ⟨below_drew (Below.refl _ _)⟩, ⟨fun h => absurd h (by decide)⟩⟩⟩
          · refine Steps.cons ?_ (Steps.cons ?_ (Steps.cons ?_ (Steps.cons ?_ (Steps.cons ?_ (Steps.cons ?_ (Steps.cons ?_ (Steps.cons ?_ (Steps.cons ?_ (Steps.cons ?_ (Steps.cons ?_ (Steps.cons ?_ (Steps.cons ?_ (Steps.cons ?_ (Steps.cons ?_ (Steps.cons ?_ (Steps.cons ?_ (Steps.cons ?_ (Steps.cons ?_ (Steps.cons ?_ (Steps.cons ?_ (Steps.cons ?_ (Steps.cons ?_ (Steps.cons ?_ (Steps.cons ?_ (Steps.cons ?_ (Steps.cons ?_ (Steps.cons ?_ (Steps.cons ?_ (Steps.cons ?_ (Steps.cons ?_ (Steps.cons ?_ (Steps.nil))))))))))))))))))))))))))))))))
            · intro LL a wx hI hLk hd K' hK
              obtain ⟨g83, tb, hI⟩ := hI
              obtain rfl := hI.out.1
              rw [if_pos (by rfl)]
              go_simp
              exact hK.out _ _ ⟨g83, (put1 tb 63 (.int .i64 0)), ⟨rfl, hI.out.2.1.upd 0 rfl rfl rfl rfl, hI.out.2.2.1, hI.out.2.2.2⟩⟩
            · intro LL a wx hI hLk hd K' hK
              obtain ⟨g83, tb, hI⟩ := hI
              obtain rfl := hI.out.1
              have e0 := hI.out.2.1.at 0 rfl (hd 0 rfl)
              rw [if_pos (by rfl)]
              go_simp
              exact hK.out _ _ ⟨g83, (put1 (put1 tb 63 (.int .i64 0)) 64 (.bool false)), ⟨rfl, (hI.out.2.1.same (s := 63) (v := .int .i64 0) e0).upd 1 rfl rfl rfl rfl, hI.out.2.2.1, hI.out.2.2.2⟩⟩
            · intro LL a wx hI hLk hd K' hK
              obtain ⟨g83, tb, hI⟩ := hI
              obtain rfl := hI.out.1
              have e1 := hI.out.2.1.at 1 rfl (hd 1 rfl)
              rw [if_pos (by rfl)]
              go_simp
              exact hK.out _ _ ⟨g83, (put1 (put1 tb 64 (.bool false)) 65 (.bool false)), ⟨rfl, (hI.out.2.1.same (s := 64) (v := .bool false) e1).upd 2 rfl rfl rfl rfl, hI.out.2.2.1, hI.out.2.2.2⟩⟩
            · intro LL a wx hI hLk hd K' hK
              obtain ⟨g83, tb, hI⟩ := hI
              obtain rfl := hI.out.1
              have eg := hI.out.2.1.at 2 rfl (hd 2 rfl)
              rw [eg]
              rw [if_pos (by rfl)]
              go_simp
              exact hK.out _ _ ⟨g83, (put1 (put1 tb 65 (.bool false)) 66 (.pointer (some ⟨g11, 1, none⟩))), ⟨rfl, (hI.out.2.1.same (s := 65) (v := .bool false) eg).upd 3 rfl rfl rfl rfl, hI.out.2.2.1, hI.out.2.2.2⟩⟩
            · intro LL a wx hI hLk hd K' hK
              obtain ⟨g83, tb, hI⟩ := hI
              obtain rfl := hI.out.1
              have e3 := hI.out.2.1.at 3 rfl (hd 3 rfl)
              have hb := hI.out.2.2.1
              have ck := cell_keep hb.out C1c.out
              have eg := hI.out.2.1.at 2 rfl (hd 2 rfl)
              rw [eg]
              rw [if_pos (by rfl)]
              go_simp
              exact hK.out _ _ ⟨g83, (put1 (put1 (put1 tb 66 (.pointer (some ⟨g11, 1, none⟩))) 65 (.bool false)) 67 (.slice AC L2.length cC)), ⟨rfl, ((hI.out.2.1.same (s := 66) (v := .pointer (some ⟨g11, 1, none⟩)) e3).same (s := 65) (v := .bool false) eg).upd 4 rfl rfl rfl rfl, hI.out.2.2.1, hI.out.2.2.2⟩⟩
            · intro LL a wx hI hLk hd K' hK
              obtain ⟨g83, tb, hI⟩ := hI
              obtain rfl := hI.out.1
              have e4 := hI.out.2.1.at 4 rfl (hd 4 rfl)
              have eg := hI.out.2.1.at 2 rfl (hd 2 rfl)
              rw [eg]
              rw [if_pos (by rfl)]
              go_simp
              exact hK.out _ _ ⟨g83, (put1 (put1 (put1 tb 67 (.slice AC L2.length cC)) 65 (.bool false)) 68 (.int .i64 (L2.length : Int))), ⟨rfl, ((hI.out.2.1.same (s := 67) (v := .slice AC L2.length cC) e4).same (s := 65) (v := .bool false) eg).upd 5 rfl rfl rfl rfl, hI.out.2.2.1, hI.out.2.2.2⟩⟩
            · intro LL a wx hI hLk hd K' hK
              obtain ⟨g83, tb, hI⟩ := hI
              obtain rfl := hI.out.1
              have eg := hI.out.2.1.at 2 rfl (hd 2 rfl)
              rw [eg]
              rw [if_pos (by rfl)]
              go_simp
              exact hK.out _ _ ⟨g83, (put1 (put1 tb 65 (.bool false)) 69 (.pointer (some ⟨gX, 1, none⟩))), ⟨rfl, (hI.out.2.1.same (s := 65) (v := .bool false) eg).upd 6 rfl rfl rfl rfl, hI.out.2.2.1, hI.out.2.2.2⟩⟩
            · intro LL a wx hI hLk hd K' hK
              obtain ⟨g83, tb, hI⟩ := hI
              obtain rfl := hI.out.1
              have e6 := hI.out.2.1.at 6 rfl (hd 6 rfl)
              have hb := hI.out.2.2.1
              have ck := cell_keep hb.out X1.out
              have eg := hI.out.2.1.at 2 rfl (hd 2 rfl)
              rw [eg]
              rw [if_pos (by rfl)]
              go_simp
              exact hK.out _ _ ⟨g83, (put1 (put1 (put1 tb 69 (.pointer (some ⟨gX, 1, none⟩))) 65 (.bool false)) 70 (.slice AX L.length cX)), ⟨rfl, ((hI.out.2.1.same (s := 69) (v := .pointer (some ⟨gX, 1, none⟩)) e6).same (s := 65) (v := .bool false) eg).upd 7 rfl rfl rfl rfl, hI.out.2.2.1, hI.out.2.2.2⟩⟩
            · intro LL a wx hI hLk hd K' hK
              obtain ⟨g83, tb, hI⟩ := hI
              obtain rfl := hI.out.1
              have e7 := hI.out.2.1.at 7 rfl (hd 7 rfl)
              have eg := hI.out.2.1.at 2 rfl (hd 2 rfl)
              rw [eg]
              rw [if_pos (by rfl)]
              go_simp
              exact hK.out _ _ ⟨g83, (put1 (put1 (put1 tb 70 (.slice AX L.length cX)) 65 (.bool false)) 71 (.int .i64 (L.length : Int))), ⟨rfl, ((hI.out.2.1.same (s := 70) (v := .slice AX L.length cX) e7).same (s := 65) (v := .bool false) eg).upd 8 rfl rfl rfl rfl, hI.out.2.2.1, hI.out.2.2.2⟩⟩
            · intro LL a wx hI hLk hd K' hK
              obtain ⟨g83, tb, hI⟩ := hI
              obtain rfl := hI.out.1
              have e5 := hI.out.2.1.at 5 rfl (hd 5 rfl)
              have e8 := hI.out.2.1.at 8 rfl (hd 8 rfl)
              have q1_ := QL1.out
              have q2_ := QL2.out
              have q3_ := QL3.out
              have q4_ := QL4.out
              have eg := hI.out.2.1.at 2 rfl (hd 2 rfl)
              rw [eg]
              rw [if_pos (by rfl)]
              go_simp
              exact hK.out _ _ ⟨g83, (put1 (put1 (put1 (put1 tb 68 (.int .i64 (L2.length : Int))) 71 (.int .i64 (L.length : Int))) 65 (.bool false)) 72 (.bool false)), ⟨rfl, (((hI.out.2.1.same (s := 68) (v := .int .i64 (L2.length : Int)) e5).same (s := 71) (v := .int .i64 (L.length : Int)) e8).same (s := 65) (v := .bool false) eg).upd 9 rfl rfl rfl rfl, hI.out.2.2.1, hI.out.2.2.2⟩⟩
            · intro LL a wx hI hLk hd K' hK
              obtain ⟨g83, tb, hI⟩ := hI
              obtain rfl := hI.out.1
              have e2 := hI.out.2.1.at 2 rfl (hd 2 rfl)
              have e9 := hI.out.2.1.at 9 rfl (hd 9 rfl)
              rw [if_pos (by rfl)]
              go_simp
              exact hK.out _ _ ⟨g83, (put1 (put1 (put1 tb 65 (.bool false)) 72 (.bool false)) 73 (.bool false)), ⟨rfl, ((hI.out.2.1.same (s := 65) (v := .bool false) e2).same (s := 72) (v := .bool false) e9).upd 10 rfl rfl rfl rfl, hI.out.2.2.1, hI.out.2.2.2⟩⟩
            · intro LL a wx hI hLk hd K' hK
              obtain ⟨g83, tb, hI⟩ := hI
              obtain rfl := hI.out.1
              have e10 := hI.out.2.1.at 10 rfl (hd 10 rfl)
              rw [if_pos (by rfl)]
              go_simp
              exact hK.out _ _ ⟨g83, (put1 (put1 tb 73 (.bool false)) 74 (.bool false)), ⟨rfl, (hI.out.2.1.same (s := 73) (v := .bool false) e10).upd 11 rfl rfl rfl rfl, hI.out.2.2.1, hI.out.2.2.2⟩⟩
            · intro LL a wx hI hLk hd K' hK
              obtain ⟨g83, tb, hI⟩ := hI
              obtain rfl := hI.out.1
              have eg := hI.out.2.1.at 11 rfl (hd 11 rfl)
              rw [eg]
              rw [if_pos (by rfl)]
              go_simp
              exact hK.out _ _ ⟨g83, (put1 (put1 tb 74 (.bool false)) 75 (.slice AH 2 cH)), ⟨rfl, (hI.out.2.1.same (s := 74) (v := .bool false) eg).upd 12 rfl rfl rfl rfl, hI.out.2.2.1, hI.out.2.2.2⟩⟩
            · intro LL a wx hI hLk hd K' hK
              obtain ⟨g83, tb, hI⟩ := hI
              obtain rfl := hI.out.1
              have eg := hI.out.2.1.at 11 rfl (hd 11 rfl)
              rw [eg]
              rw [if_pos (by rfl)]
              go_simp
              exact hK.out _ _ ⟨g83, (put1 (put1 tb 74 (.bool false)) 76 (.slice (some adG) 1 cG)), ⟨rfl, (hI.out.2.1.same (s := 74) (v := .bool false) eg).upd 13 rfl rfl rfl rfl, hI.out.2.2.1, hI.out.2.2.2⟩⟩
            · intro LL a wx hI hLk hd K' hK
              obtain ⟨g83, tb, hI⟩ := hI
              obtain rfl := hI.out.1
              have e13 := hI.out.2.1.at 13 rfl (hd 13 rfl)
              have eg := hI.out.2.1.at 11 rfl (hd 11 rfl)
              rw [eg]
              rw [if_pos (by rfl)]
              go_simp
              exact hK.out _ _ ⟨g83, (put1 (put1 (put1 tb 76 (.slice (some adG) 1 cG)) 74 (.bool false)) 77 (.pointer (some (adG.add 0)))), ⟨rfl, ((hI.out.2.1.same (s := 76) (v := .slice (some adG) 1 cG) e13).same (s := 74) (v := .bool false) eg).upd 14 rfl rfl rfl rfl, hI.out.2.2.1, hI.out.2.2.2⟩⟩
            · intro LL a wx hI hLk hd K' hK
              obtain ⟨g83, tb, hI⟩ := hI
              obtain rfl := hI.out.1
              have e14 := hI.out.2.1.at 14 rfl (hd 14 rfl)
              have hb := hI.out.2.2.1
              have g0 : wx.cell? adG = some (.int .i64 (i : Int)) := cell_keep hb.out G0.out
              have eg := hI.out.2.1.at 11 rfl (hd 11 rfl)
              rw [eg]
              rw [if_pos (by rfl)]
              go_simp
              exact hK.out _ _ ⟨g83, (put1 (put1 (put1 tb 77 (.pointer (some (adG.add 0)))) 74 (.bool false)) 78 (.int .i64 (i : Int))), ⟨rfl, ((hI.out.2.1.same (s := 77) (v := .pointer (some (adG.add 0))) e14).same (s := 74) (v := .bool false) eg).upd 15 rfl rfl rfl rfl, hI.out.2.2.1, hI.out.2.2.2⟩⟩
            · intro LL a wx hI hLk hd K' hK
              obtain ⟨g83, tb, hI⟩ := hI
              obtain rfl := hI.out.1
              have eg := hI.out.2.1.at 11 rfl (hd 11 rfl)
              rw [eg]
              rw [if_pos (by rfl)]
              go_simp
              exact hK.out _ _ ⟨g83, (put1 (put1 tb 74 (.bool false)) 79 (.slice (some adG) 1 cG)), ⟨rfl, (hI.out.2.1.same (s := 74) (v := .bool false) eg).upd 16 rfl rfl rfl rfl, hI.out.2.2.1, hI.out.2.2.2⟩⟩
            · intro LL a wx hI hLk hd K' hK
              obtain ⟨g83, tb, hI⟩ := hI
              obtain rfl := hI.out.1
              have e16 := hI.out.2.1.at 16 rfl (hd 16 rfl)
              have eg := hI.out.2.1.at 11 rfl (hd 11 rfl)
              rw [eg]
              rw [if_pos (by rfl)]
              go_simp
              exact hK.out _ _ ⟨g83, (put1 (put1 (put1 tb 79 (.slice (some adG) 1 cG)) 74 (.bool false)) 80 (.pointer (some (adG.add 0)))), ⟨rfl, ((hI.out.2.1.same (s := 79) (v := .slice (some adG) 1 cG) e16).same (s := 74) (v := .bool false) eg).upd 17 rfl rfl rfl rfl, hI.out.2.2.1, hI.out.2.2.2⟩⟩
            · intro LL a wx hI hLk hd K' hK
              obtain ⟨g83, tb, hI⟩ := hI
              obtain rfl := hI.out.1
              have e17 := hI.out.2.1.at 17 rfl (hd 17 rfl)
              have hb := hI.out.2.2.1
              have g0 : wx.cell? adG = some (.int .i64 (i : Int)) := cell_keep hb.out G0.out
              have eg := hI.out.2.1.at 11 rfl (hd 11 rfl)
              rw [eg]
              rw [if_pos (by rfl)]
              go_simp
              exact hK.out _ _ ⟨g83, (put1 (put1 (put1 tb 80 (.pointer (some (adG.add 0)))) 74 (.bool false)) 81 (.int .i64 (i : Int))), ⟨rfl, ((hI.out.2.1.same (s := 80) (v := .pointer (some (adG.add 0))) e17).same (s := 74) (v := .bool false) eg).upd 18 rfl rfl rfl rfl, hI.out.2.2.1, hI.out.2.2.2⟩⟩
            · intro LL a wx hI hLk hd K' hK
              obtain ⟨g83, tb, hI⟩ := hI
              obtain rfl := hI.out.1
              have e18 := hI.out.2.1.at 18 rfl (hd 18 rfl)
              have hw := HWi.out
              have eg := hI.out.2.1.at 11 rfl (hd 11 rfl)
              rw [eg]
              rw [if_pos (by rfl)]
              go_simp
              exact hK.out _ _ ⟨g83, (put1 (put1 (put1 tb 81 (.int .i64 (i : Int))) 74 (.bool false)) 82 (.int .i64 ((i + 1 : Nat) : Int))), ⟨rfl, ((hI.out.2.1.same (s := 81) (v := .int .i64 (i : Int)) e18).same (s := 74) (v := .bool false) eg).upd 19 rfl rfl rfl rfl, hI.out.2.2.1, hI.out.2.2.2⟩⟩
            · intro LL a wx hI hLk hd K' hK
              obtain ⟨g83, tb, hI⟩ := hI
              obtain rfl := hI.out.1
              have e15 := hI.out.2.1.at 15 rfl (hd 15 rfl)
              have e19 := hI.out.2.1.at 19 rfl (hd 19 rfl)
              have hb := hI.out.2.2.1
              have eg := hI.out.2.1.at 11 rfl (hd 11 rfl)
              rw [eg]
              rw [if_pos (by rfl)]
              go_simp
              exact hK.out _ _ ⟨wx.heap.size, (put1 (put1 (put1 (put1 tb 78 (.int .i64 (i : Int))) 82 (.int .i64 ((i + 1 : Nat) : Int))) 74 (.bool false)) 83 (.slice (some ⟨wx.heap.size, 0, none⟩) 2 2)), ⟨rfl, (((hI.out.2.1.same (s := 78) (v := .int .i64 (i : Int)) e15).same (s := 82) (v := .int .i64 ((i + 1 : Nat) : Int)) e19).same (s := 74) (v := .bool false) eg).upd 20 rfl rfl rfl rfl, ⟨below_alloc hb.out _⟩, ⟨fun _ => const_row wx .i64 3 _ [(i : Int), ((i + 1 : Nat) : Int)] _ _ rfl rfl (by simp)⟩⟩⟩
            · intro LL a wx hI hLk hd K' hK
              obtain ⟨g83, tb, hI⟩ := hI
              obtain rfl := hI.out.1
              have e12 := hI.out.2.1.at 12 rfl (hd 12 rfl)
              have e20 := hI.out.2.1.at 20 rfl (hd 20 rfl)
              have hb := hI.out.2.2.1
              have h83 := hI.out.2.2.2
              have eg := hI.out.2.1.at 11 rfl (hd 11 rfl)
              rw [eg]
              rw [if_pos (by rfl)]
              go_simp
              go_at_call 29
              refine (gazetteerlaw14_same.calls 400 AH cH [(i : Int), ((i + 1 : Nat) : Int)] _ 2 [(i : Int), ((i + 1 : Nat) : Int)] true wx (Kd.C_below HRH.out hb.out) HCH.out (h83.out (hd 20 rfl)) (Nat.le_refl _) (same_two 395 _ _)).mono ?_
              rintro e w' ⟨rfl, hd1⟩
              have hb1 := hd1.below
              exact hK.out _ _ ⟨g83, (put1 (put1 (put1 (put1 tb 75 (.slice AH 2 cH)) 83 (.slice (some ⟨g83, 0, none⟩) 2 2)) 74 (.bool false)) 84 (.bool true)), ⟨rfl, (((hI.out.2.1.same (s := 75) (v := .slice AH 2 cH) e12).same (s := 83) (v := .slice (some ⟨g83, 0, none⟩) 2 2) e20).same (s := 74) (v := .bool false) eg).upd 21 rfl rfl rfl rfl, ⟨below_step hb.out hb1⟩, ⟨fun h => Kd.C_below (h83.out h) hb1⟩⟩⟩
            · intro LL a wx hI hLk hd K' hK
              obtain ⟨g83, tb, hI⟩ := hI
              obtain rfl := hI.out.1
              have e21 := hI.out.2.1.at 21 rfl (hd 21 rfl)
              have eg := hI.out.2.1.at 11 rfl (hd 11 rfl)
              rw [eg]
              rw [if_pos (by rfl)]
              go_simp
              exact hK.out _ _ ⟨g83, (put1 (put1 (put1 tb 84 (.bool true)) 74 (.bool false)) 85 (.bool false)), ⟨rfl, ((hI.out.2.1.same (s := 84) (v := .bool true) e21).same (s := 74) (v := .bool false) eg).upd 22 rfl rfl rfl rfl, hI.out.2.2.1, hI.out.2.2.2⟩⟩
            · intro LL a wx hI hLk hd K' hK
              obtain ⟨g83, tb, hI⟩ := hI
              obtain rfl := hI.out.1
              have e11 := hI.out.2.1.at 11 rfl (hd 11 rfl)
              have e22 := hI.out.2.1.at 22 rfl (hd 22 rfl)
              rw [if_pos (by rfl)]
              go_simp
              exact hK.out _ _ ⟨g83, (put1 (put1 (put1 tb 74 (.bool false)) 85 (.bool false)) 86 (.bool false)), ⟨rfl, ((hI.out.2.1.same (s := 74) (v := .bool false) e11).same (s := 85) (v := .bool false) e22).upd 23 rfl rfl rfl rfl, hI.out.2.2.1, hI.out.2.2.2⟩⟩
            · intro LL a wx hI hLk hd K' hK
              obtain ⟨g83, tb, hI⟩ := hI
              obtain rfl := hI.out.1
              have e23 := hI.out.2.1.at 23 rfl (hd 23 rfl)
              rw [if_pos (by rfl)]
              go_simp
              exact hK.out _ _ ⟨g83, (put1 (put1 tb 86 (.bool false)) 87 (.bool false)), ⟨rfl, (hI.out.2.1.same (s := 86) (v := .bool false) e23).upd 24 rfl rfl rfl rfl, hI.out.2.2.1, hI.out.2.2.2⟩⟩
            · intro LL a wx hI hLk hd K' hK
              obtain ⟨g83, tb, hI⟩ := hI
              obtain rfl := hI.out.1
              have eg := hI.out.2.1.at 24 rfl (hd 24 rfl)
              rw [eg]
              rw [if_pos (by rfl)]
              go_simp
              exact hK.out _ _ ⟨g83, (put1 (put1 tb 87 (.bool false)) 88 (.pointer (some ⟨g11, 0, none⟩))), ⟨rfl, (hI.out.2.1.same (s := 87) (v := .bool false) eg).upd 25 rfl rfl rfl rfl, hI.out.2.2.1, hI.out.2.2.2⟩⟩
            · intro LL a wx hI hLk hd K' hK
              obtain ⟨g83, tb, hI⟩ := hI
              obtain rfl := hI.out.1
              have e25 := hI.out.2.1.at 25 rfl (hd 25 rfl)
              have hb := hI.out.2.2.1
              have ck := cell_keep hb.out C0c.out
              have eg := hI.out.2.1.at 24 rfl (hd 24 rfl)
              rw [eg]
              rw [if_pos (by rfl)]
              go_simp
              exact hK.out _ _ ⟨g83, (put1 (put1 (put1 tb 88 (.pointer (some ⟨g11, 0, none⟩))) 87 (.bool false)) 89 (.int .i64 (a0_0 + 2))), ⟨rfl, ((hI.out.2.1.same (s := 88) (v := .pointer (some ⟨g11, 0, none⟩)) e25).same (s := 87) (v := .bool false) eg).upd 26 rfl rfl rfl rfl, hI.out.2.2.1, hI.out.2.2.2⟩⟩
            · intro LL a wx hI hLk hd K' hK
              obtain ⟨g83, tb, hI⟩ := hI
              obtain rfl := hI.out.1
              have eg := hI.out.2.1.at 24 rfl (hd 24 rfl)
              rw [eg]
              rw [if_pos (by rfl)]
              go_simp
              exact hK.out _ _ ⟨g83, (put1 (put1 tb 87 (.bool false)) 90 (.pointer (some ⟨gX, 0, none⟩))), ⟨rfl, (hI.out.2.1.same (s := 87) (v := .bool false) eg).upd 27 rfl rfl rfl rfl, hI.out.2.2.1, hI.out.2.2.2⟩⟩
            · intro LL a wx hI hLk hd K' hK
              obtain ⟨g83, tb, hI⟩ := hI
              obtain rfl := hI.out.1
              have e27 := hI.out.2.1.at 27 rfl (hd 27 rfl)
              have hb := hI.out.2.2.1
              have ck := cell_keep hb.out X0.out
              have eg := hI.out.2.1.at 24 rfl (hd 24 rfl)
              rw [eg]
              rw [if_pos (by rfl)]
              go_simp
              exact hK.out _ _ ⟨g83, (put1 (put1 (put1 tb 90 (.pointer (some ⟨gX, 0, none⟩))) 87 (.bool false)) 91 (.int .i64 a0_0)), ⟨rfl, ((hI.out.2.1.same (s := 90) (v := .pointer (some ⟨gX, 0, none⟩)) e27).same (s := 87) (v := .bool false) eg).upd 28 rfl rfl rfl rfl, hI.out.2.2.1, hI.out.2.2.2⟩⟩
            · intro LL a wx hI hLk hd K' hK
              obtain ⟨g83, tb, hI⟩ := hI
              obtain rfl := hI.out.1
              have e28 := hI.out.2.1.at 28 rfl (hd 28 rfl)
              have hw := HW2.out
              have eg := hI.out.2.1.at 24 rfl (hd 24 rfl)
              rw [eg]
              rw [if_pos (by rfl)]
              go_simp
              exact hK.out _ _ ⟨g83, (put1 (put1 (put1 tb 91 (.int .i64 a0_0)) 87 (.bool false)) 92 (.int .i64 (a0_0 + 2))), ⟨rfl, ((hI.out.2.1.same (s := 91) (v := .int .i64 a0_0) e28).same (s := 87) (v := .bool false) eg).upd 29 rfl rfl rfl rfl, hI.out.2.2.1, hI.out.2.2.2⟩⟩
            · intro LL a wx hI hLk hd K' hK
              obtain ⟨g83, tb, hI⟩ := hI
              obtain rfl := hI.out.1
              have e26 := hI.out.2.1.at 26 rfl (hd 26 rfl)
              have e29 := hI.out.2.1.at 29 rfl (hd 29 rfl)
              have eg := hI.out.2.1.at 24 rfl (hd 24 rfl)
              rw [eg]
              rw [if_pos (by rfl)]
              go_simp
              exact hK.out _ _ ⟨g83, (put1 (put1 (put1 (put1 tb 89 (.int .i64 (a0_0 + 2))) 92 (.int .i64 (a0_0 + 2))) 87 (.bool false)) 93 (.bool false)), ⟨rfl, (((hI.out.2.1.same (s := 89) (v := .int .i64 (a0_0 + 2)) e26).same (s := 92) (v := .int .i64 (a0_0 + 2)) e29).same (s := 87) (v := .bool false) eg).upd 30 rfl rfl rfl rfl, hI.out.2.2.1, hI.out.2.2.2⟩⟩
            · intro LL a wx hI hLk hd K' hK
              obtain ⟨g83, tb, hI⟩ := hI
              obtain rfl := hI.out.1
              have e24 := hI.out.2.1.at 24 rfl (hd 24 rfl)
              have e30 := hI.out.2.1.at 30 rfl (hd 30 rfl)
              rw [if_pos (by rfl)]
              go_simp
              exact hK.out _ _ ⟨g83, (put1 (put1 (put1 tb 87 (.bool false)) 93 (.bool false)) 94 (.bool false)), ⟨rfl, ((hI.out.2.1.same (s := 87) (v := .bool false) e24).same (s := 93) (v := .bool false) e30).upd 31 rfl rfl rfl rfl, hI.out.2.2.1, hI.out.2.2.2⟩⟩
          · intro LL a wq hall hI
            obtain ⟨g83, tb, hI⟩ := hI
            obtain rfl := hI.out.1
            have hb := hI.out.2.2.1
            have h83 := hI.out.2.2.2
            have e31 := hI.out.2.1.at 31 rfl (hall 31 (by decide))
            rw [e31]
            have HB10q : Aside0 (Below w8.heap.size w8 wq) := ⟨below_step HB9.out hb.out⟩
            have HRX : Aside0 (Kd.C k30 wq AX L.length L) := ⟨Kd.C_below HRX.out hb.out⟩
            have HRC : Aside0 (Kd.C k30 wq AC L2.length L2) := ⟨Kd.C_below HRC.out hb.out⟩
            have G0 : Aside0 (wq.cell? (adG.add 0) = some (.int .i64 (i : Int))) := ⟨cell_keep hb.out G0.out⟩
            have X1 : Aside0 (wq.cell? ⟨gX, 1, none⟩ = some (.slice AX L.length cX)) := ⟨cell_keep hb.out X1.out⟩
            have C1c : Aside0 (wq.cell? ⟨g11, 1, none⟩ = some (.slice AC L2.length cC)) := ⟨cell_keep hb.out C1c.out⟩
            clear hI hb h83 e31 HRH HCH HX9 HG HB9 QL1 QL2 QL3 QL4 C0c X0
            go_wp2_with fail
            go_loopw [14] (fun j wr => ∃ k : Nat, k ≤ L2.length ∧ j = .int .i64 k ∧ Aside0 (Below wq.heap.size wq wr)) (fun j _ => L2.length - (intOf j).toNat)
            case atStart => exact ⟨0, Nat.zero_le _, rfl, ⟨Below.refl _ _⟩⟩
            case round =>
              obtain ⟨k14, hk, rfl, HBr⟩ := hrel
              by_cases hlt : k14 < L2.length
              · have hlt2 : k14 < L.length := by rw [← HL2.out]; exact hlt
                obtain ⟨adC, qC, e0, e1, e2, e3⟩ := at_T30 (Kd.C_below HRC.out HBr.out) (k14 : Int) (by omega) (by omega)
                subst qC
                obtain ⟨adX, qX, f0, f1, f2, f3⟩ := at_T30 (Kd.C_below HRX.out HBr.out) (k14 : Int) (by omega) (by omega)
                subst qX
                rw [show rd_T30 L2 (k14 : Int) = L2.getD k14 z30 by simp [rd_T30], Int.toNat_natCast] at e0 e1 e2 e3
                rw [show rd_T30 L (k14 : Int) = L.getD k14 z30 by simp [rd_T30], Int.toNat_natCast] at f0 f1 f2 f3
                have HNE : Aside0 (a0_0 + 2 ≠ (L.getD k14 z30).f2) := ⟨by
                  have := (HV.out.2.2.2.2 (L.getD k14 z30) (by rw [List.getD_eq_getElem?_getD, List.getElem?_eq_getElem hlt2]; exact List.getElem_mem hlt2)).2.2.2
                  omega⟩
                have hc1 : ((k14 : Int) < (L2.length : Int)) = True := eq_true (by omega)
                have hc2 : ((k14 : Int) < (L.length : Int)) = True := eq_true (by omega)
                have hc3 : ((0 : Int) ≤ (k14 : Int)) = True := eq_true (by omega)
                have x1 : wr.cell? ⟨gX, 1, none⟩ = some (.slice (some adX) L.length cX) := cell_keep HBr.out X1.out
                have c1 : wr.cell? ⟨g11, 1, none⟩ = some (.slice (some adC) L2.length cC) := cell_keep HBr.out C1c.out
                have g0 : wr.cell? adG = some (.int .i64 (i : Int)) := cell_keep HBr.out G0.out
                have hw14 : wrap64 ((k14 : Int) + 1) = ((k14 + 1 : Nat) : Int) := by have := HV.out.2.1; unfold wrap64; omega
                have HW14 := Aside0.mk hw14
                have HLT := Aside0.mk hlt
                clear hlt hlt2 hw14
                by_cases hji : k14 = i
                · subst hji
                  rw [Q0.out] at e0 e1
                  rw [Q1.out] at e2
                  rw [q3e.out] at e3
                  obtain ⟨d, hd⟩ : ∃ d : S30, d = L.getD k14 z30 := ⟨_, rfl⟩
                  rw [← hd] at HNE
                  rw [← hd] at e0 e1 e2 f0 f1 f2 f3
                  (try rw [← hd] at e3)
                  clear hd
                  have t1 : ((a0_0 + 2 : Int) = d.f2) = False := eq_false HNE.out
                  have t2 : ((a0_0 + 2 : Int) == d.f2) = false := beq_eq_false_iff_ne.mpr HNE.out
                  go_wp2_with fail
                  refine wp_region_steps 49 rfl rfl (by kernel_rfl) (fun LL a wx => ∃ td : Nat → Value, Aside0 (a = { tmps := List.toArray (.agg #[.int .i64 a0_0, .slice A0_1 l0_1.length c0_1] :: .string a1 :: .int .u8 a2 :: .pointer (some ⟨gA, 0, none⟩) :: undef :: undef :: u6 :: .pointer (some ⟨gX, 0, none⟩) :: .pointer (some ⟨gB, 0, none⟩) :: .slice (some adG) 1 cG :: .int .i64 0 :: .pointer (some ⟨g11, 0, none⟩) :: .slice AH 2 cH :: .int .i64 0 :: .int .i64 (k14 : Int) :: undef :: undef :: undef :: undef :: undef :: undef :: undef :: undef :: .bool true :: .bool false :: .agg #[.int .i64 a0_0, .slice A0_1 l0_1.length c0_1] :: .bool true :: .bool false :: .bool false :: .string a1 :: .int .i64 (a1.size : Int) :: .bool false :: .bool false :: .bool false :: .agg #[.int .i64 a0_0, .slice A0_1 l0_1.length c0_1] :: .bool true :: .bool false :: .bool false :: .bool false :: .pointer (some ⟨gA, 0, none⟩) :: .int .i64 a0_0 :: .bool false :: .bool false :: .agg #[.int .i64 a0_0, .slice A0_1 l0_1.length c0_1] :: .agg #[.int .i64 a0_0, .slice (some adX) L.length cX] :: .tuple #[.agg #[.int .i64 (a0_0 + 1), .slice AB r2.length cB], .slice (some adG) 1 cG, .int .i64 0] :: .agg #[.int .i64 a0_0, .slice (some adX) L.length cX] :: .string a1 :: .tuple #[.agg #[.int .i64 (a0_0 + 1), .slice AB r2.length cB], .slice (some adG) 1 cG, .int .i64 0] :: .agg #[.int .i64 (a0_0 + 1), .slice AB r2.length cB] :: .slice (some adG) 1 cG :: .int .i64 0 :: .int .i64 0 :: .bool true :: ta 54 :: ta 55 :: ta 56 :: ta 57 :: ta 58 :: ta 59 :: ta 60 :: ta 61 :: ta 62 :: tb 63 :: tb 64 :: tb 65 :: tb 66 :: tb 67 :: tb 68 :: tb 69 :: tb 70 :: tb 71 :: tb 72 :: tb 73 :: tb 74 :: tb 75 :: tb 76 :: tb 77 :: tb 78 :: tb 79 :: tb 80 :: tb 81 :: tb 82 :: tb 83 :: tb 84 :: tb 85 :: tb 86 :: tb 87 :: tb 88 :: tb 89 :: tb 90 :: tb 91 :: tb 92 :: tb 93 :: .bool false :: .int .i64 (k14 : Int) :: .pointer (some ⟨g11, 1, none⟩) :: .slice (some adC) L2.length cC :: .int .i64 (L2.length : Int) :: .bool true :: u100 :: u101 :: td 102 :: td 103 :: td 104 :: td 105 :: td 106 :: td 107 :: td 108 :: td 109 :: td 110 :: td 111 :: td 112 :: td 113 :: td 114 :: td 115 :: td 116 :: td 117 :: td 118 :: td 119 :: td 120 :: td 121 :: td 122 :: td 123 :: td 124 :: td 125 :: td 126 :: td 127 :: td 128 :: td 129 :: td 130 :: td 131 :: td 132 :: td 133 :: td 134 :: td 135 :: td 136 :: td 137 :: td 138 :: td 139 :: td 140 :: td 141 :: td 142 :: td 143 :: td 144 :: td 145 :: td 146 :: td 147 :: td 148 :: td 149 :: td 150 :: undef :: undef :: undef :: undef :: undef :: undef :: undef :: undef :: undef :: undef :: undef :: undef :: undef :: undef :: undef :: undef :: undef :: undef :: undef :: undef :: undef :: undef :: undef :: undef :: undef :: undef :: undef :: undef :: undef :: undef :: undef :: undef :: undef :: undef :: undef :: undef :: undef :: undef :: undef :: undef :: undef :: undef :: undef :: undef :: undef :: undef :: undef :: undef :: undef :: undef :: undef :: undef :: undef :: undef :: undef :: undef :: undef :: undef :: undef :: undef :: undef :: undef :: undef :: undef :: undef :: undef :: undef :: undef :: undef :: undef :: undef :: undef :: undef :: undef :: undef :: undef :: undef :: undef :: undef :: undef :: undef :: undef :: undef :: undef :: undef :: undef :: undef :: undef :: undef :: []), defers := [] } ∧ Tab LL td [(0, 102, .pointer (some ⟨g11, 1, none⟩)), (1, 103, .slice (some adC) L2.length cC), (2, 104, .int .i64 (k14 : Int)), (3, 105, .pointer (some (adC.add (k14 * 4)))), (4, 106, .pointer (some (adC.add (k14 * 4)))), (5, 107, .agg #[.string d.f0.f0, .string d.f0.f1]), (6, 108, .pointer (some ⟨gX, 1, none⟩)), (7, 109, .slice (some adX) L.length cX), (8, 110, .int .i64 (k14 : Int)), (9, 111, .pointer (some (adX.add (k14 * 4)))), (10, 112, .pointer (some (adX.add (k14 * 4)))), (11, 113, .agg #[.string d.f0.f0, .string d.f0.f1]), (12, 114, .bool false), (13, 115, .bool false), (14, 116, .pointer (some ⟨g11, 1, none⟩)), (15, 117, .slice (some adC) L2.length cC), (16, 118, .int .i64 (k14 : Int)), (17, 119, .pointer (some (adC.add (k14 * 4)))), (18, 120, .pointer (some ⟨(adC.add (k14 * 4)).block, (adC.add (k14 * 4)).off + 2, none⟩)), (19, 121, .int .i64 d.f1), (20, 122, .pointer (some ⟨gX, 1, none⟩)), (21, 123, .slice (some adX) L.length cX), (22, 124, .int .i64 (k14 : Int)), (23, 125, .pointer (some (adX.add (k14 * 4)))), (24, 126, .pointer (some ⟨(adX.add (k14 * 4)).block, (adX.add (k14 * 4)).off + 2, none⟩)), (25, 127, .int .i64 d.f1), (26, 128, .bool false), (27, 129, .bool false), (28, 130, .bool false), (29, 131, .pointer (some ⟨g11, 1, none⟩)), (30, 132, .slice (some adC) L2.length cC), (31, 133, .int .i64 (k14 : Int)), (32, 134, .pointer (some (adC.add (k14 * 4)))), (33, 135, .pointer (some ⟨(adC.add (k14 * 4)).block, (adC.add (k14 * 4)).off + 3, none⟩)), (34, 136, .int .i64 (a0_0 + 2)), (35, 137, .pointer (some ⟨gX, 1, none⟩)), (36, 138, .slice (some adX) L.length cX), (37, 139, .int .i64 (k14 : Int)), (38, 140, .pointer (some (adX.add (k14 * 4)))), (39, 141, .pointer (some ⟨(adX.add (k14 * 4)).block, (adX.add (k14 * 4)).off + 3, none⟩)), (40, 142, .int .i64 d.f2), (41, 143, .bool false), (42, 144, .int .i64 (k14 : Int)), (43, 145, .slice (some adG) 1 cG), (44, 146, .pointer (some (adG.add 0))), (45, 147, .int .i64 (k14 : Int)), (46, 148, .bool false), (47, 149, .bool false), (48, 150, .bool false)] ∧ Aside0 (Below wr.heap.size wr wx))) ?_ ?_ ?_
                  · exact ⟨(put1 (put1 (put1 (put1 (put1 (put1 (put1 (put1 (put1 (put1 (put1 (put1 (put1 (put1 (put1 (put1 (put1 (put1 (put1 (put1 (put1 (put1 (put1 (put1 (put1 (put1 (put1 (put1 (put1 (put1 (put1 (put1 (put1 (put1 (put1 (put1 (put1 (put1 (put1 (put1 (put1 (put1 (put1 (put1 (put1 (put1 (put1 (put1 (put1 (fun _ => undef) 102 (u102)) 103 (u103)) 104 (u104)) 105 (u105)) 106 (u106)) 107 (u107)) 108 (u108)) 109 (u109)) 110 (u110)) 111 (u111)) 112 (u112)) 113 (u113)) 114 (u114)) 115 (u115)) 116 (u116)) 117 (u117)) 118 (u118)) 119 (u119)) 120 (u120)) 121 (u121)) 122 (u122)) 123 (u123)) 124 (u124)) 125 (u125)) 126 (u126)) 127 (u127)) 128 (u128)) 129 (u129)) 130 (u130)) 131 (u131)) 132 (u132)) 133 (u133)) 134 (u134)) 135 (u135)) 136 (u136)) 137 (u137)) 138 (u138)) 139 (u139)) 140 (u140)) 141 (u141)) 142 (u142)) 143 (u143)) 144 (u144)) 145 (u145)) 146 (u146)) 147 (u147)) 148 (u148)) 149 (u149)) 150 (u150)), ⟨rfl, Tab.start 49 rfl rfl, ⟨below_drew (Below.refl _ _)⟩⟩⟩
                  · refine Steps.cons ?_ (Steps.cons ?_ (Steps.cons ?_ (Steps.cons ?_ (Steps.cons ?_ (Steps.cons ?_ (Steps.cons ?_ (Steps.cons ?_ (Steps.cons ?_ (Steps.cons ?_ (Steps.cons ?_ (Steps.cons ?_ (Steps.cons ?_ (Steps.cons ?_ (Steps.cons ?_ (Steps.cons ?_ (Steps.cons ?_ (Steps.cons ?_ (Steps.cons ?_ (Steps.cons ?_ (Steps.cons ?_ (Steps.cons ?_ (Steps.cons ?_ (Steps.cons ?_ (Steps.cons ?_ (Steps.cons ?_ (Steps.cons ?_ (Steps.cons ?_ (Steps.cons ?_ (Steps.cons ?_ (Steps.cons ?_ (Steps.cons ?_ (Steps.cons ?_ (Steps.cons ?_ (Steps.cons ?_ (Steps.cons ?_ (Steps.cons ?_ (Steps.cons ?_ (Steps.cons ?_ (Steps.cons ?_ (Steps.cons ?_ (Steps.cons ?_ (Steps.cons ?_ (Steps.cons ?_ (Steps.cons ?_ (Steps.cons ?_ (Steps.cons ?_ (Steps.cons ?_ (Steps.cons ?_ (Steps.nil)))))))))))))))))))))))))))))))))))))))))))))))))
                    · intro LL a wx hI hLk hd K' hK
                      obtain ⟨td, hI⟩ := hI
                      obtain rfl := hI.out.1
                      rw [if_pos (by rfl)]
                      go_simp
                      exact hK.out _ _ ⟨(put1 td 102 (.pointer (some ⟨g11, 1, none⟩))), ⟨rfl, hI.out.2.1.upd 0 rfl rfl rfl rfl, hI.out.2.2⟩⟩
                    · intro LL a wx hI hLk hd K' hK
                      obtain ⟨td, hI⟩ := hI
                      obtain rfl := hI.out.1
                      have e0 := hI.out.2.1.at 0 rfl (hd 0 rfl)
                      have hb := hI.out.2.2
                      have c_c1 := cell_keep hb.out c1
                      rw [if_pos (by rfl)]
                      go_simp
                      exact hK.out _ _ ⟨(put1 (put1 td 102 (.pointer (some ⟨g11, 1, none⟩))) 103 (.slice (some adC) L2.length cC)), ⟨rfl, (hI.out.2.1.same (s := 102) (v := .pointer (some ⟨g11, 1, none⟩)) e0).upd 1 rfl rfl rfl rfl, hI.out.2.2⟩⟩
                    · intro LL a wx hI hLk hd K' hK
                      obtain ⟨td, hI⟩ := hI
                      obtain rfl := hI.out.1
                      rw [if_pos (by rfl)]
                      go_simp
                      exact hK.out _ _ ⟨(put1 td 104 (.int .i64 (k14 : Int))), ⟨rfl, hI.out.2.1.upd 2 rfl rfl rfl rfl, hI.out.2.2⟩⟩
                    · intro LL a wx hI hLk hd K' hK
                      obtain ⟨td, hI⟩ := hI
                      obtain rfl := hI.out.1
                      have e1 := hI.out.2.1.at 1 rfl (hd 1 rfl)
                      have e2 := hI.out.2.1.at 2 rfl (hd 2 rfl)
                      rw [if_pos (by rfl)]
                      go_simp
                      exact hK.out _ _ ⟨(put1 (put1 (put1 td 103 (.slice (some adC) L2.length cC)) 104 (.int .i64 (k14 : Int))) 105 (.pointer (some (adC.add (k14 * 4))))), ⟨rfl, ((hI.out.2.1.same (s := 103) (v := .slice (some adC) L2.length cC) e1).same (s := 104) (v := .int .i64 (k14 : Int)) e2).upd 3 rfl rfl rfl rfl, hI.out.2.2⟩⟩
                    · intro LL a wx hI hLk hd K' hK
                      obtain ⟨td, hI⟩ := hI
                      obtain rfl := hI.out.1
                      have e3 := hI.out.2.1.at 3 rfl (hd 3 rfl)
                      rw [if_pos (by rfl)]
                      go_simp
                      exact hK.out _ _ ⟨(put1 (put1 td 105 (.pointer (some (adC.add (k14 * 4))))) 106 (.pointer (some (adC.add (k14 * 4))))), ⟨rfl, (hI.out.2.1.same (s := 105) (v := .pointer (some (adC.add (k14 * 4)))) e3).upd 4 rfl rfl rfl rfl, hI.out.2.2⟩⟩
                    · intro LL a wx hI hLk hd K' hK
                      obtain ⟨td, hI⟩ := hI
                      obtain rfl := hI.out.1
                      have e4 := hI.out.2.1.at 4 rfl (hd 4 rfl)
                      have hb := hI.out.2.2
                      have c_e0 := cell_keep hb.out e0
                      have c_e1 := cell_keep hb.out e1
                      rw [if_pos (by rfl)]
                      go_simp
                      exact hK.out _ _ ⟨(put1 (put1 td 106 (.pointer (some (adC.add (k14 * 4))))) 107 (.agg #[.string d.f0.f0, .string d.f0.f1])), ⟨rfl, (hI.out.2.1.same (s := 106) (v := .pointer (some (adC.add (k14 * 4)))) e4).upd 5 rfl rfl rfl rfl, hI.out.2.2⟩⟩
                    · intro LL a wx hI hLk hd K' hK
                      obtain ⟨td, hI⟩ := hI
                      obtain rfl := hI.out.1
                      rw [if_pos (by rfl)]
                      go_simp
                      exact hK.out _ _ ⟨(put1 td 108 (.pointer (some ⟨gX, 1, none⟩))), ⟨rfl, hI.out.2.1.upd 6 rfl rfl rfl rfl, hI.out.2.2⟩⟩
                    · intro LL a wx hI hLk hd K' hK
                      obtain ⟨td, hI⟩ := hI
                      obtain rfl := hI.out.1
                      have e6 := hI.out.2.1.at 6 rfl (hd 6 rfl)
                      have hb := hI.out.2.2
                      have c_x1 := cell_keep hb.out x1
                      rw [if_pos (by rfl)]
                      go_simp
                      exact hK.out _ _ ⟨(put1 (put1 td 108 (.pointer (some ⟨gX, 1, none⟩))) 109 (.slice (some adX) L.length cX)), ⟨rfl, (hI.out.2.1.same (s := 108) (v := .pointer (some ⟨gX, 1, none⟩)) e6).upd 7 rfl rfl rfl rfl, hI.out.2.2⟩⟩
                    · intro LL a wx hI hLk hd K' hK
                      obtain ⟨td, hI⟩ := hI
                      obtain rfl := hI.out.1
                      rw [if_pos (by rfl)]
                      go_simp
                      exact hK.out _ _ ⟨(put1 td 110 (.int .i64 (k14 : Int))), ⟨rfl, hI.out.2.1.upd 8 rfl rfl rfl rfl, hI.out.2.2⟩⟩
                    · intro LL a wx hI hLk hd K' hK
                      obtain ⟨td, hI⟩ := hI
                      obtain rfl := hI.out.1
                      have e7 := hI.out.2.1.at 7 rfl (hd 7 rfl)
                      have e8 := hI.out.2.1.at 8 rfl (hd 8 rfl)
                      rw [if_pos (by rfl)]
                      go_simp
                      exact hK.out _ _ ⟨(put1 (put1 (put1 td 109 (.slice (some adX) L.length cX)) 110 (.int .i64 (k14 : Int))) 111 (.pointer (some (adX.add (k14 * 4))))), ⟨rfl, ((hI.out.2.1.same (s := 109) (v := .slice (some adX) L.length cX) e7).same (s := 110) (v := .int .i64 (k14 : Int)) e8).upd 9 rfl rfl rfl rfl, hI.out.2.2⟩⟩
                    · intro LL a wx hI hLk hd K' hK
                      obtain ⟨td, hI⟩ := hI
                      obtain rfl := hI.out.1
                      have e9 := hI.out.2.1.at 9 rfl (hd 9 rfl)
                      rw [if_pos (by rfl)]
                      go_simp
                      exact hK.out _ _ ⟨(put1 (put1 td 111 (.pointer (some (adX.add (k14 * 4))))) 112 (.pointer (some (adX.add (k14 * 4))))), ⟨rfl, (hI.out.2.1.same (s := 111) (v := .pointer (some (adX.add (k14 * 4)))) e9).upd 10 rfl rfl rfl rfl, hI.out.2.2⟩⟩
                    · intro LL a wx hI hLk hd K' hK
                      obtain ⟨td, hI⟩ := hI
                      obtain rfl := hI.out.1
                      have e10 := hI.out.2.1.at 10 rfl (hd 10 rfl)
                      have hb := hI.out.2.2
                      have c_f0 := cell_keep hb.out f0
                      have c_f1 := cell_keep hb.out f1
                      rw [if_pos (by rfl)]
                      go_simp
                      exact hK.out _ _ ⟨(put1 (put1 td 112 (.pointer (some (adX.add (k14 * 4))))) 113 (.agg #[.string d.f0.f0, .string d.f0.f1])), ⟨rfl, (hI.out.2.1.same (s := 112) (v := .pointer (some (adX.add (k14 * 4)))) e10).upd 11 rfl rfl rfl rfl, hI.out.2.2⟩⟩
                    · intro LL a wx hI hLk hd K' hK
                      obtain ⟨td, hI⟩ := hI
                      obtain rfl := hI.out.1
                      have e5 := hI.out.2.1.at 5 rfl (hd 5 rfl)
                      have e11 := hI.out.2.1.at 11 rfl (hd 11 rfl)
                      rw [if_pos (by rfl)]
                      go_simp
                      exact hK.out _ _ ⟨(put1 (put1 (put1 td 107 (.agg #[.string d.f0.f0, .string d.f0.f1])) 113 (.agg #[.string d.f0.f0, .string d.f0.f1])) 114 (.bool false)), ⟨rfl, ((hI.out.2.1.same (s := 107) (v := .agg #[.string d.f0.f0, .string d.f0.f1]) e5).same (s := 113) (v := .agg #[.string d.f0.f0, .string d.f0.f1]) e11).upd 12 rfl rfl rfl rfl, hI.out.2.2⟩⟩
                    · intro LL a wx hI hLk hd K' hK
                      obtain ⟨td, hI⟩ := hI
                      obtain rfl := hI.out.1
                      have e12 := hI.out.2.1.at 12 rfl (hd 12 rfl)
                      rw [if_pos (by rfl)]
                      go_simp
                      exact hK.out _ _ ⟨(put1 (put1 td 114 (.bool false)) 115 (.bool false)), ⟨rfl, (hI.out.2.1.same (s := 114) (v := .bool false) e12).upd 13 rfl rfl rfl rfl, hI.out.2.2⟩⟩
                    · intro LL a wx hI hLk hd K' hK
                      obtain ⟨td, hI⟩ := hI
                      obtain rfl := hI.out.1
                      have eg := hI.out.2.1.at 13 rfl (hd 13 rfl)
                      rw [eg]
                      rw [if_pos (by rfl)]
                      go_simp
                      exact hK.out _ _ ⟨(put1 (put1 td 115 (.bool false)) 116 (.pointer (some ⟨g11, 1, none⟩))), ⟨rfl, (hI.out.2.1.same (s := 115) (v := .bool false) eg).upd 14 rfl rfl rfl rfl, hI.out.2.2⟩⟩
                    · intro LL a wx hI hLk hd K' hK
                      obtain ⟨td, hI⟩ := hI
                      obtain rfl := hI.out.1
                      have e14 := hI.out.2.1.at 14 rfl (hd 14 rfl)
                      have hb := hI.out.2.2
                      have c_c1 := cell_keep hb.out c1
                      have eg := hI.out.2.1.at 13 rfl (hd 13 rfl)
                      rw [eg]
                      rw [if_pos (by rfl)]
                      go_simp
                      exact hK.out _ _ ⟨(put1 (put1 (put1 td 116 (.pointer (some ⟨g11, 1, none⟩))) 115 (.bool false)) 117 (.slice (some adC) L2.length cC)), ⟨rfl, ((hI.out.2.1.same (s := 116) (v := .pointer (some ⟨g11, 1, none⟩)) e14).same (s := 115) (v := .bool false) eg).upd 15 rfl rfl rfl rfl, hI.out.2.2⟩⟩
                    · intro LL a wx hI hLk hd K' hK
                      obtain ⟨td, hI⟩ := hI
                      obtain rfl := hI.out.1
                      have eg := hI.out.2.1.at 13 rfl (hd 13 rfl)
                      rw [eg]
                      rw [if_pos (by rfl)]
                      go_simp
                      exact hK.out _ _ ⟨(put1 (put1 td 115 (.bool false)) 118 (.int .i64 (k14 : Int))), ⟨rfl, (hI.out.2.1.same (s := 115) (v := .bool false) eg).upd 16 rfl rfl rfl rfl, hI.out.2.2⟩⟩
                    · intro LL a wx hI hLk hd K' hK
                      obtain ⟨td, hI⟩ := hI
                      obtain rfl := hI.out.1
                      have e15 := hI.out.2.1.at 15 rfl (hd 15 rfl)
                      have e16 := hI.out.2.1.at 16 rfl (hd 16 rfl)
                      have eg := hI.out.2.1.at 13 rfl (hd 13 rfl)
                      rw [eg]
                      rw [if_pos (by rfl)]
                      go_simp
                      exact hK.out _ _ ⟨(put1 (put1 (put1 (put1 td 117 (.slice (some adC) L2.length cC)) 118 (.int .i64 (k14 : Int))) 115 (.bool false)) 119 (.pointer (some (adC.add (k14 * 4))))), ⟨rfl, (((hI.out.2.1.same (s := 117) (v := .slice (some adC) L2.length cC) e15).same (s := 118) (v := .int .i64 (k14 : Int)) e16).same (s := 115) (v := .bool false) eg).upd 17 rfl rfl rfl rfl, hI.out.2.2⟩⟩
                    · intro LL a wx hI hLk hd K' hK
                      obtain ⟨td, hI⟩ := hI
                      obtain rfl := hI.out.1
                      have e17 := hI.out.2.1.at 17 rfl (hd 17 rfl)
                      have eg := hI.out.2.1.at 13 rfl (hd 13 rfl)
                      rw [eg]
                      rw [if_pos (by rfl)]
                      go_simp
                      exact hK.out _ _ ⟨(put1 (put1 (put1 td 119 (.pointer (some (adC.add (k14 * 4))))) 115 (.bool false)) 120 (.pointer (some ⟨(adC.add (k14 * 4)).block, (adC.add (k14 * 4)).off + 2, none⟩))), ⟨rfl, ((hI.out.2.1.same (s := 119) (v := .pointer (some (adC.add (k14 * 4)))) e17).same (s := 115) (v := .bool false) eg).upd 18 rfl rfl rfl rfl, hI.out.2.2⟩⟩
                    · intro LL a wx hI hLk hd K' hK
                      obtain ⟨td, hI⟩ := hI
                      obtain rfl := hI.out.1
                      have e18 := hI.out.2.1.at 18 rfl (hd 18 rfl)
                      have hb := hI.out.2.2
                      have c_e2 := cell_keep hb.out e2
                      have eg := hI.out.2.1.at 13 rfl (hd 13 rfl)
                      rw [eg]
                      rw [if_pos (by rfl)]
                      go_simp
                      exact hK.out _ _ ⟨(put1 (put1 (put1 td 120 (.pointer (some ⟨(adC.add (k14 * 4)).block, (adC.add (k14 * 4)).off + 2, none⟩))) 115 (.bool false)) 121 (.int .i64 d.f1)), ⟨rfl, ((hI.out.2.1.same (s := 120) (v := .pointer (some ⟨(adC.add (k14 * 4)).block, (adC.add (k14 * 4)).off + 2, none⟩)) e18).same (s := 115) (v := .bool false) eg).upd 19 rfl rfl rfl rfl, hI.out.2.2⟩⟩
                    · intro LL a wx hI hLk hd K' hK
                      obtain ⟨td, hI⟩ := hI
                      obtain rfl := hI.out.1
                      have eg := hI.out.2.1.at 13 rfl (hd 13 rfl)
                      rw [eg]
                      rw [if_pos (by rfl)]
                      go_simp
                      exact hK.out _ _ ⟨(put1 (put1 td 115 (.bool false)) 122 (.pointer (some ⟨gX, 1, none⟩))), ⟨rfl, (hI.out.2.1.same (s := 115) (v := .bool false) eg).upd 20 rfl rfl rfl rfl, hI.out.2.2⟩⟩
                    · intro LL a wx hI hLk hd K' hK
                      obtain ⟨td, hI⟩ := hI
                      obtain rfl := hI.out.1
                      have e20 := hI.out.2.1.at 20 rfl (hd 20 rfl)
                      have hb := hI.out.2.2
                      have c_x1 := cell_keep hb.out x1
                      have eg := hI.out.2.1.at 13 rfl (hd 13 rfl)
                      rw [eg]
                      rw [if_pos (by rfl)]
                      go_simp
                      exact hK.out _ _ ⟨(put1 (put1 (put1 td 122 (.pointer (some ⟨gX, 1, none⟩))) 115 (.bool false)) 123 (.slice (some adX) L.length cX)), ⟨rfl, ((hI.out.2.1.same (s := 122) (v := .pointer (some ⟨gX, 1, none⟩)) e20).same (s := 115) (v := .bool false) eg).upd 21 rfl rfl rfl rfl, hI.out.2.2⟩⟩
                    · intro LL a wx hI hLk hd K' hK
                      obtain ⟨td, hI⟩ := hI
                      obtain rfl := hI.out.1
                      have eg := hI.out.2.1.at 13 rfl (hd 13 rfl)
                      rw [eg]
                      rw [if_pos (by rfl)]
                      go_simp
                      exact hK.out _ _ ⟨(put1 (put1 td 115 (.bool false)) 124 (.int .i64 (k14 : Int))), ⟨rfl, (hI.out.2.1.same (s := 115) (v := .bool false) eg).upd 22 rfl rfl rfl rfl, hI.out.2.2⟩⟩
                    · intro LL a wx hI hLk hd K' hK
                      obtain ⟨td, hI⟩ := hI
                      obtain rfl := hI.out.1
                      have e21 := hI.out.2.1.at 21 rfl (hd 21 rfl)
                      have e22 := hI.out.2.1.at 22 rfl (hd 22 rfl)
                      have eg := hI.out.2.1.at 13 rfl (hd 13 rfl)
                      rw [eg]
                      rw [if_pos (by rfl)]
                      go_simp
                      exact hK.out _ _ ⟨(put1 (put1 (put1 (put1 td 123 (.slice (some adX) L.length cX)) 124 (.int .i64 (k14 : Int))) 115 (.bool false)) 125 (.pointer (some (adX.add (k14 * 4))))), ⟨rfl, (((hI.out.2.1.same (s := 123) (v := .slice (some adX) L.length cX) e21).same (s := 124) (v := .int .i64 (k14 : Int)) e22).same (s := 115) (v := .bool false) eg).upd 23 rfl rfl rfl rfl, hI.out.2.2⟩⟩
                    · intro LL a wx hI hLk hd K' hK
                      obtain ⟨td, hI⟩ := hI
                      obtain rfl := hI.out.1
                      have e23 := hI.out.2.1.at 23 rfl (hd 23 rfl)
                      have eg := hI.out.2.1.at 13 rfl (hd 13 rfl)
                      rw [eg]
                      rw [if_pos (by rfl)]
                      go_simp
                      exact hK.out _ _ ⟨(put1 (put1 (put1 td 125 (.pointer (some (adX.add (k14 * 4))))) 115 (.bool false)) 126 (.pointer (some ⟨(adX.add (k14 * 4)).block, (adX.add (k14 * 4)).off + 2, none⟩))), ⟨rfl, ((hI.out.2.1.same (s := 125) (v := .pointer (some (adX.add (k14 * 4)))) e23).same (s := 115) (v := .bool false) eg).upd 24 rfl rfl rfl rfl, hI.out.2.2⟩⟩
                    · intro LL a wx hI hLk hd K' hK
                      obtain ⟨td, hI⟩ := hI
                      obtain rfl := hI.out.1
                      have e24 := hI.out.2.1.at 24 rfl (hd 24 rfl)
                      have hb := hI.out.2.2
                      have c_f2 := cell_keep hb.out f2
                      have eg := hI.out.2.1.at 13 rfl (hd 13 rfl)
                      rw [eg]
                      rw [if_pos (by rfl)]
                      go_simp
                      exact hK.out _ _ ⟨(put1 (put1 (put1 td 126 (.pointer (some ⟨(adX.add (k14 * 4)).block, (adX.add (k14 * 4)).off + 2, none⟩))) 115 (.bool false)) 127 (.int .i64 d.f1)), ⟨rfl, ((hI.out.2.1.same (s := 126) (v := .pointer (some ⟨(adX.add (k14 * 4)).block, (adX.add (k14 * 4)).off + 2, none⟩)) e24).same (s := 115) (v := .bool false) eg).upd 25 rfl rfl rfl rfl, hI.out.2.2⟩⟩
                    · intro LL a wx hI hLk hd K' hK
                      obtain ⟨td, hI⟩ := hI
                      obtain rfl := hI.out.1
                      have e19 := hI.out.2.1.at 19 rfl (hd 19 rfl)
                      have e25 := hI.out.2.1.at 25 rfl (hd 25 rfl)
                      have eg := hI.out.2.1.at 13 rfl (hd 13 rfl)
                      rw [eg]
                      rw [if_pos (by rfl)]
                      go_simp
                      exact hK.out _ _ ⟨(put1 (put1 (put1 (put1 td 121 (.int .i64 d.f1)) 127 (.int .i64 d.f1)) 115 (.bool false)) 128 (.bool false)), ⟨rfl, (((hI.out.2.1.same (s := 121) (v := .int .i64 d.f1) e19).same (s := 127) (v := .int .i64 d.f1) e25).same (s := 115) (v := .bool false) eg).upd 26 rfl rfl rfl rfl, hI.out.2.2⟩⟩
                    · intro LL a wx hI hLk hd K' hK
                      obtain ⟨td, hI⟩ := hI
                      obtain rfl := hI.out.1
                      have e13 := hI.out.2.1.at 13 rfl (hd 13 rfl)
                      have e26 := hI.out.2.1.at 26 rfl (hd 26 rfl)
                      rw [if_pos (by rfl)]
                      go_simp
                      exact hK.out _ _ ⟨(put1 (put1 (put1 td 115 (.bool false)) 128 (.bool false)) 129 (.bool false)), ⟨rfl, ((hI.out.2.1.same (s := 115) (v := .bool false) e13).same (s := 128) (v := .bool false) e26).upd 27 rfl rfl rfl rfl, hI.out.2.2⟩⟩
                    · intro LL a wx hI hLk hd K' hK
                      obtain ⟨td, hI⟩ := hI
                      obtain rfl := hI.out.1
                      have e27 := hI.out.2.1.at 27 rfl (hd 27 rfl)
                      rw [if_pos (by rfl)]
                      go_simp
                      exact hK.out _ _ ⟨(put1 (put1 td 129 (.bool false)) 130 (.bool false)), ⟨rfl, (hI.out.2.1.same (s := 129) (v := .bool false) e27).upd 28 rfl rfl rfl rfl, hI.out.2.2⟩⟩
                    · intro LL a wx hI hLk hd K' hK
                      obtain ⟨td, hI⟩ := hI
                      obtain rfl := hI.out.1
                      have eg := hI.out.2.1.at 28 rfl (hd 28 rfl)
                      rw [eg]
                      rw [if_pos (by rfl)]
                      go_simp
                      exact hK.out _ _ ⟨(put1 (put1 td 130 (.bool false)) 131 (.pointer (some ⟨g11, 1, none⟩))), ⟨rfl, (hI.out.2.1.same (s := 130) (v := .bool false) eg).upd 29 rfl rfl rfl rfl, hI.out.2.2⟩⟩
                    · intro LL a wx hI hLk hd K' hK
                      obtain ⟨td, hI⟩ := hI
                      obtain rfl := hI.out.1
                      have e29 := hI.out.2.1.at 29 rfl (hd 29 rfl)
                      have hb := hI.out.2.2
                      have c_c1 := cell_keep hb.out c1
                      have eg := hI.out.2.1.at 28 rfl (hd 28 rfl)
                      rw [eg]
                      rw [if_pos (by rfl)]
                      go_simp
                      exact hK.out _ _ ⟨(put1 (put1 (put1 td 131 (.pointer (some ⟨g11, 1, none⟩))) 130 (.bool false)) 132 (.slice (some adC) L2.length cC)), ⟨rfl, ((hI.out.2.1.same (s := 131) (v := .pointer (some ⟨g11, 1, none⟩)) e29).same (s := 130) (v := .bool false) eg).upd 30 rfl rfl rfl rfl, hI.out.2.2⟩⟩
                    · intro LL a wx hI hLk hd K' hK
                      obtain ⟨td, hI⟩ := hI
                      obtain rfl := hI.out.1
                      have eg := hI.out.2.1.at 28 rfl (hd 28 rfl)
                      rw [eg]
                      rw [if_pos (by rfl)]
                      go_simp
                      exact hK.out _ _ ⟨(put1 (put1 td 130 (.bool false)) 133 (.int .i64 (k14 : Int))), ⟨rfl, (hI.out.2.1.same (s := 130) (v := .bool false) eg).upd 31 rfl rfl rfl rfl, hI.out.2.2⟩⟩
                    · intro LL a wx hI hLk hd K' hK
                      obtain ⟨td, hI⟩ := hI
                      obtain rfl := hI.out.1
                      have e30 := hI.out.2.1.at 30 rfl (hd 30 rfl)
                      have e31 := hI.out.2.1.at 31 rfl (hd 31 rfl)
                      have eg := hI.out.2.1.at 28 rfl (hd 28 rfl)
                      rw [eg]
                      rw [if_pos (by rfl)]
                      go_simp
                      exact hK.out _ _ ⟨(put1 (put1 (put1 (put1 td 132 (.slice (some adC) L2.length cC)) 133 (.int .i64 (k14 : Int))) 130 (.bool false)) 134 (.pointer (some (adC.add (k14 * 4))))), ⟨rfl, (((hI.out.2.1.same (s := 132) (v := .slice (some adC) L2.length cC) e30).same (s := 133) (v := .int .i64 (k14 : Int)) e31).same (s := 130) (v := .bool false) eg).upd 32 rfl rfl rfl rfl, hI.out.2.2⟩⟩
                    · intro LL a wx hI hLk hd K' hK
                      obtain ⟨td, hI⟩ := hI
                      obtain rfl := hI.out.1
                      have e32 := hI.out.2.1.at 32 rfl (hd 32 rfl)
                      have eg := hI.out.2.1.at 28 rfl (hd 28 rfl)
                      rw [eg]
                      rw [if_pos (by rfl)]
                      go_simp
                      exact hK.out _ _ ⟨(put1 (put1 (put1 td 134 (.pointer (some (adC.add (k14 * 4))))) 130 (.bool false)) 135 (.pointer (some ⟨(adC.add (k14 * 4)).block, (adC.add (k14 * 4)).off + 3, none⟩))), ⟨rfl, ((hI.out.2.1.same (s := 134) (v := .pointer (some (adC.add (k14 * 4)))) e32).same (s := 130) (v := .bool false) eg).upd 33 rfl rfl rfl rfl, hI.out.2.2⟩⟩
                    · intro LL a wx hI hLk hd K' hK
                      obtain ⟨td, hI⟩ := hI
                      obtain rfl := hI.out.1
                      have e33 := hI.out.2.1.at 33 rfl (hd 33 rfl)
                      have hb := hI.out.2.2
                      have c_e3 := cell_keep hb.out e3
                      have eg := hI.out.2.1.at 28 rfl (hd 28 rfl)
                      rw [eg]
                      rw [if_pos (by rfl)]
                      go_simp
                      exact hK.out _ _ ⟨(put1 (put1 (put1 td 135 (.pointer (some ⟨(adC.add (k14 * 4)).block, (adC.add (k14 * 4)).off + 3, none⟩))) 130 (.bool false)) 136 (.int .i64 (a0_0 + 2))), ⟨rfl, ((hI.out.2.1.same (s := 135) (v := .pointer (some ⟨(adC.add (k14 * 4)).block, (adC.add (k14 * 4)).off + 3, none⟩)) e33).same (s := 130) (v := .bool false) eg).upd 34 rfl rfl rfl rfl, hI.out.2.2⟩⟩
                    · intro LL a wx hI hLk hd K' hK
                      obtain ⟨td, hI⟩ := hI
                      obtain rfl := hI.out.1
                      have eg := hI.out.2.1.at 28 rfl (hd 28 rfl)
                      rw [eg]
                      rw [if_pos (by rfl)]
                      go_simp
                      exact hK.out _ _ ⟨(put1 (put1 td 130 (.bool false)) 137 (.pointer (some ⟨gX, 1, none⟩))), ⟨rfl, (hI.out.2.1.same (s := 130) (v := .bool false) eg).upd 35 rfl rfl rfl rfl, hI.out.2.2⟩⟩
                    · intro LL a wx hI hLk hd K' hK
                      obtain ⟨td, hI⟩ := hI
                      obtain rfl := hI.out.1
                      have e35 := hI.out.2.1.at 35 rfl (hd 35 rfl)
                      have hb := hI.out.2.2
                      have c_x1 := cell_keep hb.out x1
                      have eg := hI.out.2.1.at 28 rfl (hd 28 rfl)
                      rw [eg]
                      rw [if_pos (by rfl)]
                      go_simp
                      exact hK.out _ _ ⟨(put1 (put1 (put1 td 137 (.pointer (some ⟨gX, 1, none⟩))) 130 (.bool false)) 138 (.slice (some adX) L.length cX)), ⟨rfl, ((hI.out.2.1.same (s := 137) (v := .pointer (some ⟨gX, 1, none⟩)) e35).same (s := 130) (v := .bool false) eg).upd 36 rfl rfl rfl rfl, hI.out.2.2⟩⟩
                    · intro LL a wx hI hLk hd K' hK
                      obtain ⟨td, hI⟩ := hI
                      obtain rfl := hI.out.1
                      have eg := hI.out.2.1.at 28 rfl (hd 28 rfl)
                      rw [eg]
                      rw [if_pos (by rfl)]
                      go_simp
                      exact hK.out _ _ ⟨(put1 (put1 td 130 (.bool false)) 139 (.int .i64 (k14 : Int))), ⟨rfl, (hI.out.2.1.same (s := 130) (v := .bool false) eg).upd 37 rfl rfl rfl rfl, hI.out.2.2⟩⟩
                    · intro LL a wx hI hLk hd K' hK
                      obtain ⟨td, hI⟩ := hI
                      obtain rfl := hI.out.1
                      have e36 := hI.out.2.1.at 36 rfl (hd 36 rfl)
                      have e37 := hI.out.2.1.at 37 rfl (hd 37 rfl)
                      have eg := hI.out.2.1.at 28 rfl (hd 28 rfl)
                      rw [eg]
                      rw [if_pos (by rfl)]
                      go_simp
                      exact hK.out _ _ ⟨(put1 (put1 (put1 (put1 td 138 (.slice (some adX) L.length cX)) 139 (.int .i64 (k14 : Int))) 130 (.bool false)) 140 (.pointer (some (adX.add (k14 * 4))))), ⟨rfl, (((hI.out.2.1.same (s := 138) (v := .slice (some adX) L.length cX) e36).same (s := 139) (v := .int .i64 (k14 : Int)) e37).same (s := 130) (v := .bool false) eg).upd 38 rfl rfl rfl rfl, hI.out.2.2⟩⟩
                    · intro LL a wx hI hLk hd K' hK
                      obtain ⟨td, hI⟩ := hI
                      obtain rfl := hI.out.1
                      have e38 := hI.out.2.1.at 38 rfl (hd 38 rfl)
                      have eg := hI.out.2.1.at 28 rfl (hd 28 rfl)
                      rw [eg]
                      rw [if_pos (by rfl)]
                      go_simp
                      exact hK.out _ _ ⟨(put1 (put1 (put1 td 140 (.pointer (some (adX.add (k14 * 4))))) 130 (.bool false)) 141 (.pointer (some ⟨(adX.add (k14 * 4)).block, (adX.add (k14 * 4)).off + 3, none⟩))), ⟨rfl, ((hI.out.2.1.same (s := 140) (v := .pointer (some (adX.add (k14 * 4)))) e38).same (s := 130) (v := .bool false) eg).upd 39 rfl rfl rfl rfl, hI.out.2.2⟩⟩
                    · intro LL a wx hI hLk hd K' hK
                      obtain ⟨td, hI⟩ := hI
                      obtain rfl := hI.out.1
                      have e39 := hI.out.2.1.at 39 rfl (hd 39 rfl)
                      have hb := hI.out.2.2
                      have c_f3 := cell_keep hb.out f3
                      have eg := hI.out.2.1.at 28 rfl (hd 28 rfl)
                      rw [eg]
                      rw [if_pos (by rfl)]
                      go_simp
                      exact hK.out _ _ ⟨(put1 (put1 (put1 td 141 (.pointer (some ⟨(adX.add (k14 * 4)).block, (adX.add (k14 * 4)).off + 3, none⟩))) 130 (.bool false)) 142 (.int .i64 d.f2)), ⟨rfl, ((hI.out.2.1.same (s := 141) (v := .pointer (some ⟨(adX.add (k14 * 4)).block, (adX.add (k14 * 4)).off + 3, none⟩)) e39).same (s := 130) (v := .bool false) eg).upd 40 rfl rfl rfl rfl, hI.out.2.2⟩⟩
                    · intro LL a wx hI hLk hd K' hK
                      obtain ⟨td, hI⟩ := hI
                      obtain rfl := hI.out.1
                      have e34 := hI.out.2.1.at 34 rfl (hd 34 rfl)
                      have e40 := hI.out.2.1.at 40 rfl (hd 40 rfl)
                      have eg := hI.out.2.1.at 28 rfl (hd 28 rfl)
                      rw [eg]
                      rw [if_pos (by rfl)]
                      go_simp
                      exact hK.out _ _ ⟨(put1 (put1 (put1 (put1 td 136 (.int .i64 (a0_0 + 2))) 142 (.int .i64 d.f2)) 130 (.bool false)) 143 (.bool false)), ⟨rfl, (((hI.out.2.1.same (s := 136) (v := .int .i64 (a0_0 + 2)) e34).same (s := 142) (v := .int .i64 d.f2) e40).same (s := 130) (v := .bool false) eg).upd 41 rfl rfl rfl rfl, hI.out.2.2⟩⟩
                    · intro LL a wx hI hLk hd K' hK
                      obtain ⟨td, hI⟩ := hI
                      obtain rfl := hI.out.1
                      have eg := hI.out.2.1.at 28 rfl (hd 28 rfl)
                      rw [eg]
                      rw [if_pos (by rfl)]
                      go_simp
                      exact hK.out _ _ ⟨(put1 (put1 td 130 (.bool false)) 144 (.int .i64 (k14 : Int))), ⟨rfl, (hI.out.2.1.same (s := 130) (v := .bool false) eg).upd 42 rfl rfl rfl rfl, hI.out.2.2⟩⟩
                    · intro LL a wx hI hLk hd K' hK
                      obtain ⟨td, hI⟩ := hI
                      obtain rfl := hI.out.1
                      have eg := hI.out.2.1.at 28 rfl (hd 28 rfl)
                      rw [eg]
                      rw [if_pos (by rfl)]
                      go_simp
                      exact hK.out _ _ ⟨(put1 (put1 td 130 (.bool false)) 145 (.slice (some adG) 1 cG)), ⟨rfl, (hI.out.2.1.same (s := 130) (v := .bool false) eg).upd 43 rfl rfl rfl rfl, hI.out.2.2⟩⟩
                    · intro LL a wx hI hLk hd K' hK
                      obtain ⟨td, hI⟩ := hI
                      obtain rfl := hI.out.1
                      have e43 := hI.out.2.1.at 43 rfl (hd 43 rfl)
                      have eg := hI.out.2.1.at 28 rfl (hd 28 rfl)
                      rw [eg]
                      rw [if_pos (by rfl)]
                      go_simp
                      exact hK.out _ _ ⟨(put1 (put1 (put1 td 145 (.slice (some adG) 1 cG)) 130 (.bool false)) 146 (.pointer (some (adG.add 0)))), ⟨rfl, ((hI.out.2.1.same (s := 145) (v := .slice (some adG) 1 cG) e43).same (s := 130) (v := .bool false) eg).upd 44 rfl rfl rfl rfl, hI.out.2.2⟩⟩
                    · intro LL a wx hI hLk hd K' hK
                      obtain ⟨td, hI⟩ := hI
                      obtain rfl := hI.out.1
                      have e44 := hI.out.2.1.at 44 rfl (hd 44 rfl)
                      have hb := hI.out.2.2
                      have c_g0 := cell_keep hb.out g0
                      have eg := hI.out.2.1.at 28 rfl (hd 28 rfl)
                      rw [eg]
                      rw [if_pos (by rfl)]
                      go_simp
                      exact hK.out _ _ ⟨(put1 (put1 (put1 td 146 (.pointer (some (adG.add 0)))) 130 (.bool false)) 147 (.int .i64 (k14 : Int))), ⟨rfl, ((hI.out.2.1.same (s := 146) (v := .pointer (some (adG.add 0))) e44).same (s := 130) (v := .bool false) eg).upd 45 rfl rfl rfl rfl, hI.out.2.2⟩⟩
                    · intro LL a wx hI hLk hd K' hK
                      obtain ⟨td, hI⟩ := hI
                      obtain rfl := hI.out.1
                      have e42 := hI.out.2.1.at 42 rfl (hd 42 rfl)
                      have e45 := hI.out.2.1.at 45 rfl (hd 45 rfl)
                      have eg := hI.out.2.1.at 28 rfl (hd 28 rfl)
                      rw [eg]
                      rw [if_pos (by rfl)]
                      go_simp
                      exact hK.out _ _ ⟨(put1 (put1 (put1 (put1 td 144 (.int .i64 (k14 : Int))) 147 (.int .i64 (k14 : Int))) 130 (.bool false)) 148 (.bool false)), ⟨rfl, (((hI.out.2.1.same (s := 144) (v := .int .i64 (k14 : Int)) e42).same (s := 147) (v := .int .i64 (k14 : Int)) e45).same (s := 130) (v := .bool false) eg).upd 46 rfl rfl rfl rfl, hI.out.2.2⟩⟩
                    · intro LL a wx hI hLk hd K' hK
                      obtain ⟨td, hI⟩ := hI
                      obtain rfl := hI.out.1
                      have e41 := hI.out.2.1.at 41 rfl (hd 41 rfl)
                      have e46 := hI.out.2.1.at 46 rfl (hd 46 rfl)
                      have eg := hI.out.2.1.at 28 rfl (hd 28 rfl)
                      rw [eg]
                      rw [if_pos (by rfl)]
                      go_simp
                      exact hK.out _ _ ⟨(put1 (put1 (put1 (put1 td 143 (.bool false)) 148 (.bool false)) 130 (.bool false)) 149 (.bool false)), ⟨rfl, (((hI.out.2.1.same (s := 143) (v := .bool false) e41).same (s := 148) (v := .bool false) e46).same (s := 130) (v := .bool false) eg).upd 47 rfl rfl rfl rfl, hI.out.2.2⟩⟩
                    · intro LL a wx hI hLk hd K' hK
                      obtain ⟨td, hI⟩ := hI
                      obtain rfl := hI.out.1
                      have e28 := hI.out.2.1.at 28 rfl (hd 28 rfl)
                      have e47 := hI.out.2.1.at 47 rfl (hd 47 rfl)
                      rw [if_pos (by rfl)]
                      go_simp
                      exact hK.out _ _ ⟨(put1 (put1 (put1 td 130 (.bool false)) 149 (.bool false)) 150 (.bool false)), ⟨rfl, ((hI.out.2.1.same (s := 130) (v := .bool false) e28).same (s := 149) (v := .bool false) e47).upd 48 rfl rfl rfl rfl, hI.out.2.2⟩⟩
                  · intro LL a ws hall hI
                    obtain ⟨td, hI⟩ := hI
                    obtain rfl := hI.out.1
                    have hb := hI.out.2.2
                    have e48 := hI.out.2.1.at 48 rfl (hall 48 (by decide))
                    rw [e48]
                    have HBn := Aside0.mk (below_step HBr.out hb.out)
                    clear hI hb e48
                    go_wp2
                    go_roundw
                    case rel => exact ⟨k14 + 1, HLT.out, by rw [HW14.out], HBn⟩
                    case measure => have := HLT.out; rw [HW14.out]; simp [intOf]; omega
                · have hne := OTH.out k14 hji
                  rw [hne] at e0 e1 e2 e3
                  obtain ⟨d, hd⟩ : ∃ d : S30, d = L.getD k14 z30 := ⟨_, rfl⟩
                  rw [← hd] at HNE
                  rw [← hd] at e0 e1 e2 f0 f1 f2 f3
                  (try rw [← hd] at e3)
                  clear hd
                  have t1 : ((k14 : Int) = (i : Int)) = False := eq_false (by omega)
                  have t4 : ((k14 : Int) != (i : Int)) = true := bne_iff_ne.mpr (by omega)
                  have t2 : ((k14 : Int) == (i : Int)) = false := beq_eq_false_iff_ne.mpr (by omega)
                  have t3 : (k14 = i) = False := eq_false hji
                  clear hji hne
                  go_wp2_with fail
                  refine wp_region_steps 49 rfl rfl (by kernel_rfl) (fun LL a wx => ∃ td : Nat → Value, Aside0 (a = { tmps := List.toArray (.agg #[.int .i64 a0_0, .slice A0_1 l0_1.length c0_1] :: .string a1 :: .int .u8 a2 :: .pointer (some ⟨gA, 0, none⟩) :: undef :: undef :: u6 :: .pointer (some ⟨gX, 0, none⟩) :: .pointer (some ⟨gB, 0, none⟩) :: .slice (some adG) 1 cG :: .int .i64 0 :: .pointer (some ⟨g11, 0, none⟩) :: .slice AH 2 cH :: .int .i64 0 :: .int .i64 (k14 : Int) :: undef :: undef :: undef :: undef :: undef :: undef :: undef :: undef :: .bool true :: .bool false :: .agg #[.int .i64 a0_0, .slice A0_1 l0_1.length c0_1] :: .bool true :: .bool false :: .bool false :: .string a1 :: .int .i64 (a1.size : Int) :: .bool false :: .bool false :: .bool false :: .agg #[.int .i64 a0_0, .slice A0_1 l0_1.length c0_1] :: .bool true :: .bool false :: .bool false :: .bool false :: .pointer (some ⟨gA, 0, none⟩) :: .int .i64 a0_0 :: .bool false :: .bool false :: .agg #[.int .i64 a0_0, .slice A0_1 l0_1.length c0_1] :: .agg #[.int .i64 a0_0, .slice (some adX) L.length cX] :: .tuple #[.agg #[.int .i64 (a0_0 + 1), .slice AB r2.length cB], .slice (some adG) 1 cG, .int .i64 0] :: .agg #[.int .i64 a0_0, .slice (some adX) L.length cX] :: .string a1 :: .tuple #[.agg #[.int .i64 (a0_0 + 1), .slice AB r2.length cB], .slice (some adG) 1 cG, .int .i64 0] :: .agg #[.int .i64 (a0_0 + 1), .slice AB r2.length cB] :: .slice (some adG) 1 cG :: .int .i64 0 :: .int .i64 0 :: .bool true :: ta 54 :: ta 55 :: ta 56 :: ta 57 :: ta 58 :: ta 59 :: ta 60 :: ta 61 :: ta 62 :: tb 63 :: tb 64 :: tb 65 :: tb 66 :: tb 67 :: tb 68 :: tb 69 :: tb 70 :: tb 71 :: tb 72 :: tb 73 :: tb 74 :: tb 75 :: tb 76 :: tb 77 :: tb 78 :: tb 79 :: tb 80 :: tb 81 :: tb 82 :: tb 83 :: tb 84 :: tb 85 :: tb 86 :: tb 87 :: tb 88 :: tb 89 :: tb 90 :: tb 91 :: tb 92 :: tb 93 :: .bool false :: .int .i64 (k14 : Int) :: .pointer (some ⟨g11, 1, none⟩) :: .slice (some adC) L2.length cC :: .int .i64 (L2.length : Int) :: .bool true :: u100 :: u101 :: td 102 :: td 103 :: td 104 :: td 105 :: td 106 :: td 107 :: td 108 :: td 109 :: td 110 :: td 111 :: td 112 :: td 113 :: td 114 :: td 115 :: td 116 :: td 117 :: td 118 :: td 119 :: td 120 :: td 121 :: td 122 :: td 123 :: td 124 :: td 125 :: td 126 :: td 127 :: td 128 :: td 129 :: td 130 :: td 131 :: td 132 :: td 133 :: td 134 :: td 135 :: td 136 :: td 137 :: td 138 :: td 139 :: td 140 :: td 141 :: td 142 :: td 143 :: td 144 :: td 145 :: td 146 :: td 147 :: td 148 :: td 149 :: td 150 :: undef :: undef :: undef :: undef :: undef :: undef :: undef :: undef :: undef :: undef :: undef :: undef :: undef :: undef :: undef :: undef :: undef :: undef :: undef :: undef :: undef :: undef :: undef :: undef :: undef :: undef :: undef :: undef :: undef :: undef :: undef :: undef :: undef :: undef :: undef :: undef :: undef :: undef :: undef :: undef :: undef :: undef :: undef :: undef :: undef :: undef :: undef :: undef :: undef :: undef :: undef :: undef :: undef :: undef :: undef :: undef :: undef :: undef :: undef :: undef :: undef :: undef :: undef :: undef :: undef :: undef :: undef :: undef :: undef :: undef :: undef :: undef :: undef :: undef :: undef :: undef :: undef :: undef :: undef :: undef :: undef :: undef :: undef :: undef :: undef :: undef :: undef :: undef :: undef :: []), defers := [] } ∧ Tab LL td [(0, 102, .pointer (some ⟨g11, 1, none⟩)), (1, 103, .slice (some adC) L2.length cC), (2, 104, .int .i64 (k14 : Int)), (3, 105, .pointer (some (adC.add (k14 * 4)))), (4, 106, .pointer (some (adC.add (k14 * 4)))), (5, 107, .agg #[.string d.f0.f0, .string d.f0.f1]), (6, 108, .pointer (some ⟨gX, 1, none⟩)), (7, 109, .slice (some adX) L.length cX), (8, 110, .int .i64 (k14 : Int)), (9, 111, .pointer (some (adX.add (k14 * 4)))), (10, 112, .pointer (some (adX.add (k14 * 4)))), (11, 113, .agg #[.string d.f0.f0, .string d.f0.f1]), (12, 114, .bool false), (13, 115, .bool false), (14, 116, .pointer (some ⟨g11, 1, none⟩)), (15, 117, .slice (some adC) L2.length cC), (16, 118, .int .i64 (k14 : Int)), (17, 119, .pointer (some (adC.add (k14 * 4)))), (18, 120, .pointer (some ⟨(adC.add (k14 * 4)).block, (adC.add (k14 * 4)).off + 2, none⟩)), (19, 121, .int .i64 d.f1), (20, 122, .pointer (some ⟨gX, 1, none⟩)), (21, 123, .slice (some adX) L.length cX), (22, 124, .int .i64 (k14 : Int)), (23, 125, .pointer (some (adX.add (k14 * 4)))), (24, 126, .pointer (some ⟨(adX.add (k14 * 4)).block, (adX.add (k14 * 4)).off + 2, none⟩)), (25, 127, .int .i64 d.f1), (26, 128, .bool false), (27, 129, .bool false), (28, 130, .bool false), (29, 131, .pointer (some ⟨g11, 1, none⟩)), (30, 132, .slice (some adC) L2.length cC), (31, 133, .int .i64 (k14 : Int)), (32, 134, .pointer (some (adC.add (k14 * 4)))), (33, 135, .pointer (some ⟨(adC.add (k14 * 4)).block, (adC.add (k14 * 4)).off + 3, none⟩)), (34, 136, .int .i64 d.f2), (35, 137, .pointer (some ⟨gX, 1, none⟩)), (36, 138, .slice (some adX) L.length cX), (37, 139, .int .i64 (k14 : Int)), (38, 140, .pointer (some (adX.add (k14 * 4)))), (39, 141, .pointer (some ⟨(adX.add (k14 * 4)).block, (adX.add (k14 * 4)).off + 3, none⟩)), (40, 142, .int .i64 d.f2), (41, 143, .bool true), (42, 144, .int .i64 (k14 : Int)), (43, 145, .slice (some adG) 1 cG), (44, 146, .pointer (some (adG.add 0))), (45, 147, .int .i64 (i : Int)), (46, 148, .bool true), (47, 149, .bool false), (48, 150, .bool false)] ∧ Aside0 (Below wr.heap.size wr wx))) ?_ ?_ ?_
                  · exact ⟨(put1 (put1 (put1 (put1 (put1 (put1 (put1 (put1 (put1 (put1 (put1 (put1 (put1 (put1 (put1 (put1 (put1 (put1 (put1 (put1 (put1 (put1 (put1 (put1 (put1 (put1 (put1 (put1 (put1 (put1 (put1 (put1 (put1 (put1 (put1 (put1 (put1 (put1 (put1 (put1 (put1 (put1 (put1 (put1 (put1 (put1 (put1 (put1 (put1 (fun _ => undef) 102 (u102)) 103 (u103)) 104 (u104)) 105 (u105)) 106 (u106)) 107 (u107)) 108 (u108)) 109 (u109)) 110 (u110)) 111 (u111)) 112 (u112)) 113 (u113)) 114 (u114)) 115 (u115)) 116 (u116)) 117 (u117)) 118 (u118)) 119 (u119)) 120 (u120)) 121 (u121)) 122 (u122)) 123 (u123)) 124 (u124)) 125 (u125)) 126 (u126)) 127 (u127)) 128 (u128)) 129 (u129)) 130 (u130)) 131 (u131)) 132 (u132)) 133 (u133)) 134 (u134)) 135 (u135)) 136 (u136)) 137 (u137)) 138 (u138)) 139 (u139)) 140 (u140)) 141 (u141)) 142 (u142)) 143 (u143)) 144 (u144)) 145 (u145)) 146 (u146)) 147 (u147)) 148 (u148)) 149 (u149)) 150 (u150)), ⟨rfl, Tab.start 49 rfl rfl, ⟨below_drew (Below.refl _ _)⟩⟩⟩
                  · refine Steps.cons ?_ (Steps.cons ?_ (Steps.cons ?_ (Steps.cons ?_ (Steps.cons ?_ (Steps.cons ?_ (Steps.cons ?_ (Steps.cons ?_ (Steps.cons ?_ (Steps.cons ?_ (Steps.cons ?_ (Steps.cons ?_ (Steps.cons ?_ (Steps.cons ?_ (Steps.cons ?_ (Steps.cons ?_ (Steps.cons ?_ (Steps.cons ?_ (Steps.cons ?_ (Steps.cons ?_ (Steps.cons ?_ (Steps.cons ?_ (Steps.cons ?_ (Steps.cons ?_ (Steps.cons ?_ (Steps.cons ?_ (Steps.cons ?_ (Steps.cons ?_ (Steps.cons ?_ (Steps.cons ?_ (Steps.cons ?_ (Steps.cons ?_ (Steps.cons ?_ (Steps.cons ?_ (Steps.cons ?_ (Steps.cons ?_ (Steps.cons ?_ (Steps.cons ?_ (Steps.cons ?_ (Steps.cons ?_ (Steps.cons ?_ (Steps.cons ?_ (Steps.cons ?_ (Steps.cons ?_ (Steps.cons ?_ (Steps.cons ?_ (Steps.cons ?_ (Steps.cons ?_ (Steps.cons ?_ (Steps.nil)))))))))))))))))))))))))))))))))))))))))))))))))
                    · intro LL a wx hI hLk hd K' hK
                      obtain ⟨td, hI⟩ := hI
                      obtain rfl := hI.out.1
                      rw [if_pos (by rfl)]
                      go_simp
                      exact hK.out _ _ ⟨(put1 td 102 (.pointer (some ⟨g11, 1, none⟩))), ⟨rfl, hI.out.2.1.upd 0 rfl rfl rfl rfl, hI.out.2.2⟩⟩
                    · intro LL a wx hI hLk hd K' hK
                      obtain ⟨td, hI⟩ := hI
                      obtain rfl := hI.out.1
                      have e0 := hI.out.2.1.at 0 rfl (hd 0 rfl)
                      have hb := hI.out.2.2
                      have c_c1 := cell_keep hb.out c1
                      rw [if_pos (by rfl)]
                      go_simp
                      exact hK.out _ _ ⟨(put1 (put1 td 102 (.pointer (some ⟨g11, 1, none⟩))) 103 (.slice (some adC) L2.length cC)), ⟨rfl, (hI.out.2.1.same (s := 102) (v := .pointer (some ⟨g11, 1, none⟩)) e0).upd 1 rfl rfl rfl rfl, hI.out.2.2⟩⟩
                    · intro LL a wx hI hLk hd K' hK
                      obtain ⟨td, hI⟩ := hI
                      obtain rfl := hI.out.1
                      rw [if_pos (by rfl)]
                      go_simp
                      exact hK.out _ _ ⟨(put1 td 104 (.int .i64 (k14 : Int))), ⟨rfl, hI.out.2.1.upd 2 rfl rfl rfl rfl, hI.out.2.2⟩⟩
                    · intro LL a wx hI hLk hd K' hK
                      obtain ⟨td, hI⟩ := hI
                      obtain rfl := hI.out.1
                      have e1 := hI.out.2.1.at 1 rfl (hd 1 rfl)
                      have e2 := hI.out.2.1.at 2 rfl (hd 2 rfl)
                      rw [if_pos (by rfl)]
                      go_simp
                      exact hK.out _ _ ⟨(put1 (put1 (put1 td 103 (.slice (some adC) L2.length cC)) 104 (.int .i64 (k14 : Int))) 105 (.pointer (some (adC.add (k14 * 4))))), ⟨rfl, ((hI.out.2.1.same (s := 103) (v := .slice (some adC) L2.length cC) e1).same (s := 104) (v := .int .i64 (k14 : Int)) e2).upd 3 rfl rfl rfl rfl, hI.out.2.2⟩⟩
                    · intro LL a wx hI hLk hd K' hK
                      obtain ⟨td, hI⟩ := hI
                      obtain rfl := hI.out.1
                      have e3 := hI.out.2.1.at 3 rfl (hd 3 rfl)
                      rw [if_pos (by rfl)]
                      go_simp
                      exact hK.out _ _ ⟨(put1 (put1 td 105 (.pointer (some (adC.add (k14 * 4))))) 106 (.pointer (some (adC.add (k14 * 4))))), ⟨rfl, (hI.out.2.1.same (s := 105) (v := .pointer (some (adC.add (k14 * 4)))) e3).upd 4 rfl rfl rfl rfl, hI.out.2.2⟩⟩
                    · intro LL a wx hI hLk hd K' hK
                      obtain ⟨td, hI⟩ := hI
                      obtain rfl := hI.out.1
                      have e4 := hI.out.2.1.at 4 rfl (hd 4 rfl)
                      have hb := hI.out.2.2
                      have c_e0 := cell_keep hb.out e0
                      have c_e1 := cell_keep hb.out e1
                      rw [if_pos (by rfl)]
                      go_simp
                      exact hK.out _ _ ⟨(put1 (put1 td 106 (.pointer (some (adC.add (k14 * 4))))) 107 (.agg #[.string d.f0.f0, .string d.f0.f1])), ⟨rfl, (hI.out.2.1.same (s := 106) (v := .pointer (some (adC.add (k14 * 4)))) e4).upd 5 rfl rfl rfl rfl, hI.out.2.2⟩⟩
                    · intro LL a wx hI hLk hd K' hK
                      obtain ⟨td, hI⟩ := hI
                      obtain rfl := hI.out.1
                      rw [if_pos (by rfl)]
                      go_simp
                      exact hK.out _ _ ⟨(put1 td 108 (.pointer (some ⟨gX, 1, none⟩))), ⟨rfl, hI.out.2.1.upd 6 rfl rfl rfl rfl, hI.out.2.2⟩⟩
                    · intro LL a wx hI hLk hd K' hK
                      obtain ⟨td, hI⟩ := hI
                      obtain rfl := hI.out.1
                      have e6 := hI.out.2.1.at 6 rfl (hd 6 rfl)
                      have hb := hI.out.2.2
                      have c_x1 := cell_keep hb.out x1
                      rw [if_pos (by rfl)]
                      go_simp
                      exact hK.out _ _ ⟨(put1 (put1 td 108 (.pointer (some ⟨gX, 1, none⟩))) 109 (.slice (some adX) L.length cX)), ⟨rfl, (hI.out.2.1.same (s := 108) (v := .pointer (some ⟨gX, 1, none⟩)) e6).upd 7 rfl rfl rfl rfl, hI.out.2.2⟩⟩
                    · intro LL a wx hI hLk hd K' hK
                      obtain ⟨td, hI⟩ := hI
                      obtain rfl := hI.out.1
                      rw [if_pos (by rfl)]
                      go_simp
                      exact hK.out _ _ ⟨(put1 td 110 (.int .i64 (k14 : Int))), ⟨rfl, hI.out.2.1.upd 8 rfl rfl rfl rfl, hI.out.2.2⟩⟩
                    · intro LL a wx hI hLk hd K' hK
                      obtain ⟨td, hI⟩ := hI
                      obtain rfl := hI.out.1
                      have e7 := hI.out.2.1.at 7 rfl (hd 7 rfl)
                      have e8 := hI.out.2.1.at 8 rfl (hd 8 rfl)
                      rw [if_pos (by rfl)]
                      go_simp
                      exact hK.out _ _ ⟨(put1 (put1 (put1 td 109 (.slice (some adX) L.length cX)) 110 (.int .i64 (k14 : Int))) 111 (.pointer (some (adX.add (k14 * 4))))), ⟨rfl, ((hI.out.2.1.same (s := 109) (v := .slice (some adX) L.length cX) e7).same (s := 110) (v := .int .i64 (k14 : Int)) e8).upd 9 rfl rfl rfl rfl, hI.out.2.2⟩⟩
                    · intro LL a wx hI hLk hd K' hK
                      obtain ⟨td, hI⟩ := hI
                      obtain rfl := hI.out.1
                      have e9 := hI.out.2.1.at 9 rfl (hd 9 rfl)
                      rw [if_pos (by rfl)]
                      go_simp
                      exact hK.out _ _ ⟨(put1 (put1 td 111 (.pointer (some (adX.add (k14 * 4))))) 112 (.pointer (some (adX.add (k14 * 4))))), ⟨rfl, (hI.out.2.1.same (s := 111) (v := .pointer (some (adX.add (k14 * 4)))) e9).upd 10 rfl rfl rfl rfl, hI.out.2.2⟩⟩
                    · intro LL a wx hI hLk hd K' hK
                      obtain ⟨td, hI⟩ := hI
                      obtain rfl := hI.out.1
                      have e10 := hI.out.2.1.at 10 rfl (hd 10 rfl)
                      have hb := hI.out.2.2
                      have c_f0 := cell_keep hb.out f0
                      have c_f1 := cell_keep hb.out f1
                      rw [if_pos (by rfl)]
                      go_simp
                      exact hK.out _ _ ⟨(put1 (put1 td 112 (.pointer (some (adX.add (k14 * 4))))) 113 (.agg #[.string d.f0.f0, .string d.f0.f1])), ⟨rfl, (hI.out.2.1.same (s := 112) (v := .pointer (some (adX.add (k14 * 4)))) e10).upd 11 rfl rfl rfl rfl, hI.out.2.2⟩⟩
                    · intro LL a wx hI hLk hd K' hK
                      obtain ⟨td, hI⟩ := hI
                      obtain rfl := hI.out.1
                      have e5 := hI.out.2.1.at 5 rfl (hd 5 rfl)
                      have e11 := hI.out.2.1.at 11 rfl (hd 11 rfl)
                      rw [if_pos (by rfl)]
                      go_simp
                      exact hK.out _ _ ⟨(put1 (put1 (put1 td 107 (.agg #[.string d.f0.f0, .string d.f0.f1])) 113 (.agg #[.string d.f0.f0, .string d.f0.f1])) 114 (.bool false)), ⟨rfl, ((hI.out.2.1.same (s := 107) (v := .agg #[.string d.f0.f0, .string d.f0.f1]) e5).same (s := 113) (v := .agg #[.string d.f0.f0, .string d.f0.f1]) e11).upd 12 rfl rfl rfl rfl, hI.out.2.2⟩⟩
                    · intro LL a wx hI hLk hd K' hK
                      obtain ⟨td, hI⟩ := hI
                      obtain rfl := hI.out.1
                      have e12 := hI.out.2.1.at 12 rfl (hd 12 rfl)
                      rw [if_pos (by rfl)]
                      go_simp
                      exact hK.out _ _ ⟨(put1 (put1 td 114 (.bool false)) 115 (.bool false)), ⟨rfl, (hI.out.2.1.same (s := 114) (v := .bool false) e12).upd 13 rfl rfl rfl rfl, hI.out.2.2⟩⟩
                    · intro LL a wx hI hLk hd K' hK
                      obtain ⟨td, hI⟩ := hI
                      obtain rfl := hI.out.1
                      have eg := hI.out.2.1.at 13 rfl (hd 13 rfl)
                      rw [eg]
                      rw [if_pos (by rfl)]
                      go_simp
                      exact hK.out _ _ ⟨(put1 (put1 td 115 (.bool false)) 116 (.pointer (some ⟨g11, 1, none⟩))), ⟨rfl, (hI.out.2.1.same (s := 115) (v := .bool false) eg).upd 14 rfl rfl rfl rfl, hI.out.2.2⟩⟩
                    · intro LL a wx hI hLk hd K' hK
                      obtain ⟨td, hI⟩ := hI
                      obtain rfl := hI.out.1
                      have e14 := hI.out.2.1.at 14 rfl (hd 14 rfl)
                      have hb := hI.out.2.2
                      have c_c1 := cell_keep hb.out c1
                      have eg := hI.out.2.1.at 13 rfl (hd 13 rfl)
                      rw [eg]
                      rw [if_pos (by rfl)]
                      go_simp
                      exact hK.out _ _ ⟨(put1 (put1 (put1 td 116 (.pointer (some ⟨g11, 1, none⟩))) 115 (.bool false)) 117 (.slice (some adC) L2.length cC)), ⟨rfl, ((hI.out.2.1.same (s := 116) (v := .pointer (some ⟨g11, 1, none⟩)) e14).same (s := 115) (v := .bool false) eg).upd 15 rfl rfl rfl rfl, hI.out.2.2⟩⟩
                    · intro LL a wx hI hLk hd K' hK
                      obtain ⟨td, hI⟩ := hI
                      obtain rfl := hI.out.1
                      have eg := hI.out.2.1.at 13 rfl (hd 13 rfl)
                      rw [eg]
                      rw [if_pos (by rfl)]
                      go_simp
                      exact hK.out _ _ ⟨(put1 (put1 td 115 (.bool false)) 118 (.int .i64 (k14 : Int))), ⟨rfl, (hI.out.2.1.same (s := 115) (v := .bool false) eg).upd 16 rfl rfl rfl rfl, hI.out.2.2⟩⟩
                    · intro LL a wx hI hLk hd K' hK
                      obtain ⟨td, hI⟩ := hI
                      obtain rfl := hI.out.1
                      have e15 := hI.out.2.1.at 15 rfl (hd 15 rfl)
                      have e16 := hI.out.2.1.at 16 rfl (hd 16 rfl)
                      have eg := hI.out.2.1.at 13 rfl (hd 13 rfl)
                      rw [eg]
                      rw [if_pos (by rfl)]
                      go_simp
                      exact hK.out _ _ ⟨(put1 (put1 (put1 (put1 td 117 (.slice (some adC) L2.length cC)) 118 (.int .i64 (k14 : Int))) 115 (.bool false)) 119 (.pointer (some (adC.add (k14 * 4))))), ⟨rfl, (((hI.out.2.1.same (s := 117) (v := .slice (some adC) L2.length cC) e15).same (s := 118) (v := .int .i64 (k14 : Int)) e16).same (s := 115) (v := .bool false) eg).upd 17 rfl rfl rfl rfl, hI.out.2.2⟩⟩
                    · intro LL a wx hI hLk hd K' hK
                      obtain ⟨td, hI⟩ := hI
                      obtain rfl := hI.out.1
                      have e17 := hI.out.2.1.at 17 rfl (hd 17 rfl)
                      have eg := hI.out.2.1.at 13 rfl (hd 13 rfl)
                      rw [eg]
                      rw [if_pos (by rfl)]
                      go_simp
                      exact hK.out _ _ ⟨(put1 (put1 (put1 td 119 (.pointer (some (adC.add (k14 * 4))))) 115 (.bool false)) 120 (.pointer (some ⟨(adC.add (k14 * 4)).block, (adC.add (k14 * 4)).off + 2, none⟩))), ⟨rfl, ((hI.out.2.1.same (s := 119) (v := .pointer (some (adC.add (k14 * 4)))) e17).same (s := 115) (v := .bool false) eg).upd 18 rfl rfl rfl rfl, hI.out.2.2⟩⟩
                    · intro LL a wx hI hLk hd K' hK
                      obtain ⟨td, hI⟩ := hI
                      obtain rfl := hI.out.1
                      have e18 := hI.out.2.1.at 18 rfl (hd 18 rfl)
                      have hb := hI.out.2.2
                      have c_e2 := cell_keep hb.out e2
                      have eg := hI.out.2.1.at 13 rfl (hd 13 rfl)
                      rw [eg]
                      rw [if_pos (by rfl)]
                      go_simp
                      exact hK.out _ _ ⟨(put1 (put1 (put1 td 120 (.pointer (some ⟨(adC.add (k14 * 4)).block, (adC.add (k14 * 4)).off + 2, none⟩))) 115 (.bool false)) 121 (.int .i64 d.f1)), ⟨rfl, ((hI.out.2.1.same (s := 120) (v := .pointer (some ⟨(adC.add (k14 * 4)).block, (adC.add (k14 * 4)).off + 2, none⟩)) e18).same (s := 115) (v := .bool false) eg).upd 19 rfl rfl rfl rfl, hI.out.2.2⟩⟩
                    · intro LL a wx hI hLk hd K' hK
                      obtain ⟨td, hI⟩ := hI
                      obtain rfl := hI.out.1
                      have eg := hI.out.2.1.at 13 rfl (hd 13 rfl)
                      rw [eg]
                      rw [if_pos (by rfl)]
                      go_simp
                      exact hK.out _ _ ⟨(put1 (put1 td 115 (.bool false)) 122 (.pointer (some ⟨gX, 1, none⟩))), ⟨rfl, (hI.out.2.1.same (s := 115) (v := .bool false) eg).upd 20 rfl rfl rfl rfl, hI.out.2.2⟩⟩
                    · intro LL a wx hI hLk hd K' hK
                      obtain ⟨td, hI⟩ := hI
                      obtain rfl := hI.out.1
                      have e20 := hI.out.2.1.at 20 rfl (hd 20 rfl)
                      have hb := hI.out.2.2
                      have c_x1 := cell_keep hb.out x1
                      have eg := hI.out.2.1.at 13 rfl (hd 13 rfl)
                      rw [eg]
                      rw [if_pos (by rfl)]
                      go_simp
                      exact hK.out _ _ ⟨(put1 (put1 (put1 td 122 (.pointer (some ⟨gX, 1, none⟩))) 115 (.bool false)) 123 (.slice (some adX) L.length cX)), ⟨rfl, ((hI.out.2.1.same (s := 122) (v := .pointer (some ⟨gX, 1, none⟩)) e20).same (s := 115) (v := .bool false) eg).upd 21 rfl rfl rfl rfl, hI.out.2.2⟩⟩
                    · intro LL a wx hI hLk hd K' hK
                      obtain ⟨td, hI⟩ := hI
                      obtain rfl := hI.out.1
                      have eg := hI.out.2.1.at 13 rfl (hd 13 rfl)
                      rw [eg]
                      rw [if_pos (by rfl)]
                      go_simp
                      exact hK.out _ _ ⟨(put1 (put1 td 115 (.bool false)) 124 (.int .i64 (k14 : Int))), ⟨rfl, (hI.out.2.1.same (s := 115) (v := .bool false) eg).upd 22 rfl rfl rfl rfl, hI.out.2.2⟩⟩
                    · intro LL a wx hI hLk hd K' hK
                      obtain ⟨td, hI⟩ := hI
                      obtain rfl := hI.out.1
                      have e21 := hI.out.2.1.at 21 rfl (hd 21 rfl)
                      have e22 := hI.out.2.1.at 22 rfl (hd 22 rfl)
                      have eg := hI.out.2.1.at 13 rfl (hd 13 rfl)
                      rw [eg]
                      rw [if_pos (by rfl)]
                      go_simp
                      exact hK.out _ _ ⟨(put1 (put1 (put1 (put1 td 123 (.slice (some adX) L.length cX)) 124 (.int .i64 (k14 : Int))) 115 (.bool false)) 125 (.pointer (some (adX.add (k14 * 4))))), ⟨rfl, (((hI.out.2.1.same (s := 123) (v := .slice (some adX) L.length cX) e21).same (s := 124) (v := .int .i64 (k14 : Int)) e22).same (s := 115) (v := .bool false) eg).upd 23 rfl rfl rfl rfl, hI.out.2.2⟩⟩
                    · intro LL a wx hI hLk hd K' hK
                      obtain ⟨td, hI⟩ := hI
                      obtain rfl := hI.out.1
                      have e23 := hI.out.2.1.at 23 rfl (hd 23 rfl)
                      have eg := hI.out.2.1.at 13 rfl (hd 13 rfl)
                      rw [eg]
                      rw [if_pos (by rfl)]
                      go_simp
                      exact hK.out _ _ ⟨(put1 (put1 (put1 td 125 (.pointer (some (adX.add (k14 * 4))))) 115 (.bool false)) 126 (.pointer (some ⟨(adX.add (k14 * 4)).block, (adX.add (k14 * 4)).off + 2, none⟩))), ⟨rfl, ((hI.out.2.1.same (s := 125) (v := .pointer (some (adX.add (k14 * 4)))) e23).same (s := 115) (v := .bool false) eg).upd 24 rfl rfl rfl rfl, hI.out.2.2⟩⟩
                    · intro LL a wx hI hLk hd K' hK
                      obtain ⟨td, hI⟩ := hI
                      obtain rfl := hI.out.1
                      have e24 := hI.out.2.1.at 24 rfl (hd 24 rfl)
                      have hb := hI.out.2.2
                      have c_f2 := cell_keep hb.out f2
                      have eg := hI.out.2.1.at 13 rfl (hd 13 rfl)
                      rw [eg]
                      rw [if_pos (by rfl)]
                      go_simp
                      exact hK.out _ _ ⟨(put1 (put1 (put1 td 126 (.pointer (some ⟨(adX.add (k14 * 4)).block, (adX.add (k14 * 4)).off + 2, none⟩))) 115 (.bool false)) 127 (.int .i64 d.f1)), ⟨rfl, ((hI.out.2.1.same (s := 126) (v := .pointer (some ⟨(adX.add (k14 * 4)).block, (adX.add (k14 * 4)).off + 2, none⟩)) e24).same (s := 115) (v := .bool false) eg).upd 25 rfl rfl rfl rfl, hI.out.2.2⟩⟩
                    · intro LL a wx hI hLk hd K' hK
                      obtain ⟨td, hI⟩ := hI
                      obtain rfl := hI.out.1
                      have e19 := hI.out.2.1.at 19 rfl (hd 19 rfl)
                      have e25 := hI.out.2.1.at 25 rfl (hd 25 rfl)
                      have eg := hI.out.2.1.at 13 rfl (hd 13 rfl)
                      rw [eg]
                      rw [if_pos (by rfl)]
                      go_simp
                      exact hK.out _ _ ⟨(put1 (put1 (put1 (put1 td 121 (.int .i64 d.f1)) 127 (.int .i64 d.f1)) 115 (.bool false)) 128 (.bool false)), ⟨rfl, (((hI.out.2.1.same (s := 121) (v := .int .i64 d.f1) e19).same (s := 127) (v := .int .i64 d.f1) e25).same (s := 115) (v := .bool false) eg).upd 26 rfl rfl rfl rfl, hI.out.2.2⟩⟩
                    · intro LL a wx hI hLk hd K' hK
                      obtain ⟨td, hI⟩ := hI
                      obtain rfl := hI.out.1
                      have e13 := hI.out.2.1.at 13 rfl (hd 13 rfl)
                      have e26 := hI.out.2.1.at 26 rfl (hd 26 rfl)
                      rw [if_pos (by rfl)]
                      go_simp
                      exact hK.out _ _ ⟨(put1 (put1 (put1 td 115 (.bool false)) 128 (.bool false)) 129 (.bool false)), ⟨rfl, ((hI.out.2.1.same (s := 115) (v := .bool false) e13).same (s := 128) (v := .bool false) e26).upd 27 rfl rfl rfl rfl, hI.out.2.2⟩⟩
                    · intro LL a wx hI hLk hd K' hK
                      obtain ⟨td, hI⟩ := hI
                      obtain rfl := hI.out.1
                      have e27 := hI.out.2.1.at 27 rfl (hd 27 rfl)
                      rw [if_pos (by rfl)]
                      go_simp
                      exact hK.out _ _ ⟨(put1 (put1 td 129 (.bool false)) 130 (.bool false)), ⟨rfl, (hI.out.2.1.same (s := 129) (v := .bool false) e27).upd 28 rfl rfl rfl rfl, hI.out.2.2⟩⟩
                    · intro LL a wx hI hLk hd K' hK
                      obtain ⟨td, hI⟩ := hI
                      obtain rfl := hI.out.1
                      have eg := hI.out.2.1.at 28 rfl (hd 28 rfl)
                      rw [eg]
                      rw [if_pos (by rfl)]
                      go_simp
                      exact hK.out _ _ ⟨(put1 (put1 td 130 (.bool false)) 131 (.pointer (some ⟨g11, 1, none⟩))), ⟨rfl, (hI.out.2.1.same (s := 130) (v := .bool false) eg).upd 29 rfl rfl rfl rfl, hI.out.2.2⟩⟩
                    · intro LL a wx hI hLk hd K' hK
                      obtain ⟨td, hI⟩ := hI
                      obtain rfl := hI.out.1
                      have e29 := hI.out.2.1.at 29 rfl (hd 29 rfl)
                      have hb := hI.out.2.2
                      have c_c1 := cell_keep hb.out c1
                      have eg := hI.out.2.1.at 28 rfl (hd 28 rfl)
                      rw [eg]
                      rw [if_pos (by rfl)]
                      go_simp
                      exact hK.out _ _ ⟨(put1 (put1 (put1 td 131 (.pointer (some ⟨g11, 1, none⟩))) 130 (.bool false)) 132 (.slice (some adC) L2.length cC)), ⟨rfl, ((hI.out.2.1.same (s := 131) (v := .pointer (some ⟨g11, 1, none⟩)) e29).same (s := 130) (v := .bool false) eg).upd 30 rfl rfl rfl rfl, hI.out.2.2⟩⟩
                    · intro LL a wx hI hLk hd K' hK
                      obtain ⟨td, hI⟩ := hI
                      obtain rfl := hI.out.1
                      have eg := hI.out.2.1.at 28 rfl (hd 28 rfl)
                      rw [eg]
                      rw [if_pos (by rfl)]
                      go_simp
                      exact hK.out _ _ ⟨(put1 (put1 td 130 (.bool false)) 133 (.int .i64 (k14 : Int))), ⟨rfl, (hI.out.2.1.same (s := 130) (v := .bool false) eg).upd 31 rfl rfl rfl rfl, hI.out.2.2⟩⟩
                    · intro LL a wx hI hLk hd K' hK
                      obtain ⟨td, hI⟩ := hI
                      obtain rfl := hI.out.1
                      have e30 := hI.out.2.1.at 30 rfl (hd 30 rfl)
                      have e31 := hI.out.2.1.at 31 rfl (hd 31 rfl)
                      have eg := hI.out.2.1.at 28 rfl (hd 28 rfl)
                      rw [eg]
                      rw [if_pos (by rfl)]
                      go_simp
                      exact hK.out _ _ ⟨(put1 (put1 (put1 (put1 td 132 (.slice (some adC) L2.length cC)) 133 (.int .i64 (k14 : Int))) 130 (.bool false)) 134 (.pointer (some (adC.add (k14 * 4))))), ⟨rfl, (((hI.out.2.1.same (s := 132) (v := .slice (some adC) L2.length cC) e30).same (s := 133) (v := .int .i64 (k14 : Int)) e31).same (s := 130) (v := .bool false) eg).upd 32 rfl rfl rfl rfl, hI.out.2.2⟩⟩
                    · intro LL a wx hI hLk hd K' hK
                      obtain ⟨td, hI⟩ := hI
                      obtain rfl := hI.out.1
                      have e32 := hI.out.2.1.at 32 rfl (hd 32 rfl)
                      have eg := hI.out.2.1.at 28 rfl (hd 28 rfl)
                      rw [eg]
                      rw [if_pos (by rfl)]
                      go_simp
                      exact hK.out _ _ ⟨(put1 (put1 (put1 td 134 (.pointer (some (adC.add (k14 * 4))))) 130 (.bool false)) 135 (.pointer (some ⟨(adC.add (k14 * 4)).block, (adC.add (k14 * 4)).off + 3, none⟩))), ⟨rfl, ((hI.out.2.1.same (s := 134) (v := .pointer (some (adC.add (k14 * 4)))) e32).same (s := 130) (v := .bool false) eg).upd 33 rfl rfl rfl rfl, hI.out.2.2⟩⟩
                    · intro LL a wx hI hLk hd K' hK
                      obtain ⟨td, hI⟩ := hI
                      obtain rfl := hI.out.1
                      have e33 := hI.out.2.1.at 33 rfl (hd 33 rfl)
                      have hb := hI.out.2.2
                      have c_e3 := cell_keep hb.out e3
                      have eg := hI.out.2.1.at 28 rfl (hd 28 rfl)
                      rw [eg]
                      rw [if_pos (by rfl)]
                      go_simp
                      exact hK.out _ _ ⟨(put1 (put1 (put1 td 135 (.pointer (some ⟨(adC.add (k14 * 4)).block, (adC.add (k14 * 4)).off + 3, none⟩))) 130 (.bool false)) 136 (.int .i64 d.f2)), ⟨rfl, ((hI.out.2.1.same (s := 135) (v := .pointer (some ⟨(adC.add (k14 * 4)).block, (adC.add (k14 * 4)).off + 3, none⟩)) e33).same (s := 130) (v := .bool false) eg).upd 34 rfl rfl rfl rfl, hI.out.2.2⟩⟩
                    · intro LL a wx hI hLk hd K' hK
                      obtain ⟨td, hI⟩ := hI
                      obtain rfl := hI.out.1
                      have eg := hI.out.2.1.at 28 rfl (hd 28 rfl)
                      rw [eg]
                      rw [if_pos (by rfl)]
                      go_simp
                      exact hK.out _ _ ⟨(put1 (put1 td 130 (.bool false)) 137 (.pointer (some ⟨gX, 1, none⟩))), ⟨rfl, (hI.out.2.1.same (s := 130) (v := .bool false) eg).upd 35 rfl rfl rfl rfl, hI.out.2.2⟩⟩
                    · intro LL a wx hI hLk hd K' hK
                      obtain ⟨td, hI⟩ := hI
                      obtain rfl := hI.out.1
                      have e35 := hI.out.2.1.at 35 rfl (hd 35 rfl)
                      have hb := hI.out.2.2
                      have c_x1 := cell_keep hb.out x1
                      have eg := hI.out.2.1.at 28 rfl (hd 28 rfl)
                      rw [eg]
                      rw [if_pos (by rfl)]
                      go_simp
                      exact hK.out _ _ ⟨(put1 (put1 (put1 td 137 (.pointer (some ⟨gX, 1, none⟩))) 130 (.bool false)) 138 (.slice (some adX) L.length cX)), ⟨rfl, ((hI.out.2.1.same (s := 137) (v := .pointer (some ⟨gX, 1, none⟩)) e35).same (s := 130) (v := .bool false) eg).upd 36 rfl rfl rfl rfl, hI.out.2.2⟩⟩
                    · intro LL a wx hI hLk hd K' hK
                      obtain ⟨td, hI⟩ := hI
                      obtain rfl := hI.out.1
                      have eg := hI.out.2.1.at 28 rfl (hd 28 rfl)
                      rw [eg]
                      rw [if_pos (by rfl)]
                      go_simp
                      exact hK.out _ _ ⟨(put1 (put1 td 130 (.bool false)) 139 (.int .i64 (k14 : Int))), ⟨rfl, (hI.out.2.1.same (s := 130) (v := .bool false) eg).upd 37 rfl rfl rfl rfl, hI.out.2.2⟩⟩
                    · intro LL a wx hI hLk hd K' hK
                      obtain ⟨td, hI⟩ := hI
                      obtain rfl := hI.out.1
                      have e36 := hI.out.2.1.at 36 rfl (hd 36 rfl)
                      have e37 := hI.out.2.1.at 37 rfl (hd 37 rfl)
                      have eg := hI.out.2.1.at 28 rfl (hd 28 rfl)
                      rw [eg]
                      rw [if_pos (by rfl)]
                      go_simp
                      exact hK.out _ _ ⟨(put1 (put1 (put1 (put1 td 138 (.slice (some adX) L.length cX)) 139 (.int .i64 (k14 : Int))) 130 (.bool false)) 140 (.pointer (some (adX.add (k14 * 4))))), ⟨rfl, (((hI.out.2.1.same (s := 138) (v := .slice (some adX) L.length cX) e36).same (s := 139) (v := .int .i64 (k14 : Int)) e37).same (s := 130) (v := .bool false) eg).upd 38 rfl rfl rfl rfl, hI.out.2.2⟩⟩
                    · intro LL a wx hI hLk hd K' hK
                      obtain ⟨td, hI⟩ := hI
                      obtain rfl := hI.out.1
                      have e38 := hI.out.2.1.at 38 rfl (hd 38 rfl)
                      have eg := hI.out.2.1.at 28 rfl (hd 28 rfl)
                      rw [eg]
                      rw [if_pos (by rfl)]
                      go_simp
                      exact hK.out _ _ ⟨(put1 (put1 (put1 td 140 (.pointer (some (adX.add (k14 * 4))))) 130 (.bool false)) 141 (.pointer (some ⟨(adX.add (k14 * 4)).block, (adX.add (k14 * 4)).off + 3, none⟩))), ⟨rfl, ((hI.out.2.1.same (s := 140) (v := .pointer (some (adX.add (k14 * 4)))) e38).same (s := 130) (v := .bool false) eg).upd 39 rfl rfl rfl rfl, hI.out.2.2⟩⟩
                    · intro LL a wx hI hLk hd K' hK
                      obtain ⟨td, hI⟩ := hI
                      obtain rfl := hI.out.1
                      have e39 := hI.out.2.1.at 39 rfl (hd 39 rfl)
                      have hb := hI.out.2.2
                      have c_f3 := cell_keep hb.out f3
                      have eg := hI.out.2.1.at 28 rfl (hd 28 rfl)
                      rw [eg]
                      rw [if_pos (by rfl)]
                      go_simp
                      exact hK.out _ _ ⟨(put1 (put1 (put1 td 141 (.pointer (some ⟨(adX.add (k14 * 4)).block, (adX.add (k14 * 4)).off + 3, none⟩))) 130 (.bool false)) 142 (.int .i64 d.f2)), ⟨rfl, ((hI.out.2.1.same (s := 141) (v := .pointer (some ⟨(adX.add (k14 * 4)).block, (adX.add (k14 * 4)).off + 3, none⟩)) e39).same (s := 130) (v := .bool false) eg).upd 40 rfl rfl rfl rfl, hI.out.2.2⟩⟩
                    · intro LL a wx hI hLk hd K' hK
                      obtain ⟨td, hI⟩ := hI
                      obtain rfl := hI.out.1
                      have e34 := hI.out.2.1.at 34 rfl (hd 34 rfl)
                      have e40 := hI.out.2.1.at 40 rfl (hd 40 rfl)
                      have eg := hI.out.2.1.at 28 rfl (hd 28 rfl)
                      rw [eg]
                      rw [if_pos (by rfl)]
                      go_simp
                      exact hK.out _ _ ⟨(put1 (put1 (put1 (put1 td 136 (.int .i64 d.f2)) 142 (.int .i64 d.f2)) 130 (.bool false)) 143 (.bool true)), ⟨rfl, (((hI.out.2.1.same (s := 136) (v := .int .i64 d.f2) e34).same (s := 142) (v := .int .i64 d.f2) e40).same (s := 130) (v := .bool false) eg).upd 41 rfl rfl rfl rfl, hI.out.2.2⟩⟩
                    · intro LL a wx hI hLk hd K' hK
                      obtain ⟨td, hI⟩ := hI
                      obtain rfl := hI.out.1
                      have eg := hI.out.2.1.at 28 rfl (hd 28 rfl)
                      rw [eg]
                      rw [if_pos (by rfl)]
                      go_simp
                      exact hK.out _ _ ⟨(put1 (put1 td 130 (.bool false)) 144 (.int .i64 (k14 : Int))), ⟨rfl, (hI.out.2.1.same (s := 130) (v := .bool false) eg).upd 42 rfl rfl rfl rfl, hI.out.2.2⟩⟩
                    · intro LL a wx hI hLk hd K' hK
                      obtain ⟨td, hI⟩ := hI
                      obtain rfl := hI.out.1
                      have eg := hI.out.2.1.at 28 rfl (hd 28 rfl)
                      rw [eg]
                      rw [if_pos (by rfl)]
                      go_simp
                      exact hK.out _ _ ⟨(put1 (put1 td 130 (.bool false)) 145 (.slice (some adG) 1 cG)), ⟨rfl, (hI.out.2.1.same (s := 130) (v := .bool false) eg).upd 43 rfl rfl rfl rfl, hI.out.2.2⟩⟩
                    · intro LL a wx hI hLk hd K' hK
                      obtain ⟨td, hI⟩ := hI
                      obtain rfl := hI.out.1
                      have e43 := hI.out.2.1.at 43 rfl (hd 43 rfl)
                      have eg := hI.out.2.1.at 28 rfl (hd 28 rfl)
                      rw [eg]
                      rw [if_pos (by rfl)]
                      go_simp
                      exact hK.out _ _ ⟨(put1 (put1 (put1 td 145 (.slice (some adG) 1 cG)) 130 (.bool false)) 146 (.pointer (some (adG.add 0)))), ⟨rfl, ((hI.out.2.1.same (s := 145) (v := .slice (some adG) 1 cG) e43).same (s := 130) (v := .bool false) eg).upd 44 rfl rfl rfl rfl, hI.out.2.2⟩⟩
                    · intro LL a wx hI hLk hd K' hK
                      obtain ⟨td, hI⟩ := hI
                      obtain rfl := hI.out.1
                      have e44 := hI.out.2.1.at 44 rfl (hd 44 rfl)
                      have hb := hI.out.2.2
                      have c_g0 := cell_keep hb.out g0
                      have eg := hI.out.2.1.at 28 rfl (hd 28 rfl)
                      rw [eg]
                      rw [if_pos (by rfl)]
                      go_simp
                      exact hK.out _ _ ⟨(put1 (put1 (put1 td 146 (.pointer (some (adG.add 0)))) 130 (.bool false)) 147 (.int .i64 (i : Int))), ⟨rfl, ((hI.out.2.1.same (s := 146) (v := .pointer (some (adG.add 0))) e44).same (s := 130) (v := .bool false) eg).upd 45 rfl rfl rfl rfl, hI.out.2.2⟩⟩
                    · intro LL a wx hI hLk hd K' hK
                      obtain ⟨td, hI⟩ := hI
                      obtain rfl := hI.out.1
                      have e42 := hI.out.2.1.at 42 rfl (hd 42 rfl)
                      have e45 := hI.out.2.1.at 45 rfl (hd 45 rfl)
                      have eg := hI.out.2.1.at 28 rfl (hd 28 rfl)
                      rw [eg]
                      rw [if_pos (by rfl)]
                      go_simp
                      exact hK.out _ _ ⟨(put1 (put1 (put1 (put1 td 144 (.int .i64 (k14 : Int))) 147 (.int .i64 (i : Int))) 130 (.bool false)) 148 (.bool true)), ⟨rfl, (((hI.out.2.1.same (s := 144) (v := .int .i64 (k14 : Int)) e42).same (s := 147) (v := .int .i64 (i : Int)) e45).same (s := 130) (v := .bool false) eg).upd 46 rfl rfl rfl rfl, hI.out.2.2⟩⟩
                    · intro LL a wx hI hLk hd K' hK
                      obtain ⟨td, hI⟩ := hI
                      obtain rfl := hI.out.1
                      have e41 := hI.out.2.1.at 41 rfl (hd 41 rfl)
                      have e46 := hI.out.2.1.at 46 rfl (hd 46 rfl)
                      have eg := hI.out.2.1.at 28 rfl (hd 28 rfl)
                      rw [eg]
                      rw [if_pos (by rfl)]
                      go_simp
                      exact hK.out _ _ ⟨(put1 (put1 (put1 (put1 td 143 (.bool true)) 148 (.bool true)) 130 (.bool false)) 149 (.bool false)), ⟨rfl, (((hI.out.2.1.same (s := 143) (v := .bool true) e41).same (s := 148) (v := .bool true) e46).same (s := 130) (v := .bool false) eg).upd 47 rfl rfl rfl rfl, hI.out.2.2⟩⟩
                    · intro LL a wx hI hLk hd K' hK
                      obtain ⟨td, hI⟩ := hI
                      obtain rfl := hI.out.1
                      have e28 := hI.out.2.1.at 28 rfl (hd 28 rfl)
                      have e47 := hI.out.2.1.at 47 rfl (hd 47 rfl)
                      rw [if_pos (by rfl)]
                      go_simp
                      exact hK.out _ _ ⟨(put1 (put1 (put1 td 130 (.bool false)) 149 (.bool false)) 150 (.bool false)), ⟨rfl, ((hI.out.2.1.same (s := 130) (v := .bool false) e28).same (s := 149) (v := .bool false) e47).upd 48 rfl rfl rfl rfl, hI.out.2.2⟩⟩
                  · intro LL a ws hall hI
                    obtain ⟨td, hI⟩ := hI
                    obtain rfl := hI.out.1
                    have hb := hI.out.2.2
                    have e48 := hI.out.2.1.at 48 rfl (hall 48 (by decide))
                    rw [e48]
                    have HBn := Aside0.mk (below_step HBr.out hb.out)
                    clear hI hb e48
                    go_wp2
                    go_roundw
                    case rel => exact ⟨k14 + 1, HLT.out, by rw [HW14.out], HBn⟩
                    case measure => have := HLT.out; rw [HW14.out]; simp [intOf]; omega
              · have hc1 : ((k14 : Int) < (L2.length : Int)) = False := eq_false (by omega)
                have c1 : wr.cell? ⟨g11, 1, none⟩ = some (.slice AC L2.length cC) := cell_keep HBr.out C1c.out
                have HB9w : Aside0 (Below w8.heap.size w8 wr) := ⟨below_step HB10q.out HBr.out⟩
                go_wp2_with fail
                exact tail.out (fun s => List.getD (.agg #[.int .i64 a0_0, .slice A0_1 l0_1.length c0_1] :: .string a1 :: .int .u8 a2 :: .pointer (some ⟨gA, 0, none⟩) :: undef :: undef :: u6 :: .pointer (some ⟨gX, 0, none⟩) :: .pointer (some ⟨gB, 0, none⟩) :: .slice (some adG) 1 cG :: .int .i64 0 :: .pointer (some ⟨g11, 0, none⟩) :: .slice AH 2 cH :: .int .i64 0 :: .int .i64 (k14 : Int) :: undef :: undef :: undef :: undef :: undef :: undef :: undef :: undef :: .bool true :: .bool false :: .agg #[.int .i64 a0_0, .slice A0_1 l0_1.length c0_1] :: .bool true :: .bool false :: .bool false :: .string a1 :: .int .i64 (a1.size : Int) :: .bool false :: .bool false :: .bool false :: .agg #[.int .i64 a0_0, .slice A0_1 l0_1.length c0_1] :: .bool true :: .bool false :: .bool false :: .bool false :: .pointer (some ⟨gA, 0, none⟩) :: .int .i64 a0_0 :: .bool false :: .bool false :: .agg #[.int .i64 a0_0, .slice A0_1 l0_1.length c0_1] :: .agg #[.int .i64 a0_0, .slice AX L.length cX] :: .tuple #[.agg #[.int .i64 (a0_0 + 1), .slice AB r2.length cB], .slice (some adG) 1 cG, .int .i64 0] :: .agg #[.int .i64 a0_0, .slice AX L.length cX] :: .string a1 :: .tuple #[.agg #[.int .i64 (a0_0 + 1), .slice AB r2.length cB], .slice (some adG) 1 cG, .int .i64 0] :: .agg #[.int .i64 (a0_0 + 1), .slice AB r2.length cB] :: .slice (some adG) 1 cG :: .int .i64 0 :: .int .i64 0 :: .bool true :: ta 54 :: ta 55 :: ta 56 :: ta 57 :: ta 58 :: ta 59 :: ta 60 :: ta 61 :: ta 62 :: tb 63 :: tb 64 :: tb 65 :: tb 66 :: tb 67 :: tb 68 :: tb 69 :: tb 70 :: tb 71 :: tb 72 :: tb 73 :: tb 74 :: tb 75 :: tb 76 :: tb 77 :: tb 78 :: tb 79 :: tb 80 :: tb 81 :: tb 82 :: tb 83 :: tb 84 :: tb 85 :: tb 86 :: tb 87 :: tb 88 :: tb 89 :: tb 90 :: tb 91 :: tb 92 :: tb 93 :: .bool false :: .int .i64 (k14 : Int) :: .pointer (some ⟨g11, 1, none⟩) :: .slice AC L2.length cC :: .int .i64 (L2.length : Int) :: .bool false :: u100 :: u101 :: u102 :: u103 :: u104 :: u105 :: u106 :: u107 :: u108 :: u109 :: u110 :: u111 :: u112 :: u113 :: u114 :: u115 :: u116 :: u117 :: u118 :: u119 :: u120 :: u121 :: u122 :: u123 :: u124 :: u125 :: u126 :: u127 :: u128 :: u129 :: u130 :: u131 :: u132 :: u133 :: u134 :: u135 :: u136 :: u137 :: u138 :: u139 :: u140 :: u141 :: u142 :: u143 :: u144 :: u145 :: u146 :: u147 :: u148 :: u149 :: u150 :: []) s undef) _ HB9w.out

end Go.Proofs.Ytbajekndbamcmaa.PAtlasBack

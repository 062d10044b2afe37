/- The medium, by hand, 5: what is handed in and out is apart. No condition. -/
import Derived.Test.YtkolcgofhjbebaaWMed4
namespace Go.Proofs.YtkolcgofhjbebaaW.PrintMed
open Go.RowKit Go.Proofs.YtkolcgofhjbebaaW.PrintWords Go.Proofs.YtkolcgofhjbebaaW.PrintLast Go.Proofs.YtkolcgofhjbebaaW.PrintMore Go.Proofs.YtkolcgofhjbebaaW.PrintReg
set_option linter.unusedVariables false
set_option linter.unusedSimpArgs false
theorem Med.cap {base : Nat} {w : World} {g : Nat} {P : Nat → Prop} {bs : List Int} {s : Nat} (h : Med base w g P bs s) : Med base w g (fun k => P k ∧ k < w.heap.size) bs s := by
  obtain ⟨v, h1, h2, h3, h4, h5⟩ := h
  exact ⟨v, h1, h2, ⟨h3, blk_lt h1⟩, Kd.R_mono (Kd.R_bound h4) (fun k hk => ⟨⟨hk.1.1, hk.2.2.1⟩, hk.1.2⟩), h5⟩

set_option maxHeartbeats 8000000 in
set_option maxRecDepth 100000 in
theorem hands_calls (A0 A1 : Option Addr) (c0 c1 : Nat) (l0 l1 : List Int) (w : World) (hr0 : Kd.C (Kd.int .u8) w A0 l0.length l0) (hr1 : Kd.C (Kd.int .u8) w A1 l1.length l1) : Calls Try.prog 7 #[.slice A0 l0.length c0, .slice A1 l1.length c1] w fun e w' => e = .returned (.bool true) ∧ Below w.heap.size w w' := by
  have HC0 := Aside0.mk hr0
  have HC1 := Aside0.mk hr1
  have HX := Aside0.mk (awake_calls)
  clear hr0 hr1
  by_cases h0 : 500 < l0.length
  · have hq0 : ((500 : Int) < (l0.length : Int)) = True := by simp; omega
    go_enter Try.func7, Try.ntmps7
    go_wp2_with (go_at_call 11; refine (HX.out w).mono ?_; rintro e w0 ⟨rfl, hb0⟩; have HB0 := Aside0.mk hb0; clear hb0)
    go_ret
    exact ⟨rfl, HB0.out⟩
  have hq0 : ((500 : Int) < (l0.length : Int)) = False := by simp; omega
  by_cases h1 : 500 < l1.length
  · have hq1 : ((500 : Int) < (l1.length : Int)) = True := by simp; omega
    go_enter Try.func7, Try.ntmps7
    go_wp2_with (go_at_call 11; refine (HX.out w).mono ?_; rintro e w0 ⟨rfl, hb0⟩; have HB0 := Aside0.mk hb0; clear hb0)
    go_ret
    exact ⟨rfl, HB0.out⟩
  have hq1 : ((500 : Int) < (l1.length : Int)) = False := by simp; omega
  have HL := Aside0.mk (And.intro (Nat.le_of_not_lt h0) (Nat.le_of_not_lt h1))
  obtain ⟨bs, hbs⟩ : ∃ bs, bs = l0 ++ l1 := ⟨_, rfl⟩
  have HBS := Aside0.mk hbs
  clear h0 h1 hbs
  go_enter Try.func7, Try.ntmps7
  go_wp2_with fail
  go_at_call 11; refine (HX.out w).mono ?_; rintro e w0 ⟨rfl, hb0⟩; have HB0 := Aside0.mk hb0; clear hb0
  go_wp2_with fail
  go_at_call 12; refine (new_calls w0).mono ?_; rintro e w1 ⟨g, rfl, hg, hbx, hb⟩; have hnl := fun wx => run_eql_ptr_nil (P := Try.prog) wx 24 60 ⟨g, 0, none⟩ Try.underlying24
  have HM : Aside0 (Med w.heap.size w1 g (fun k => w0.heap.size ≤ k ∧ k < w1.heap.size) [] 0) := ⟨(med_new hg HB0.out.size hbx).cap⟩
  have HS1 : Aside0 (w.heap.size ≤ w0.heap.size ∧ w0.heap.size ≤ w1.heap.size) := ⟨⟨HB0.out.size, hb.size⟩⟩
  have HW1 : Aside0 (Below w.heap.size w w1) := ⟨below_step HB0.out hb⟩
  clear hg hbx hb HB0 HX hq0 hq1
  go_wp2_with (first
    | ((with_reducible refine gate_dst (N := 27) rfl ?_); refine Kd.R_lit (Kd.int .u8) w1.heap.size 5 ?hg (N := 27) ?hd (xs := ([] : List Int)) (inner := []) (ok := fun _ => True) (okp := fun _ => True) ?hr ?hp (fun _ hk => hk) trivial (Below.refl _ _) (Nat.le_refl _) (by simp) ?_; (case hd => rfl); (case hg => rfl); (case hr => first | (go_simp; done) | (go_simp; rfl)); (case hp => exact (Reps.none _ _)); intro vx1 wx1 ho1 hb1 hg_ hnew_; have HOx := Aside0.mk ho1; have HBx := Aside0.mk hb1; clear hg_ hnew_ ho1 hb1)
    | ((with_reducible refine gate_builtin (b := .append) (xs := #[.tmp 27, .tmp 28]) rfl ?_); at_builtin; refine Kd.R_append_rows (Kd.int .u8) (Rr := Kd.K (Kd.int .u8) wx1) (w0 := w1) w1.heap.size rfl (.tmp 27) (.tmp 28) 22 5 (.int .u8 0) 1 rfl Try.underlying22 info5 rfl (by decide) (by omega) vx1 [] l0 _ _ _ (fun _ => True) (fun _ => False) rfl rfl ?aO ?aR (fun _ _ h => h) (fun _ h => h.elim) (fun _ _ => trivial) ?aB ?aS ?aL ?_; (case aO => exact HOx.out); (case aR => exact Kd.C_below (Kd.C_below HC0.out HW1.out) HBx.out); (case aB => exact HBx.out); (case aS => exact below_size HBx.out); (case aL => have := HL.out; simp; omega); intro vx2 wx2 ho2 hb2 hg2 hat2; rw [List.nil_append] at ho2; obtain ⟨Ax, cx, rfl, _, _⟩ := Kd.R_reads ho2; have HRx := Aside0.mk ho2; have HZx := Aside0.mk hb2; clear ho2 hb2 hg2 hat2))
  have HS2 : Aside0 (w1.heap.size ≤ wx2.heap.size) := ⟨below_size HZx.out⟩
  have HM : Aside0 (Med w.heap.size wx2 g (fun k => w0.heap.size ≤ k ∧ k < w1.heap.size) [] 0) := ⟨HM.out.below HZx.out⟩
  have HW2 : Aside0 (Below w.heap.size w wx2) := ⟨below_step HW1.out HZx.out⟩
  have HAx : Aside0 (0 < l0.length → ∃ gx, Ax = some ⟨gx, 0, none⟩ ∧ (fun k => w1.heap.size ≤ k ∧ k < wx2.heap.size) gx ∧ w.heap.size ≤ gx) := ⟨fun hp => by
    obtain ⟨gx, cap, e, h1, h2, _⟩ := Kd.R_form HRx.out hp
    injection e with e1 e2 e3
    have := HS1.out
    exact ⟨gx, e1, by first | exact h1 | exact ⟨h1, h2⟩, by omega⟩⟩
  clear HOx HBx HZx
  go_at_call 13; refine (append_calls w.heap.size g _ _ _ l0 _ _ wx2 HM.out (Kd.R_reads' HRx.out).2.2 (by have := HL.out; simp; omega) HW2.out.size (fun k hk => by have := HS1.out; omega)).mono ?_
  rintro e w3 ⟨rfl, hm, hf⟩
  rw [List.nil_append] at hm
  have HS3 : Aside0 (wx2.heap.size ≤ w3.heap.size) := ⟨hf.below.size⟩
  have HM : Aside0 (Med w.heap.size w3 g (fun k => (w0.heap.size ≤ k ∧ k < w1.heap.size) ∨ (wx2.heap.size ≤ k ∧ k < w3.heap.size)) l0 0) := ⟨hm.cap.mono (fun k hk => by have := HS1.out; omega)⟩
  have HRx : Aside0 (Kd.R (Kd.int .u8) 5 w3 w1.heap.size (fun _ => True) (.slice Ax l0.length cx) l0) := ⟨Kd.R_mono (R_fr (Kd.R_bound HRx.out) hf (fun k hk hp => by have := hk.2.1; have := hk.2.2.1; omega)) (fun _ _ => trivial)⟩
  have HW3 : Aside0 (Below w.heap.size w w3) := ⟨HW2.out.trans hf.below⟩
  clear hm hf
  go_wp2_with fail

  go_loopw [7] (fun i wr => ∃ k : Nat, k ≤ l0.length ∧ i = .int .i64 k ∧ Aside0 (Fr w.heap.size (fun k => w1.heap.size ≤ k ∧ k < wx2.heap.size) w3 wr) ∧ Aside0 (∃ ys : List Int, ys.length = l0.length ∧ Kd.R (Kd.int .u8) 5 wr w1.heap.size (fun _ => True) (.slice Ax l0.length cx) ys)) (fun i _ => l0.length - (intOf i).toNat)
  case atStart => exact ⟨0, Nat.zero_le _, rfl, ⟨Fr.refl _ _ _⟩, ⟨l0, rfl, HRx.out⟩⟩
  case round =>
    obtain ⟨k7, hk, rfl, HF, HY⟩ := hrel
    by_cases hlt : k7 < l0.length
    · have hc1 : ((k7 : Int) < (l0.length : Int)) = True := eq_true (by omega)
      have hc2 : (0 : Int) ≤ (k7 : Int) := by omega
      obtain ⟨gx, rfl, hgx⟩ := HAx.out (by omega)
      obtain ⟨ys, hys, hr⟩ := HY.out
      obtain ⟨d0, z0⟩ := Kd.R_celln (enc := Value.int .u8) (h1 := fun _ => rfl) 0 hr (k7 : Int) (by omega) (by omega)
      rw [Int.toNat_natCast] at d0 z0
      have HGX := Aside0.mk hgx
      have HLT := Aside0.mk hlt
      have HW : Aside0 (wrap64 ((k7 : Int) + 1) = ((k7 + 1 : Nat) : Int)) := ⟨by have := HL.out; unfold wrap64; omega⟩
      have HP : Aside0 (∀ V : Int, ∃ ys : List Int, ys.length = l0.length ∧ Kd.R (Kd.int .u8) 5 (wr.setCell ⟨gx, k7, none⟩ (.int .u8 V)) w1.heap.size (fun _ => True) (.slice (some ⟨gx, 0, none⟩) l0.length cx) ys) := ⟨fun V => by
        rw [← hys] at hr
        have := (Kd.R_put (enc := Value.int .u8) (h1 := fun _ => rfl) hr (k7 : Int) V).1
        rw [Int.toNat_natCast, hys] at this
        exact ⟨ys.set k7 V, by rw [List.length_set, hys], this⟩⟩
      clear hgx hr
      go_wp2
      go_split_ands
      go_roundw
      case rel => exact ⟨k7 + 1, HLT.out, by rw [HW.out], ⟨HF.out.set HGX.out.1 HGX.out.2 _⟩, ⟨HP.out _⟩⟩
      case measure => have := HLT.out; rw [HW.out]; simp [intOf]; omega
    · have hc1 : ((k7 : Int) < (l0.length : Int)) = False := eq_false (by omega)
      clear HY
      obtain ⟨w4, hw_⟩ : ∃ z, z = wr := ⟨_, rfl⟩
      subst hw_
      have HM : Aside0 (Med w.heap.size w4 g (fun k => (w0.heap.size ≤ k ∧ k < w1.heap.size) ∨ (wx2.heap.size ≤ k ∧ k < w4.heap.size)) l0 0) := ⟨(HM.out.fr HF.out (fun k hk hq => by have := HS2.out; omega)).mono (fun k hk => by have := HF.out.below.size; omega)⟩
      have HS4 : Aside0 (wx2.heap.size ≤ w4.heap.size) := ⟨Nat.le_trans HS3.out HF.out.below.size⟩
      have HW4 : Aside0 (Below w.heap.size w w4) := ⟨HW3.out.trans HF.out.below⟩
      clear HF HRx HAx HS3 HW3 HW2 HW1
      go_wp2_with fail
      go_at_call 17; refine (bytes_calls w.heap.size g _ _ _ w4 HM.out (by have := HL.out; omega)).mono ?_
      rintro e w5 ⟨Ay, cy, rfl, hr, hb⟩
      have HRy := Aside0.mk hr
      have HAy : Aside0 (0 < l0.length → ∃ gx, Ay = some ⟨gx, 0, none⟩ ∧ (fun k => w4.heap.size ≤ k) gx ∧ w.heap.size ≤ gx) := ⟨fun hp => by
        obtain ⟨gx, cap, e, h1, h2, _⟩ := Kd.R_form HRy.out hp
        injection e with e1 e2 e3
        have := HW4.out.size
        exact ⟨gx, e1, by first | exact h1 | exact ⟨h1, h2⟩, by omega⟩⟩
      have HW5 : Aside0 (Below w.heap.size w w5) := ⟨below_step HW4.out hb⟩
      have HB5 := Aside0.mk hb
      clear hr hb
      go_wp2_with fail
      go_loopw [9] (fun i wr => ∃ k : Nat, k ≤ l0.length ∧ i = .int .i64 k ∧ Aside0 (Fr w.heap.size (fun k => w4.heap.size ≤ k) w5 wr) ∧ Aside0 (∃ ys : List Int, ys.length = l0.length ∧ Kd.R (Kd.int .u8) 5 wr w4.heap.size (fun _ => True) (.slice Ay l0.length cy) ys)) (fun i _ => l0.length - (intOf i).toNat)
      case atStart => exact ⟨0, Nat.zero_le _, rfl, ⟨Fr.refl _ _ _⟩, ⟨l0, rfl, HRy.out⟩⟩
      case round =>
        obtain ⟨k9, hk, rfl, HF, HY⟩ := hrel
        by_cases hlt : k9 < l0.length
        · have hc1 : ((k9 : Int) < (l0.length : Int)) = True := eq_true (by omega)
          have hc2 : (0 : Int) ≤ (k9 : Int) := by omega
          obtain ⟨gx, rfl, hgx⟩ := HAy.out (by omega)
          obtain ⟨ys, hys, hr⟩ := HY.out
          obtain ⟨d0, z0⟩ := Kd.R_celln (enc := Value.int .u8) (h1 := fun _ => rfl) 0 hr (k9 : Int) (by omega) (by omega)
          rw [Int.toNat_natCast] at d0 z0
          have HGX := Aside0.mk hgx
          have HLT := Aside0.mk hlt
          have HW : Aside0 (wrap64 ((k9 : Int) + 1) = ((k9 + 1 : Nat) : Int)) := ⟨by have := HL.out; unfold wrap64; omega⟩
          have HP : Aside0 (∀ V : Int, ∃ ys : List Int, ys.length = l0.length ∧ Kd.R (Kd.int .u8) 5 (wr.setCell ⟨gx, k9, none⟩ (.int .u8 V)) w4.heap.size (fun _ => True) (.slice (some ⟨gx, 0, none⟩) l0.length cy) ys) := ⟨fun V => by
            rw [← hys] at hr
            have := (Kd.R_put (enc := Value.int .u8) (h1 := fun _ => rfl) hr (k9 : Int) V).1
            rw [Int.toNat_natCast, hys] at this
            exact ⟨ys.set k9 V, by rw [List.length_set, hys], this⟩⟩
          clear hgx hr
          go_wp2
          go_split_ands
          go_roundw
          case rel => exact ⟨k9 + 1, HLT.out, by rw [HW.out], ⟨HF.out.set HGX.out.1 HGX.out.2 _⟩, ⟨HP.out _⟩⟩
          case measure => have := HLT.out; rw [HW.out]; simp [intOf]; omega
        · have hc1 : ((k9 : Int) < (l0.length : Int)) = False := eq_false (by omega)
          clear HY
          obtain ⟨w6, hw_⟩ : ∃ z, z = wr := ⟨_, rfl⟩
          subst hw_
          have HM : Aside0 (Med w.heap.size w6 g (fun k => (w0.heap.size ≤ k ∧ k < w1.heap.size) ∨ (wx2.heap.size ≤ k ∧ k < w4.heap.size)) l0 0) := ⟨(HM.out.below HB5.out).fr HF.out (fun k hk hq => by have := HS1.out; have := HS2.out; have := HS4.out; omega)⟩
          have HS6 : Aside0 (w4.heap.size ≤ w6.heap.size) := ⟨Nat.le_trans HB5.out.size HF.out.below.size⟩
          have HW6 : Aside0 (Below w.heap.size w w6) := ⟨HW5.out.trans HF.out.below⟩
          clear HF HRy HAy HB5 HW5 HW4
          go_wp2_with fail
          go_at_call 28; refine (copy_calls w.heap.size g _ _ _ w6 HM.out (by have := HL.out; omega) HW6.out.size).mono ?_
          rintro e w7 ⟨gc, rfl, hm, hb⟩
          have HM : Aside0 (Med w.heap.size w7 g (fun k => (w0.heap.size ≤ k ∧ k < w1.heap.size) ∨ (wx2.heap.size ≤ k ∧ k < w4.heap.size)) l0 0) := ⟨HM.out.below hb⟩
          have HC : Aside0 (Med w.heap.size w7 gc (fun k => w6.heap.size ≤ k) l0 0) := ⟨hm⟩
          have HW7 : Aside0 (Below w.heap.size w w7) := ⟨below_step HW6.out hb⟩
          have HS7 : Aside0 (w6.heap.size ≤ w7.heap.size) := ⟨hb.size⟩
          clear hm hb
          go_wp2_with fail
          go_at_call 13; refine (append_calls w.heap.size gc _ _ _ l1 _ _ w7 HC.out (Kd.C_below HC1.out HW7.out) (by have := HL.out; omega) HW7.out.size (fun k hk => by have := HW6.out.size; omega)).mono ?_
          rintro e w8 ⟨rfl, hm, hf⟩
          have HM : Aside0 (Med w.heap.size w8 g (fun k => (w0.heap.size ≤ k ∧ k < w1.heap.size) ∨ (wx2.heap.size ≤ k ∧ k < w4.heap.size)) l0 0) := ⟨HM.out.fr hf (fun k hk hq => by have := HS1.out; have := HS2.out; have := HS4.out; have := HS6.out; omega)⟩
          rw [← HBS.out] at hm
          have HC : Aside0 (Med w.heap.size w8 gc (fun k => w6.heap.size ≤ k ∧ k < w8.heap.size) bs 0) := ⟨hm.cap.mono (fun k hk => by have := HS7.out; omega)⟩
          have HW8 : Aside0 (Below w.heap.size w w8) := ⟨HW7.out.trans hf.below⟩
          have HS8 : Aside0 (w7.heap.size ≤ w8.heap.size) := ⟨hf.below.size⟩
          clear hm hf
          go_wp2_with (first
            | ((with_reducible refine gate_dst (N := 64) rfl ?_); refine Kd.R_lit (Kd.int .u8) w8.heap.size 5 ?hg (N := 64) ?hd (xs := ([] : List Int)) (inner := []) (ok := fun _ => True) (okp := fun _ => True) ?hr ?hp (fun _ hk => hk) trivial (Below.refl _ _) (Nat.le_refl _) (by simp) ?_; (case hd => rfl); (case hg => rfl); (case hr => first | (go_simp; done) | (go_simp; rfl)); (case hp => exact (Reps.none _ _)); intro vz1 wz1 ho1 hb1 hg_ hnew_; have HOz := Aside0.mk ho1; have HBz := Aside0.mk hb1; clear hg_ hnew_ ho1 hb1)
            | ((with_reducible refine gate_builtin (b := .append) (xs := #[.tmp 64, .tmp 65]) rfl ?_); at_builtin; refine Kd.R_append_rows (Kd.int .u8) (Rr := Kd.K (Kd.int .u8) wz1) (w0 := w8) w8.heap.size rfl (.tmp 64) (.tmp 65) 22 5 (.int .u8 0) 1 rfl Try.underlying22 info5 rfl (by decide) (by omega) vz1 [] l1 _ _ _ (fun _ => True) (fun _ => False) rfl rfl ?aO ?aR (fun _ _ h => h) (fun _ h => h.elim) (fun _ _ => trivial) ?aB ?aS ?aL ?_; (case aO => exact HOz.out); (case aR => exact Kd.C_below (Kd.C_below HC1.out HW8.out) HBz.out); (case aB => exact HBz.out); (case aS => exact below_size HBz.out); (case aL => have := HL.out; simp; omega); intro vz2 wz2 ho2 hb2 hg2 hat2; rw [List.nil_append] at ho2; obtain ⟨Az, cz, rfl, _, _⟩ := Kd.R_reads ho2; have HRz := Aside0.mk ho2; have HZz := Aside0.mk hb2; clear ho2 hb2 hg2 hat2))
          have HS9 : Aside0 (w8.heap.size ≤ wz2.heap.size) := ⟨below_size HZz.out⟩
          have HM : Aside0 (Med w.heap.size wz2 g (fun k => (w0.heap.size ≤ k ∧ k < w1.heap.size) ∨ (wx2.heap.size ≤ k ∧ k < w4.heap.size)) l0 0) := ⟨HM.out.below HZz.out⟩
          have HC : Aside0 (Med w.heap.size wz2 gc (fun k => w6.heap.size ≤ k ∧ k < w8.heap.size) bs 0) := ⟨HC.out.below HZz.out⟩
          have HW9 : Aside0 (Below w.heap.size w wz2) := ⟨below_step HW8.out HZz.out⟩
          have HAz : Aside0 (0 < l1.length → ∃ gx, Az = some ⟨gx, 0, none⟩ ∧ (fun k => w8.heap.size ≤ k ∧ k < wz2.heap.size) gx ∧ w.heap.size ≤ gx) := ⟨fun hp => by
            obtain ⟨gx, cap, e, h1, h2, _⟩ := Kd.R_form HRz.out hp
            injection e with e1 e2 e3
            have := HW8.out.size
            exact ⟨gx, e1, by first | exact h1 | exact ⟨h1, h2⟩, by omega⟩⟩
          clear HOz HBz HZz
          go_at_call 17; refine (bytes_calls w.heap.size g _ _ _ wz2 HM.out (by have := HL.out; omega)).mono ?_
          rintro e w10 ⟨Af, cf, rfl, hr, hb⟩
          have hcv := Kd.C_string (P := Try.prog) (A := Af) (c := cf) Try.underlying22 Try.underlying5 Try.underlying9 ((Kd.R_reads' hr).2.2)
          have HM : Aside0 (Med w.heap.size w10 g (fun k => (w0.heap.size ≤ k ∧ k < w1.heap.size) ∨ (wx2.heap.size ≤ k ∧ k < w4.heap.size)) l0 0) := ⟨HM.out.below hb⟩
          have HC : Aside0 (Med w.heap.size w10 gc (fun k => w6.heap.size ≤ k ∧ k < w8.heap.size) bs 0) := ⟨HC.out.below hb⟩
          have HRz : Aside0 (Kd.R (Kd.int .u8) 5 w10 w8.heap.size (fun k => k < wz2.heap.size) (.slice Az l1.length cz) l1) := ⟨Kd.R_mono (Kd.R_below (Kd.R_bound HRz.out) hb) (fun k hk => hk.2.2.1)⟩
          have HW10 : Aside0 (Below w.heap.size w w10) := ⟨below_step HW9.out hb⟩
          have HS10 : Aside0 (wz2.heap.size ≤ w10.heap.size) := ⟨hb.size⟩
          clear hr hb
          go_wp2_with fail
          go_at_call 18; refine (swap_calls w.heap.size g _ _ _ l1 _ _ w10 HM.out (Kd.R_reads' HRz.out).2.2 (by have := HL.out; omega) HW10.out.size).mono ?_
          rintro e w11 ⟨rfl, hm, hf⟩
          have HM : Aside0 (Med w.heap.size w11 g (fun k => (w0.heap.size ≤ k ∧ k < w1.heap.size) ∨ (wx2.heap.size ≤ k ∧ k < w4.heap.size) ∨ w10.heap.size ≤ k) l1 l1.length) := ⟨hm.mono (fun k hk => by omega)⟩
          have HC : Aside0 (Med w.heap.size w11 gc (fun k => w6.heap.size ≤ k ∧ k < w8.heap.size) bs 0) := ⟨HC.out.fr hf (fun k hk hq => by have := HS1.out; have := HS2.out; have := HS4.out; have := HS6.out; omega)⟩
          have HRz : Aside0 (Kd.R (Kd.int .u8) 5 w11 w8.heap.size (fun _ => True) (.slice Az l1.length cz) l1) := ⟨Kd.R_mono (R_fr (Kd.R_bound HRz.out) hf (fun k hk hp => by have := hk.2.1; have := HS1.out; have := HS2.out; have := HS4.out; have := HS6.out; have := HS7.out; have := HS8.out; omega)) (fun _ _ => trivial)⟩
          have HW11 : Aside0 (Below w.heap.size w w11) := ⟨HW10.out.trans hf.below⟩
          clear hm hf hcv
          go_wp2_with fail
          go_loopw [13] (fun i wr => ∃ k : Nat, k ≤ l1.length ∧ i = .int .i64 k ∧ Aside0 (Fr w.heap.size (fun k => w8.heap.size ≤ k ∧ k < wz2.heap.size) w11 wr) ∧ Aside0 (∃ ys : List Int, ys.length = l1.length ∧ Kd.R (Kd.int .u8) 5 wr w8.heap.size (fun _ => True) (.slice Az l1.length cz) ys)) (fun i _ => l1.length - (intOf i).toNat)
          case atStart => exact ⟨0, Nat.zero_le _, rfl, ⟨Fr.refl _ _ _⟩, ⟨l1, rfl, HRz.out⟩⟩
          case round =>
            obtain ⟨k13, hk, rfl, HF, HY⟩ := hrel
            by_cases hlt : k13 < l1.length
            · have hc1 : ((k13 : Int) < (l1.length : Int)) = True := eq_true (by omega)
              have hc2 : (0 : Int) ≤ (k13 : Int) := by omega
              obtain ⟨gx, rfl, hgx⟩ := HAz.out (by omega)
              obtain ⟨ys, hys, hr⟩ := HY.out
              obtain ⟨d0, z0⟩ := Kd.R_celln (enc := Value.int .u8) (h1 := fun _ => rfl) 0 hr (k13 : Int) (by omega) (by omega)
              rw [Int.toNat_natCast] at d0 z0
              have HGX := Aside0.mk hgx
              have HLT := Aside0.mk hlt
              have HW : Aside0 (wrap64 ((k13 : Int) + 1) = ((k13 + 1 : Nat) : Int)) := ⟨by have := HL.out; unfold wrap64; omega⟩
              have HP : Aside0 (∀ V : Int, ∃ ys : List Int, ys.length = l1.length ∧ Kd.R (Kd.int .u8) 5 (wr.setCell ⟨gx, k13, none⟩ (.int .u8 V)) w8.heap.size (fun _ => True) (.slice (some ⟨gx, 0, none⟩) l1.length cz) ys) := ⟨fun V => by
                rw [← hys] at hr
                have := (Kd.R_put (enc := Value.int .u8) (h1 := fun _ => rfl) hr (k13 : Int) V).1
                rw [Int.toNat_natCast, hys] at this
                exact ⟨ys.set k13 V, by rw [List.length_set, hys], this⟩⟩
              clear hgx hr
              go_wp2
              go_split_ands
              go_roundw
              case rel => exact ⟨k13 + 1, HLT.out, by rw [HW.out], ⟨HF.out.set HGX.out.1 HGX.out.2 _⟩, ⟨HP.out _⟩⟩
              case measure => have := HLT.out; rw [HW.out]; simp [intOf]; omega
            · have hc1 : ((k13 : Int) < (l1.length : Int)) = False := eq_false (by omega)
              clear HY
              obtain ⟨w12, hw_⟩ : ∃ z, z = wr := ⟨_, rfl⟩
              subst hw_
              have HM : Aside0 (Med w.heap.size w12 g (fun k => (w0.heap.size ≤ k ∧ k < w1.heap.size) ∨ (wx2.heap.size ≤ k ∧ k < w4.heap.size) ∨ w10.heap.size ≤ k) l1 l1.length) := ⟨HM.out.fr HF.out (fun k hk hq => by have := HS1.out; have := HS2.out; have := HS4.out; have := HS6.out; have := HS7.out; have := HS8.out; have := HS10.out; omega)⟩
              have HC : Aside0 (Med w.heap.size w12 gc (fun k => w6.heap.size ≤ k ∧ k < w8.heap.size) bs 0) := ⟨HC.out.fr HF.out (fun k hk hq => by omega)⟩
              have HW12 : Aside0 (Below w.heap.size w w12) := ⟨HW11.out.trans HF.out.below⟩
              have HB1 : Aside0 (l1.length * 1 ≤ 140737488355328) := ⟨by have := HL.out; omega⟩
              have HB2 : Aside0 (bs.length * 1 ≤ 140737488355328) := ⟨by have := HL.out; rw [HBS.out, List.length_append]; omega⟩
              have HSB : Aside0 (strOfNums bs = strOfNums l0 ++ strOfNums l1) := ⟨by rw [HBS.out, str_append]⟩
              have HSZ : Aside0 ((9223372036854775807 < (strOfNums l0).size + (strOfNums l1).size) = False) := ⟨eq_false (by have := HL.out; rw [str_size, str_size]; omega)⟩
              clear HF HRz HAz HW11 HW10 HW9 HW8 HW7 HW6 HS1 HS2 HS4 HS6 HS7 HS8 HS9 HS10 HBS
              go_wp2_with fail
              refine wp_region_steps 24 rfl rfl (by kernel_rfl) (fun LL a wx => ∃ A91 : Option Addr, ∃ c91 : Nat, ∃ A99 : Option Addr, ∃ c99 : Nat, ∃ y : Nat → Value, Aside0 (a = { tmps := List.toArray (.slice A0 l0.length c0 :: .slice A1 l1.length c1 :: undef :: undef :: y 4 :: .pointer (some ⟨g, 0, none⟩) :: .slice Ax l0.length cx :: .int .i64 (k7 : Int) :: .slice Ay l0.length cy :: .int .i64 (k9 : Int) :: .pointer (some ⟨gc, 0, none⟩) :: .slice Az l1.length cz :: .string (strOfNums l0) :: .int .i64 (k13 : Int) :: .bool true :: .bool false :: .slice A0 l0.length c0 :: .int .i64 (l0.length : Int) :: .bool false :: .bool false :: .slice A1 l1.length c1 :: .int .i64 (l1.length : Int) :: .bool false :: .bool false :: .pointer (some ⟨g, 0, none⟩) :: .pointer (some ⟨g, 0, none⟩) :: .bool false :: vx1 :: .slice A0 l0.length c0 :: .slice Ax l0.length cx :: .pointer (some ⟨g, 0, none⟩) :: .slice Ax l0.length cx :: .tuple #[] :: .int .i64 (k7 : Int) :: .slice Ax l0.length cx :: .int .i64 (l0.length : Int) :: .bool false :: u37 :: u38 :: u39 :: u40 :: u41 :: u42 :: u43 :: u44 :: .pointer (some ⟨g, 0, none⟩) :: .slice Ay l0.length cy :: .int .i64 (k9 : Int) :: .slice Ay l0.length cy :: .int .i64 (l0.length : Int) :: .bool false :: u51 :: u52 :: u53 :: u54 :: u55 :: u56 :: u57 :: u58 :: .pointer (some ⟨g, 0, none⟩) :: .pointer (some ⟨gc, 0, none⟩) :: .pointer (some ⟨gc, 0, none⟩) :: .slice A1 l1.length c1 :: .tuple #[] :: vz1 :: .slice A1 l1.length c1 :: .slice Az l1.length cz :: .pointer (some ⟨g, 0, none⟩) :: .slice Af l0.length cf :: .string (strOfNums l0) :: .pointer (some ⟨g, 0, none⟩) :: .slice Az l1.length cz :: .tuple #[] :: .int .i64 (k13 : Int) :: .slice Az l1.length cz :: .int .i64 (l1.length : Int) :: .bool false :: u77 :: u78 :: u79 :: u80 :: u81 :: u82 :: u83 :: u84 :: y 85 :: y 86 :: y 87 :: y 88 :: y 89 :: y 90 :: y 91 :: y 92 :: y 93 :: y 94 :: y 95 :: y 96 :: y 97 :: y 98 :: y 99 :: y 100 :: y 101 :: y 102 :: y 103 :: y 104 :: y 105 :: y 106 :: y 107 :: []), defers := [] } ∧ Tab LL y [(0, 85, .string (strOfNums l0)), (1, 86, .slice A0 l0.length c0), (2, 87, .string (strOfNums l0)), (3, 88, .bool true), (4, 89, .bool true), (5, 90, .pointer (some ⟨g, 0, none⟩)), (6, 91, .slice A91 l1.length c91), (7, 92, .string (strOfNums l1)), (8, 93, .slice A1 l1.length c1), (9, 94, .string (strOfNums l1)), (10, 95, .bool true), (11, 96, .bool true), (12, 97, .bool true), (13, 98, .pointer (some ⟨gc, 0, none⟩)), (14, 99, .slice A99 bs.length c99), (15, 100, .string (strOfNums l0 ++ strOfNums l1)), (16, 101, .slice A0 l0.length c0), (17, 102, .string (strOfNums l0)), (18, 103, .slice A1 l1.length c1), (19, 104, .string (strOfNums l1)), (20, 105, .string (strOfNums l0 ++ strOfNums l1)), (21, 106, .bool true), (22, 107, .bool true), (23, 4, .bool true)] ∧ Aside0 (Below w12.heap.size w12 wx) ∧ Aside0 (LL 6 = true → Kd.C (Kd.int .u8) wx A91 l1.length l1) ∧ Aside0 (LL 14 = true → Kd.C (Kd.int .u8) wx A99 bs.length bs))) ?_ ?_ ?_
              · exact ⟨none, 0, none, 0, put1 (fun _ => undef) 4 (.bool false), ⟨rfl, Tab.start 24 rfl rfl, ⟨below_drew (Below.refl _ _)⟩, ⟨fun h => absurd h (by decide)⟩, ⟨fun h => absurd h (by decide)⟩⟩⟩
              · refine Steps.cons ?_ (Steps.cons ?_ (Steps.cons ?_ (Steps.cons ?_ (Steps.cons ?_ (Steps.cons ?_ (Steps.cons ?_ (Steps.cons ?_ (Steps.cons ?_ (Steps.cons ?_ (Steps.cons ?_ (Steps.cons ?_ (Steps.cons ?_ (Steps.cons ?_ (Steps.cons ?_ (Steps.cons ?_ (Steps.cons ?_ (Steps.cons ?_ (Steps.cons ?_ (Steps.cons ?_ (Steps.cons ?_ (Steps.cons ?_ (Steps.cons ?_ (Steps.cons ?_ (Steps.nil))))))))))))))))))))))))
                · intro LL a wx hI hLk hd K' hK
                  obtain ⟨A91, c91, A99, c99, y, hI⟩ := hI
                  obtain rfl := hI.out.1
                  rw [if_pos (by rfl)]
                  go_simp
                  exact hK.out _ _ ⟨A91, c91, A99, c99, (put1 y 85 (.string (strOfNums l0))), ⟨rfl, hI.out.2.1.upd 0 rfl rfl rfl rfl, hI.out.2.2.1, hI.out.2.2.2.1, hI.out.2.2.2.2⟩⟩
                · intro LL a wx hI hLk hd K' hK
                  obtain ⟨A91, c91, A99, c99, y, hI⟩ := hI
                  obtain rfl := hI.out.1
                  rw [if_pos (by rfl)]
                  go_simp
                  exact hK.out _ _ ⟨A91, c91, A99, c99, (put1 y 86 (.slice A0 l0.length c0)), ⟨rfl, hI.out.2.1.upd 1 rfl rfl rfl rfl, hI.out.2.2.1, hI.out.2.2.2.1, hI.out.2.2.2.2⟩⟩
                · intro LL a wx hI hLk hd K' hK
                  obtain ⟨A91, c91, A99, c99, y, hI⟩ := hI
                  obtain rfl := hI.out.1
                  have e1 := hI.out.2.1.at 1 rfl (hd 1 rfl)
                  have hb := hI.out.2.2.1
                  have hcv := Kd.C_string (P := Try.prog) (A := A0) (c := c0) Try.underlying22 Try.underlying5 Try.underlying9 (Kd.C_below HC0.out (below_step HW12.out hb.out))
                  rw [if_pos (by rfl)]
                  go_simp
                  exact hK.out _ _ ⟨A91, c91, A99, c99, (put1 (put1 y 86 (.slice A0 l0.length c0)) 87 (.string (strOfNums l0))), ⟨rfl, (hI.out.2.1.same (s := 86) (v := .slice A0 l0.length c0) e1).upd 2 rfl rfl rfl rfl, hI.out.2.2.1, hI.out.2.2.2.1, hI.out.2.2.2.2⟩⟩
                · intro LL a wx hI hLk hd K' hK
                  obtain ⟨A91, c91, A99, c99, y, hI⟩ := hI
                  obtain rfl := hI.out.1
                  have e0 := hI.out.2.1.at 0 rfl (hd 0 rfl)
                  have e2 := hI.out.2.1.at 2 rfl (hd 2 rfl)
                  rw [if_pos (by rfl)]
                  go_simp
                  exact hK.out _ _ ⟨A91, c91, A99, c99, (put1 (put1 (put1 y 85 (.string (strOfNums l0))) 87 (.string (strOfNums l0))) 88 (.bool true)), ⟨rfl, ((hI.out.2.1.same (s := 85) (v := .string (strOfNums l0)) e0).same (s := 87) (v := .string (strOfNums l0)) e2).upd 3 rfl rfl rfl rfl, hI.out.2.2.1, hI.out.2.2.2.1, hI.out.2.2.2.2⟩⟩
                · intro LL a wx hI hLk hd K' hK
                  obtain ⟨A91, c91, A99, c99, y, hI⟩ := hI
                  obtain rfl := hI.out.1
                  have e3 := hI.out.2.1.at 3 rfl (hd 3 rfl)
                  rw [if_pos (by rfl)]
                  go_simp
                  exact hK.out _ _ ⟨A91, c91, A99, c99, (put1 (put1 y 88 (.bool true)) 89 (.bool true)), ⟨rfl, (hI.out.2.1.same (s := 88) (v := .bool true) e3).upd 4 rfl rfl rfl rfl, hI.out.2.2.1, hI.out.2.2.2.1, hI.out.2.2.2.2⟩⟩
                · intro LL a wx hI hLk hd K' hK
                  obtain ⟨A91, c91, A99, c99, y, hI⟩ := hI
                  obtain rfl := hI.out.1
                  have eg := hI.out.2.1.at 4 rfl (hd 4 rfl)
                  rw [eg]
                  rw [if_pos (by rfl)]
                  go_simp
                  exact hK.out _ _ ⟨A91, c91, A99, c99, (put1 (put1 y 89 (.bool true)) 90 (.pointer (some ⟨g, 0, none⟩))), ⟨rfl, (hI.out.2.1.same (s := 89) (v := .bool true) eg).upd 5 rfl rfl rfl rfl, hI.out.2.2.1, hI.out.2.2.2.1, hI.out.2.2.2.2⟩⟩
                · intro LL a wx hI hLk hd K' hK
                  obtain ⟨A91, c91, A99, c99, y, hI⟩ := hI
                  obtain rfl := hI.out.1
                  have e5 := hI.out.2.1.at 5 rfl (hd 5 rfl)
                  have hb := hI.out.2.2.1
                  have hc := hI.out.2.2.2.2
                  have eg := hI.out.2.1.at 4 rfl (hd 4 rfl)
                  rw [eg]
                  rw [if_pos (by rfl)]
                  go_simp
                  go_at_call 17
                  refine (bytes_calls w.heap.size _ _ _ _ wx (HM.out.below hb.out) HB1.out).mono ?_
                  rintro e w13 ⟨A', c', rfl, hr, hb1⟩
                  exact hK.out _ _ ⟨A', c', A99, c99, (put1 (put1 (put1 y 90 (.pointer (some ⟨g, 0, none⟩))) 89 (.bool true)) 91 (.slice A' l1.length c')), ⟨rfl, ((hI.out.2.1.same (s := 90) (v := .pointer (some ⟨g, 0, none⟩)) e5).same (s := 89) (v := .bool true) eg).upd 6 rfl rfl rfl rfl, ⟨below_step hb.out hb1⟩, ⟨fun _ => (Kd.R_reads' hr).2.2⟩, ⟨fun h => Kd.C_below (hc.out h) hb1⟩⟩⟩
                · intro LL a wx hI hLk hd K' hK
                  obtain ⟨A91, c91, A99, c99, y, hI⟩ := hI
                  obtain rfl := hI.out.1
                  have e6 := hI.out.2.1.at 6 rfl (hd 6 rfl)
                  have ha := hI.out.2.2.2.1
                  have hcv := Kd.C_string (P := Try.prog) (A := A91) (c := c91) Try.underlying22 Try.underlying5 Try.underlying9 (ha.out (hd 6 rfl))
                  have eg := hI.out.2.1.at 4 rfl (hd 4 rfl)
                  rw [eg]
                  rw [if_pos (by rfl)]
                  go_simp
                  exact hK.out _ _ ⟨A91, c91, A99, c99, (put1 (put1 (put1 y 91 (.slice A91 l1.length c91)) 89 (.bool true)) 92 (.string (strOfNums l1))), ⟨rfl, ((hI.out.2.1.same (s := 91) (v := .slice A91 l1.length c91) e6).same (s := 89) (v := .bool true) eg).upd 7 rfl rfl rfl rfl, hI.out.2.2.1, hI.out.2.2.2.1, hI.out.2.2.2.2⟩⟩
                · intro LL a wx hI hLk hd K' hK
                  obtain ⟨A91, c91, A99, c99, y, hI⟩ := hI
                  obtain rfl := hI.out.1
                  have eg := hI.out.2.1.at 4 rfl (hd 4 rfl)
                  rw [eg]
                  rw [if_pos (by rfl)]
                  go_simp
                  exact hK.out _ _ ⟨A91, c91, A99, c99, (put1 (put1 y 89 (.bool true)) 93 (.slice A1 l1.length c1)), ⟨rfl, (hI.out.2.1.same (s := 89) (v := .bool true) eg).upd 8 rfl rfl rfl rfl, hI.out.2.2.1, hI.out.2.2.2.1, hI.out.2.2.2.2⟩⟩
                · intro LL a wx hI hLk hd K' hK
                  obtain ⟨A91, c91, A99, c99, y, hI⟩ := hI
                  obtain rfl := hI.out.1
                  have e8 := hI.out.2.1.at 8 rfl (hd 8 rfl)
                  have hb := hI.out.2.2.1
                  have hcv := Kd.C_string (P := Try.prog) (A := A1) (c := c1) Try.underlying22 Try.underlying5 Try.underlying9 (Kd.C_below HC1.out (below_step HW12.out hb.out))
                  have eg := hI.out.2.1.at 4 rfl (hd 4 rfl)
                  rw [eg]
                  rw [if_pos (by rfl)]
                  go_simp
                  exact hK.out _ _ ⟨A91, c91, A99, c99, (put1 (put1 (put1 y 93 (.slice A1 l1.length c1)) 89 (.bool true)) 94 (.string (strOfNums l1))), ⟨rfl, ((hI.out.2.1.same (s := 93) (v := .slice A1 l1.length c1) e8).same (s := 89) (v := .bool true) eg).upd 9 rfl rfl rfl rfl, hI.out.2.2.1, hI.out.2.2.2.1, hI.out.2.2.2.2⟩⟩
                · intro LL a wx hI hLk hd K' hK
                  obtain ⟨A91, c91, A99, c99, y, hI⟩ := hI
                  obtain rfl := hI.out.1
                  have e7 := hI.out.2.1.at 7 rfl (hd 7 rfl)
                  have e9 := hI.out.2.1.at 9 rfl (hd 9 rfl)
                  have eg := hI.out.2.1.at 4 rfl (hd 4 rfl)
                  rw [eg]
                  rw [if_pos (by rfl)]
                  go_simp
                  exact hK.out _ _ ⟨A91, c91, A99, c99, (put1 (put1 (put1 (put1 y 92 (.string (strOfNums l1))) 94 (.string (strOfNums l1))) 89 (.bool true)) 95 (.bool true)), ⟨rfl, (((hI.out.2.1.same (s := 92) (v := .string (strOfNums l1)) e7).same (s := 94) (v := .string (strOfNums l1)) e9).same (s := 89) (v := .bool true) eg).upd 10 rfl rfl rfl rfl, hI.out.2.2.1, hI.out.2.2.2.1, hI.out.2.2.2.2⟩⟩
                · intro LL a wx hI hLk hd K' hK
                  obtain ⟨A91, c91, A99, c99, y, hI⟩ := hI
                  obtain rfl := hI.out.1
                  have e4 := hI.out.2.1.at 4 rfl (hd 4 rfl)
                  have e10 := hI.out.2.1.at 10 rfl (hd 10 rfl)
                  rw [if_pos (by rfl)]
                  go_simp
                  exact hK.out _ _ ⟨A91, c91, A99, c99, (put1 (put1 (put1 y 89 (.bool true)) 95 (.bool true)) 96 (.bool true)), ⟨rfl, ((hI.out.2.1.same (s := 89) (v := .bool true) e4).same (s := 95) (v := .bool true) e10).upd 11 rfl rfl rfl rfl, hI.out.2.2.1, hI.out.2.2.2.1, hI.out.2.2.2.2⟩⟩
                · intro LL a wx hI hLk hd K' hK
                  obtain ⟨A91, c91, A99, c99, y, hI⟩ := hI
                  obtain rfl := hI.out.1
                  have e11 := hI.out.2.1.at 11 rfl (hd 11 rfl)
                  rw [if_pos (by rfl)]
                  go_simp
                  exact hK.out _ _ ⟨A91, c91, A99, c99, (put1 (put1 y 96 (.bool true)) 97 (.bool true)), ⟨rfl, (hI.out.2.1.same (s := 96) (v := .bool true) e11).upd 12 rfl rfl rfl rfl, hI.out.2.2.1, hI.out.2.2.2.1, hI.out.2.2.2.2⟩⟩
                · intro LL a wx hI hLk hd K' hK
                  obtain ⟨A91, c91, A99, c99, y, hI⟩ := hI
                  obtain rfl := hI.out.1
                  have eg := hI.out.2.1.at 12 rfl (hd 12 rfl)
                  rw [eg]
                  rw [if_pos (by rfl)]
                  go_simp
                  exact hK.out _ _ ⟨A91, c91, A99, c99, (put1 (put1 y 97 (.bool true)) 98 (.pointer (some ⟨gc, 0, none⟩))), ⟨rfl, (hI.out.2.1.same (s := 97) (v := .bool true) eg).upd 13 rfl rfl rfl rfl, hI.out.2.2.1, hI.out.2.2.2.1, hI.out.2.2.2.2⟩⟩
                · intro LL a wx hI hLk hd K' hK
                  obtain ⟨A91, c91, A99, c99, y, hI⟩ := hI
                  obtain rfl := hI.out.1
                  have e13 := hI.out.2.1.at 13 rfl (hd 13 rfl)
                  have hb := hI.out.2.2.1
                  have ha := hI.out.2.2.2.1
                  have eg := hI.out.2.1.at 12 rfl (hd 12 rfl)
                  rw [eg]
                  rw [if_pos (by rfl)]
                  go_simp
                  go_at_call 17
                  refine (bytes_calls w.heap.size _ _ _ _ wx (HC.out.below hb.out) HB2.out).mono ?_
                  rintro e w13 ⟨A', c', rfl, hr, hb1⟩
                  exact hK.out _ _ ⟨A91, c91, A', c', (put1 (put1 (put1 y 98 (.pointer (some ⟨gc, 0, none⟩))) 97 (.bool true)) 99 (.slice A' bs.length c')), ⟨rfl, ((hI.out.2.1.same (s := 98) (v := .pointer (some ⟨gc, 0, none⟩)) e13).same (s := 97) (v := .bool true) eg).upd 14 rfl rfl rfl rfl, ⟨below_step hb.out hb1⟩, ⟨fun h => Kd.C_below (ha.out h) hb1⟩, ⟨fun _ => (Kd.R_reads' hr).2.2⟩⟩⟩
                · intro LL a wx hI hLk hd K' hK
                  obtain ⟨A91, c91, A99, c99, y, hI⟩ := hI
                  obtain rfl := hI.out.1
                  have e14 := hI.out.2.1.at 14 rfl (hd 14 rfl)
                  have hc := hI.out.2.2.2.2
                  have hcv := (Kd.C_string (P := Try.prog) (A := A99) (c := c99) Try.underlying22 Try.underlying5 Try.underlying9 (hc.out (hd 14 rfl))).trans (by rw [HSB.out])
                  have eg := hI.out.2.1.at 12 rfl (hd 12 rfl)
                  rw [eg]
                  rw [if_pos (by rfl)]
                  go_simp
                  exact hK.out _ _ ⟨A91, c91, A99, c99, (put1 (put1 (put1 y 99 (.slice A99 bs.length c99)) 97 (.bool true)) 100 (.string (strOfNums l0 ++ strOfNums l1))), ⟨rfl, ((hI.out.2.1.same (s := 99) (v := .slice A99 bs.length c99) e14).same (s := 97) (v := .bool true) eg).upd 15 rfl rfl rfl rfl, hI.out.2.2.1, hI.out.2.2.2.1, hI.out.2.2.2.2⟩⟩
                · intro LL a wx hI hLk hd K' hK
                  obtain ⟨A91, c91, A99, c99, y, hI⟩ := hI
                  obtain rfl := hI.out.1
                  have eg := hI.out.2.1.at 12 rfl (hd 12 rfl)
                  rw [eg]
                  rw [if_pos (by rfl)]
                  go_simp
                  exact hK.out _ _ ⟨A91, c91, A99, c99, (put1 (put1 y 97 (.bool true)) 101 (.slice A0 l0.length c0)), ⟨rfl, (hI.out.2.1.same (s := 97) (v := .bool true) eg).upd 16 rfl rfl rfl rfl, hI.out.2.2.1, hI.out.2.2.2.1, hI.out.2.2.2.2⟩⟩
                · intro LL a wx hI hLk hd K' hK
                  obtain ⟨A91, c91, A99, c99, y, hI⟩ := hI
                  obtain rfl := hI.out.1
                  have e16 := hI.out.2.1.at 16 rfl (hd 16 rfl)
                  have hb := hI.out.2.2.1
                  have hcv := Kd.C_string (P := Try.prog) (A := A0) (c := c0) Try.underlying22 Try.underlying5 Try.underlying9 (Kd.C_below HC0.out (below_step HW12.out hb.out))
                  have eg := hI.out.2.1.at 12 rfl (hd 12 rfl)
                  rw [eg]
                  rw [if_pos (by rfl)]
                  go_simp
                  exact hK.out _ _ ⟨A91, c91, A99, c99, (put1 (put1 (put1 y 101 (.slice A0 l0.length c0)) 97 (.bool true)) 102 (.string (strOfNums l0))), ⟨rfl, ((hI.out.2.1.same (s := 101) (v := .slice A0 l0.length c0) e16).same (s := 97) (v := .bool true) eg).upd 17 rfl rfl rfl rfl, hI.out.2.2.1, hI.out.2.2.2.1, hI.out.2.2.2.2⟩⟩
                · intro LL a wx hI hLk hd K' hK
                  obtain ⟨A91, c91, A99, c99, y, hI⟩ := hI
                  obtain rfl := hI.out.1
                  have eg := hI.out.2.1.at 12 rfl (hd 12 rfl)
                  rw [eg]
                  rw [if_pos (by rfl)]
                  go_simp
                  exact hK.out _ _ ⟨A91, c91, A99, c99, (put1 (put1 y 97 (.bool true)) 103 (.slice A1 l1.length c1)), ⟨rfl, (hI.out.2.1.same (s := 97) (v := .bool true) eg).upd 18 rfl rfl rfl rfl, hI.out.2.2.1, hI.out.2.2.2.1, hI.out.2.2.2.2⟩⟩
                · intro LL a wx hI hLk hd K' hK
                  obtain ⟨A91, c91, A99, c99, y, hI⟩ := hI
                  obtain rfl := hI.out.1
                  have e18 := hI.out.2.1.at 18 rfl (hd 18 rfl)
                  have hb := hI.out.2.2.1
                  have hcv := Kd.C_string (P := Try.prog) (A := A1) (c := c1) Try.underlying22 Try.underlying5 Try.underlying9 (Kd.C_below HC1.out (below_step HW12.out hb.out))
                  have eg := hI.out.2.1.at 12 rfl (hd 12 rfl)
                  rw [eg]
                  rw [if_pos (by rfl)]
                  go_simp
                  exact hK.out _ _ ⟨A91, c91, A99, c99, (put1 (put1 (put1 y 103 (.slice A1 l1.length c1)) 97 (.bool true)) 104 (.string (strOfNums l1))), ⟨rfl, ((hI.out.2.1.same (s := 103) (v := .slice A1 l1.length c1) e18).same (s := 97) (v := .bool true) eg).upd 19 rfl rfl rfl rfl, hI.out.2.2.1, hI.out.2.2.2.1, hI.out.2.2.2.2⟩⟩
                · intro LL a wx hI hLk hd K' hK
                  obtain ⟨A91, c91, A99, c99, y, hI⟩ := hI
                  obtain rfl := hI.out.1
                  have e17 := hI.out.2.1.at 17 rfl (hd 17 rfl)
                  have e19 := hI.out.2.1.at 19 rfl (hd 19 rfl)
                  have hsz := HSZ.out
                  have eg := hI.out.2.1.at 12 rfl (hd 12 rfl)
                  rw [eg]
                  rw [if_pos (by rfl)]
                  go_simp
                  exact hK.out _ _ ⟨A91, c91, A99, c99, (put1 (put1 (put1 (put1 y 102 (.string (strOfNums l0))) 104 (.string (strOfNums l1))) 97 (.bool true)) 105 (.string (strOfNums l0 ++ strOfNums l1))), ⟨rfl, (((hI.out.2.1.same (s := 102) (v := .string (strOfNums l0)) e17).same (s := 104) (v := .string (strOfNums l1)) e19).same (s := 97) (v := .bool true) eg).upd 20 rfl rfl rfl rfl, hI.out.2.2.1, hI.out.2.2.2.1, hI.out.2.2.2.2⟩⟩
                · intro LL a wx hI hLk hd K' hK
                  obtain ⟨A91, c91, A99, c99, y, hI⟩ := hI
                  obtain rfl := hI.out.1
                  have e15 := hI.out.2.1.at 15 rfl (hd 15 rfl)
                  have e20 := hI.out.2.1.at 20 rfl (hd 20 rfl)
                  have eg := hI.out.2.1.at 12 rfl (hd 12 rfl)
                  rw [eg]
                  rw [if_pos (by rfl)]
                  go_simp
                  exact hK.out _ _ ⟨A91, c91, A99, c99, (put1 (put1 (put1 (put1 y 100 (.string (strOfNums l0 ++ strOfNums l1))) 105 (.string (strOfNums l0 ++ strOfNums l1))) 97 (.bool true)) 106 (.bool true)), ⟨rfl, (((hI.out.2.1.same (s := 100) (v := .string (strOfNums l0 ++ strOfNums l1)) e15).same (s := 105) (v := .string (strOfNums l0 ++ strOfNums l1)) e20).same (s := 97) (v := .bool true) eg).upd 21 rfl rfl rfl rfl, hI.out.2.2.1, hI.out.2.2.2.1, hI.out.2.2.2.2⟩⟩
                · intro LL a wx hI hLk hd K' hK
                  obtain ⟨A91, c91, A99, c99, y, hI⟩ := hI
                  obtain rfl := hI.out.1
                  have e12 := hI.out.2.1.at 12 rfl (hd 12 rfl)
                  have e21 := hI.out.2.1.at 21 rfl (hd 21 rfl)
                  rw [if_pos (by rfl)]
                  go_simp
                  exact hK.out _ _ ⟨A91, c91, A99, c99, (put1 (put1 (put1 y 97 (.bool true)) 106 (.bool true)) 107 (.bool true)), ⟨rfl, ((hI.out.2.1.same (s := 97) (v := .bool true) e12).same (s := 106) (v := .bool true) e21).upd 22 rfl rfl rfl rfl, hI.out.2.2.1, hI.out.2.2.2.1, hI.out.2.2.2.2⟩⟩
                · intro LL a wx hI hLk hd K' hK
                  obtain ⟨A91, c91, A99, c99, y, hI⟩ := hI
                  obtain rfl := hI.out.1
                  have e22 := hI.out.2.1.at 22 rfl (hd 22 rfl)
                  rw [if_pos (by rfl)]
                  go_simp
                  exact hK.out _ _ ⟨A91, c91, A99, c99, (put1 (put1 y 107 (.bool true)) 4 (.bool true)), ⟨rfl, (hI.out.2.1.same (s := 107) (v := .bool true) e22).upd 23 rfl rfl rfl rfl, hI.out.2.2.1, hI.out.2.2.2.1, hI.out.2.2.2.2⟩⟩
              · intro LL a w14 hall hI
                obtain ⟨A91, c91, A99, c99, y, hI⟩ := hI
                obtain rfl := hI.out.1
                have hb := hI.out.2.2.1
                have ha := hI.out.2.2.2.1
                have hc := hI.out.2.2.2.2
                have e23 := hI.out.2.1.at 23 rfl (hall 23 (by decide))
                rw [e23]
                go_wp2
                go_ret
                exact ⟨rfl, below_step HW12.out hb.out⟩
end Go.Proofs.YtkolcgofhjbebaaW.PrintMed


/- The medium, by hand, 4: what is synced is kept. No condition. -/
import Derived.Test.YtkolcgofhjbebaaWMed2
import Derived.Test.YtkolcgofhjbebaaWReg2
namespace Go.Proofs.YtkolcgofhjbebaaW.PrintMed
open Go.RowKit Go.Proofs.YtkolcgofhjbebaaW.PrintWords Go.Proofs.YtkolcgofhjbebaaW.PrintLast Go.Proofs.YtkolcgofhjbebaaW.PrintMore Go.Proofs.YtkolcgofhjbebaaW.PrintReg
attribute [local go_sem] max2_int min2_int max_two min_two
set_option linter.unusedVariables false
set_option linter.unusedSimpArgs false
theorem str_append (a b : List Int) : strOfNums (a ++ b) = strOfNums a ++ strOfNums b := by
  apply ByteArray.ext
  simp [strOfNums]
theorem str_size (a : List Int) : (strOfNums a).size = a.length := by simp [strOfNums, ByteArray.size]
/-- What a crash keeps of a and b, a synced. -/
theorem kept_app (a b : List Int) (keep : Int) (K : Nat) (hK : (K : Int) = min (max keep 0) (b.length : Int)) : K ≤ b.length ∧ kept (a ++ b).length a.length keep = (a ++ b.take K).length ∧ (a ++ b).take (kept (a ++ b).length a.length keep) = a ++ b.take K := by
  have h1 := hK
  have h2 : kept (a ++ b).length a.length keep = a.length + K := by unfold kept; rw [List.length_append]; omega
  have h3 : K ≤ b.length := by omega
  refine ⟨h3, ?_, ?_⟩
  · rw [h2, List.length_append, List.length_take]; omega
  · rw [h2, List.take_append, List.take_of_length_le (by omega)]; simp
set_option maxHeartbeats 4000000 in
set_option maxRecDepth 100000 in
theorem keeps_calls (A0 A1 : Option Addr) (c0 c1 : Nat) (l0 l1 : List Int) (keep : Int) (w : World) (hr0 : Kd.C (Kd.int .u8) w A0 l0.length l0) (hr1 : Kd.C (Kd.int .u8) w A1 l1.length l1) (hcap : l1.length ≤ c1) : Calls Try.prog 3 #[.slice A0 l0.length c0, .slice A1 l1.length c1, .int .i64 keep] w fun e w' => e = .returned (.bool true) ∧ Below w.heap.size w w' := by
  have HC0 := Aside0.mk hr0
  have HC1 := Aside0.mk hr1
  have HX := Aside0.mk (awake_calls)
  clear hr0 hr1
  by_cases h0 : 1000 < l0.length
  · have hq0 : ((1000 : Int) < (l0.length : Int)) = True := by simp; omega
    go_enter Try.func3, Try.ntmps3
    go_wp2_with (go_at_call 11; refine (HX.out w).mono ?_; rintro e w0 ⟨rfl, hb0⟩; have HB0 := Aside0.mk hb0; clear hb0)
    go_ret
    exact ⟨rfl, HB0.out⟩
  have hq0 : ((1000 : Int) < (l0.length : Int)) = False := by simp; omega
  by_cases h1 : 1000 < l1.length
  · have hq1 : ((1000 : Int) < (l1.length : Int)) = True := by simp; omega
    go_enter Try.func3, Try.ntmps3
    go_wp2_with (go_at_call 11; refine (HX.out w).mono ?_; rintro e w0 ⟨rfl, hb0⟩; have HB0 := Aside0.mk hb0; clear hb0)
    go_ret
    exact ⟨rfl, HB0.out⟩
  have hq1 : ((1000 : Int) < (l1.length : Int)) = False := by simp; omega
  have HL := Aside0.mk (And.intro (Nat.le_of_not_lt h0) (Nat.le_of_not_lt h1))
  clear h0 h1
  obtain ⟨M, hM⟩ : ∃ M : Int, (if keep < 0 then (0 : Int) else keep) = M := ⟨_, rfl⟩
  obtain ⟨K, hK⟩ : ∃ K : Nat, (if (l1.length : Int) < M then (l1.length : Int) else M) = (K : Int) := ⟨(min M (l1.length : Int)).toNat, by rw [← hM]; split <;> split <;> omega⟩
  have hKe : Aside0 ((K : Int) = min (max keep 0) (l1.length : Int)) := ⟨by rw [← hK, ← hM]; split <;> split <;> omega⟩
  obtain ⟨n, hn⟩ : ∃ n : Nat, n = l1.length := ⟨_, rfl⟩
  go_enter Try.func3, Try.ntmps3
  go_wp2_with fail
  go_at_call 11; refine (HX.out w).mono ?_; rintro e w0 ⟨rfl, hb0⟩; have HB0 := Aside0.mk hb0; clear hb0
  go_wp2_with fail
  go_at_call 12; refine (new1 (w := w) HB0.out).mono ?_; rintro e w1 ⟨g, rfl, hm⟩; have HM := Aside0.mk hm; have hnl := fun wx => run_eql_ptr_nil (P := Try.prog) wx 24 60 ⟨g, 0, none⟩ Try.underlying24; clear hm
  go_wp2_with fail
  go_at_call 13; refine (append1 w _ _ _ l0.length _ _ l0 _ HM.out (Kd.C_below HC0.out HM.out.2) (by have := HL.out; simp; omega)).mono ?_; rintro e w2 ⟨rfl, hm⟩; rw [List.nil_append] at hm; have HM := Aside0.mk hm; clear hm
  go_wp2_with fail
  go_at_call 14; refine (sync1 w _ _ _ _ HM.out).mono ?_; rintro e w3 ⟨rfl, hm⟩; have HM := Aside0.mk hm; clear hm
  go_wp2_with fail
  go_at_call 13; refine (append1 w _ _ _ l1.length _ _ l1 _ HM.out (Kd.C_below HC1.out HM.out.2) (by have := HL.out; omega)).mono ?_; rintro e w4 ⟨rfl, hm⟩; have HM := Aside0.mk hm; clear hm
  go_wp2_with fail
  go_at_call 15; refine (loose1 w _ _ _ _ HM.out (by have := HL.out; simp; omega)).mono ?_; rintro e w5 ⟨rfl, hb, hm⟩; have HM := Aside0.mk hm; clear hm hb
  rw [show (l0 ++ l1).length - l0.length = l1.length by simp]
  go_wp2_with fail
  go_at_call 16; refine (crash1 w _ _ keep _ _ HM.out (by have := HL.out; simp; omega)).mono ?_; rintro e w6 ⟨rfl, hm⟩
  obtain ⟨k1, k2, k3⟩ := kept_app l0 l1 keep K hKe.out
  rw [k3, k2] at hm
  obtain ⟨bs, hbs⟩ : ∃ bs, bs = l0 ++ l1.take K := ⟨_, rfl⟩
  rw [← hbs] at hm
  have HM := Aside0.mk hm; clear hm k2 k3
  go_wp2_with fail
  obtain ⟨i0, hi0, _⟩ := Option.map_eq_some_iff.1 info5
  have HCUT := Aside0.mk (cut_to (P := Try.prog) 22 5 .i64 Try.underlying22 hi0 A1 l1.length c1 (K : Int) (by omega) (by omega) hcap)
  have HCK := Aside0.mk (fun (W : World) (hb : Below w.heap.size w W) => (by
    have := Kd.C_below (Kd.C_take HC1.out k1) hb
    rw [show (l1.take K).length = K by rw [List.length_take]; omega] at this
    exact this : Kd.C (Kd.int .u8) W A1 K (l1.take K)))
  have HS := Aside0.mk (show strOfNums bs = strOfNums l0 ++ strOfNums (l1.take K) by rw [hbs, str_append])
  have HBL2 := Aside0.mk (show bs.length ≤ 2000 by have := HL.out; rw [hbs, List.length_append, List.length_take]; omega)
  have HBL := Aside0.mk (show bs.length ≤ 100000000 by have := HL.out; rw [hbs, List.length_append, List.length_take]; omega)
  have HSZ : Aside0 ((9223372036854775807 < (strOfNums l0).size + (strOfNums (List.take K l1)).size) = False) := ⟨eq_false (by have := HL.out; rw [str_size, str_size, List.length_take]; omega)⟩
  clear hi0 hM hK hKe k1 hq0 hq1 hbs
  refine wp_region_steps 16 rfl rfl (by kernel_rfl) (fun LL a wx => ∃ A46 : Option Addr, ∃ c46 : Nat, ∃ u : Nat → Value, Aside0 (a = { tmps := List.toArray (.slice A0 l0.length c0 :: .slice A1 l1.length c1 :: .int .i64 keep :: undef :: undef :: undef :: .bool false :: .pointer (some ⟨g, 0, none⟩) :: .int .i64 (K : Int) :: undef :: undef :: .bool true :: .bool false :: .slice A0 l0.length c0 :: .int .i64 (l0.length : Int) :: .bool false :: .bool false :: .slice A1 l1.length c1 :: .int .i64 (l1.length : Int) :: .bool false :: .bool false :: .pointer (some ⟨g, 0, none⟩) :: .pointer (some ⟨g, 0, none⟩) :: .bool false :: .pointer (some ⟨g, 0, none⟩) :: .slice A0 l0.length c0 :: .tuple #[] :: .pointer (some ⟨g, 0, none⟩) :: .tuple #[] :: .pointer (some ⟨g, 0, none⟩) :: .slice A1 l1.length c1 :: .tuple #[] :: .pointer (some ⟨g, 0, none⟩) :: .int .i64 (l1.length : Int) :: .slice A1 l1.length c1 :: .int .i64 (l1.length : Int) :: .bool false :: .pointer (some ⟨g, 0, none⟩) :: .int .i64 keep :: .tuple #[] :: .int .i64 keep :: .int .i64 M :: .slice A1 l1.length c1 :: .int .i64 (l1.length : Int) :: .int .i64 (K : Int) :: u 45 :: u 46 :: u 47 :: u 48 :: u 49 :: u 50 :: u 51 :: u 52 :: u 53 :: u 54 :: u 55 :: u 56 :: u 57 :: u 58 :: u 59 :: u 60 :: undef :: undef :: undef :: undef :: undef :: undef :: undef :: undef :: undef :: undef :: undef :: undef :: undef :: undef :: undef :: undef :: undef :: undef :: undef :: undef :: undef :: undef :: undef :: undef :: undef :: undef :: undef :: undef :: []), defers := [] } ∧ Tab LL u [(0, 45, .pointer (some ⟨g, 0, none⟩)), (1, 46, .slice A46 bs.length c46), (2, 47, .string (strOfNums l0 ++ strOfNums (l1.take K))), (3, 48, .slice A0 l0.length c0), (4, 49, .string (strOfNums l0)), (5, 50, .slice A1 l1.length c1), (6, 51, .int .i64 (K : Int)), (7, 52, .slice A1 K c1), (8, 53, .string (strOfNums (l1.take K))), (9, 54, .string (strOfNums l0 ++ strOfNums (l1.take K))), (10, 55, .bool false), (11, 56, .bool false), (12, 57, .pointer (some ⟨g, 0, none⟩)), (13, 58, .int .i64 0), (14, 59, .bool false), (15, 60, .bool false)] ∧ Aside0 (Med1 w wx g bs bs.length) ∧ Aside0 (LL 1 = true → Kd.C (Kd.int .u8) wx A46 bs.length bs))) ?_ ?_ ?_
  · exact ⟨none, 0, fun _ => undef, ⟨rfl, Tab.start 16 rfl rfl, ⟨HM.out.below (below_drew (Below.refl _ _))⟩, ⟨fun h => absurd h (by decide)⟩⟩⟩
  · refine Steps.cons ?_ (Steps.cons ?_ (Steps.cons ?_ (Steps.cons ?_ (Steps.cons ?_ (Steps.cons ?_ (Steps.cons ?_ (Steps.cons ?_ (Steps.cons ?_ (Steps.cons ?_ (Steps.cons ?_ (Steps.cons ?_ (Steps.cons ?_ (Steps.cons ?_ (Steps.cons ?_ (Steps.cons ?_ (Steps.nil))))))))))))))))
    · intro LL a wx hI hLk hd K' hK
      obtain ⟨A46, c46, u, hI⟩ := hI
      obtain rfl := hI.out.1
      rw [if_pos (by rfl)]
      go_simp
      exact hK.out _ _ ⟨A46, c46, (put1 u 45 (.pointer (some ⟨g, 0, none⟩))), ⟨rfl, hI.out.2.1.upd 0 rfl rfl rfl rfl, hI.out.2.2.1, hI.out.2.2.2⟩⟩
    · intro LL a wx hI hLk hd K' hK
      obtain ⟨A46, c46, u, hI⟩ := hI
      obtain rfl := hI.out.1
      have e0 := hI.out.2.1.at 0 rfl (hd 0 rfl)
      have hm := hI.out.2.2.1
      rw [if_pos (by rfl)]
      go_simp
      go_at_call 17
      refine (bytes1 w _ _ _ _ hm.out HBL.out).mono ?_
      rintro e w2 ⟨A', c', rfl, hr, hb1, hm1⟩
      exact hK.out _ _ ⟨A', c', (put1 (put1 u 45 (.pointer (some ⟨g, 0, none⟩))) 46 (.slice A' bs.length c')), ⟨rfl, (hI.out.2.1.same (s := 45) (v := .pointer (some ⟨g, 0, none⟩)) e0).upd 1 rfl rfl rfl rfl, ⟨hm1⟩, ⟨fun _ => (Kd.R_reads' hr).2.2⟩⟩⟩
    · intro LL a wx hI hLk hd K' hK
      obtain ⟨A46, c46, u, hI⟩ := hI
      obtain rfl := hI.out.1
      have e1 := hI.out.2.1.at 1 rfl (hd 1 rfl)
      have hc := hI.out.2.2.2
      have hcv := (Kd.C_string (P := Try.prog) (A := A46) (c := c46) Try.underlying22 Try.underlying5 Try.underlying9 (hc.out (hd 1 rfl))).trans (by rw [HS.out])
      rw [if_pos (by rfl)]
      go_simp
      exact hK.out _ _ ⟨A46, c46, (put1 (put1 u 46 (.slice A46 bs.length c46)) 47 (.string (strOfNums l0 ++ strOfNums (l1.take K)))), ⟨rfl, (hI.out.2.1.same (s := 46) (v := .slice A46 bs.length c46) e1).upd 2 rfl rfl rfl rfl, hI.out.2.2.1, hI.out.2.2.2⟩⟩
    · intro LL a wx hI hLk hd K' hK
      obtain ⟨A46, c46, u, hI⟩ := hI
      obtain rfl := hI.out.1
      rw [if_pos (by rfl)]
      go_simp
      exact hK.out _ _ ⟨A46, c46, (put1 u 48 (.slice A0 l0.length c0)), ⟨rfl, hI.out.2.1.upd 3 rfl rfl rfl rfl, hI.out.2.2.1, hI.out.2.2.2⟩⟩
    · intro LL a wx hI hLk hd K' hK
      obtain ⟨A46, c46, u, hI⟩ := hI
      obtain rfl := hI.out.1
      have e3 := hI.out.2.1.at 3 rfl (hd 3 rfl)
      have hm := hI.out.2.2.1
      have hcv := Kd.C_string (P := Try.prog) (A := A0) (c := c0) Try.underlying22 Try.underlying5 Try.underlying9 (Kd.C_below HC0.out hm.out.2)
      rw [if_pos (by rfl)]
      go_simp
      exact hK.out _ _ ⟨A46, c46, (put1 (put1 u 48 (.slice A0 l0.length c0)) 49 (.string (strOfNums l0))), ⟨rfl, (hI.out.2.1.same (s := 48) (v := .slice A0 l0.length c0) e3).upd 4 rfl rfl rfl rfl, hI.out.2.2.1, hI.out.2.2.2⟩⟩
    · intro LL a wx hI hLk hd K' hK
      obtain ⟨A46, c46, u, hI⟩ := hI
      obtain rfl := hI.out.1
      rw [if_pos (by rfl)]
      go_simp
      exact hK.out _ _ ⟨A46, c46, (put1 u 50 (.slice A1 l1.length c1)), ⟨rfl, hI.out.2.1.upd 5 rfl rfl rfl rfl, hI.out.2.2.1, hI.out.2.2.2⟩⟩
    · intro LL a wx hI hLk hd K' hK
      obtain ⟨A46, c46, u, hI⟩ := hI
      obtain rfl := hI.out.1
      rw [if_pos (by rfl)]
      go_simp
      exact hK.out _ _ ⟨A46, c46, (put1 u 51 (.int .i64 (K : Int))), ⟨rfl, hI.out.2.1.upd 6 rfl rfl rfl rfl, hI.out.2.2.1, hI.out.2.2.2⟩⟩
    · intro LL a wx hI hLk hd K' hK
      obtain ⟨A46, c46, u, hI⟩ := hI
      obtain rfl := hI.out.1
      have e5 := hI.out.2.1.at 5 rfl (hd 5 rfl)
      have e6 := hI.out.2.1.at 6 rfl (hd 6 rfl)
      have hcut := HCUT.out
      rw [if_pos (by rfl)]
      go_simp
      exact hK.out _ _ ⟨A46, c46, (put1 (put1 (put1 u 50 (.slice A1 l1.length c1)) 51 (.int .i64 (K : Int))) 52 (.slice A1 K c1)), ⟨rfl, ((hI.out.2.1.same (s := 50) (v := .slice A1 l1.length c1) e5).same (s := 51) (v := .int .i64 (K : Int)) e6).upd 7 rfl rfl rfl rfl, hI.out.2.2.1, hI.out.2.2.2⟩⟩
    · intro LL a wx hI hLk hd K' hK
      obtain ⟨A46, c46, u, hI⟩ := hI
      obtain rfl := hI.out.1
      have e7 := hI.out.2.1.at 7 rfl (hd 7 rfl)
      have hm := hI.out.2.2.1
      have hcv := Kd.C_string (P := Try.prog) (A := A1) (c := c1) Try.underlying22 Try.underlying5 Try.underlying9 (HCK.out _ hm.out.2)
      rw [if_pos (by rfl)]
      go_simp
      exact hK.out _ _ ⟨A46, c46, (put1 (put1 u 52 (.slice A1 K c1)) 53 (.string (strOfNums (l1.take K)))), ⟨rfl, (hI.out.2.1.same (s := 52) (v := .slice A1 K c1) e7).upd 8 rfl rfl rfl rfl, hI.out.2.2.1, hI.out.2.2.2⟩⟩
    · intro LL a wx hI hLk hd K' hK
      obtain ⟨A46, c46, u, hI⟩ := hI
      obtain rfl := hI.out.1
      have e4 := hI.out.2.1.at 4 rfl (hd 4 rfl)
      have e8 := hI.out.2.1.at 8 rfl (hd 8 rfl)
      have hsz := HSZ.out
      rw [if_pos (by rfl)]
      go_simp
      exact hK.out _ _ ⟨A46, c46, (put1 (put1 (put1 u 49 (.string (strOfNums l0))) 53 (.string (strOfNums (l1.take K)))) 54 (.string (strOfNums l0 ++ strOfNums (l1.take K)))), ⟨rfl, ((hI.out.2.1.same (s := 49) (v := .string (strOfNums l0)) e4).same (s := 53) (v := .string (strOfNums (l1.take K))) e8).upd 9 rfl rfl rfl rfl, hI.out.2.2.1, hI.out.2.2.2⟩⟩
    · intro LL a wx hI hLk hd K' hK
      obtain ⟨A46, c46, u, hI⟩ := hI
      obtain rfl := hI.out.1
      have e2 := hI.out.2.1.at 2 rfl (hd 2 rfl)
      have e9 := hI.out.2.1.at 9 rfl (hd 9 rfl)
      rw [if_pos (by rfl)]
      go_simp
      exact hK.out _ _ ⟨A46, c46, (put1 (put1 (put1 u 47 (.string (strOfNums l0 ++ strOfNums (l1.take K)))) 54 (.string (strOfNums l0 ++ strOfNums (l1.take K)))) 55 (.bool false)), ⟨rfl, ((hI.out.2.1.same (s := 47) (v := .string (strOfNums l0 ++ strOfNums (l1.take K))) e2).same (s := 54) (v := .string (strOfNums l0 ++ strOfNums (l1.take K))) e9).upd 10 rfl rfl rfl rfl, hI.out.2.2.1, hI.out.2.2.2⟩⟩
    · intro LL a wx hI hLk hd K' hK
      obtain ⟨A46, c46, u, hI⟩ := hI
      obtain rfl := hI.out.1
      have e10 := hI.out.2.1.at 10 rfl (hd 10 rfl)
      rw [if_pos (by rfl)]
      go_simp
      exact hK.out _ _ ⟨A46, c46, (put1 (put1 u 55 (.bool false)) 56 (.bool false)), ⟨rfl, (hI.out.2.1.same (s := 55) (v := .bool false) e10).upd 11 rfl rfl rfl rfl, hI.out.2.2.1, hI.out.2.2.2⟩⟩
    · intro LL a wx hI hLk hd K' hK
      obtain ⟨A46, c46, u, hI⟩ := hI
      obtain rfl := hI.out.1
      have eg := hI.out.2.1.at 11 rfl (hd 11 rfl)
      rw [eg]
      rw [if_pos (by rfl)]
      go_simp
      exact hK.out _ _ ⟨A46, c46, (put1 (put1 u 56 (.bool false)) 57 (.pointer (some ⟨g, 0, none⟩))), ⟨rfl, (hI.out.2.1.same (s := 56) (v := .bool false) eg).upd 12 rfl rfl rfl rfl, hI.out.2.2.1, hI.out.2.2.2⟩⟩
    · intro LL a wx hI hLk hd K' hK
      obtain ⟨A46, c46, u, hI⟩ := hI
      obtain rfl := hI.out.1
      have e12 := hI.out.2.1.at 12 rfl (hd 12 rfl)
      have hm := hI.out.2.2.1
      have hc := hI.out.2.2.2
      have eg := hI.out.2.1.at 11 rfl (hd 11 rfl)
      rw [eg]
      rw [if_pos (by rfl)]
      go_simp
      go_at_call 15
      refine (loose1 w _ _ _ _ hm.out HBL.out).mono ?_
      rintro e w2 ⟨rfl, hb1, hm1⟩
      rw [show ((bs.length - bs.length : Nat) : Int) = 0 by simp]
      exact hK.out _ _ ⟨A46, c46, (put1 (put1 (put1 u 57 (.pointer (some ⟨g, 0, none⟩))) 56 (.bool false)) 58 (.int .i64 0)), ⟨rfl, ((hI.out.2.1.same (s := 57) (v := .pointer (some ⟨g, 0, none⟩)) e12).same (s := 56) (v := .bool false) eg).upd 13 rfl rfl rfl rfl, ⟨hm1⟩, ⟨fun h => Kd.C_below (hc.out h) hb1⟩⟩⟩
    · intro LL a wx hI hLk hd K' hK
      obtain ⟨A46, c46, u, hI⟩ := hI
      obtain rfl := hI.out.1
      have e13 := hI.out.2.1.at 13 rfl (hd 13 rfl)
      have eg := hI.out.2.1.at 11 rfl (hd 11 rfl)
      rw [eg]
      rw [if_pos (by rfl)]
      go_simp
      exact hK.out _ _ ⟨A46, c46, (put1 (put1 (put1 u 58 (.int .i64 0)) 56 (.bool false)) 59 (.bool false)), ⟨rfl, ((hI.out.2.1.same (s := 58) (v := .int .i64 0) e13).same (s := 56) (v := .bool false) eg).upd 14 rfl rfl rfl rfl, hI.out.2.2.1, hI.out.2.2.2⟩⟩
    · intro LL a wx hI hLk hd K' hK
      obtain ⟨A46, c46, u, hI⟩ := hI
      obtain rfl := hI.out.1
      have e11 := hI.out.2.1.at 11 rfl (hd 11 rfl)
      have e14 := hI.out.2.1.at 14 rfl (hd 14 rfl)
      rw [if_pos (by rfl)]
      go_simp
      exact hK.out _ _ ⟨A46, c46, (put1 (put1 (put1 u 56 (.bool false)) 59 (.bool false)) 60 (.bool false)), ⟨rfl, ((hI.out.2.1.same (s := 56) (v := .bool false) e11).same (s := 59) (v := .bool false) e14).upd 15 rfl rfl rfl rfl, hI.out.2.2.1, hI.out.2.2.2⟩⟩
  · intro LL a w7 hall hI
    obtain ⟨A46, c46, u, hI⟩ := hI
    obtain rfl := hI.out.1
    have hm := hI.out.2.2.1
    have hc := hI.out.2.2.2
    have e15 := hI.out.2.1.at 15 rfl (hall 15 (by decide))
    have HM := Aside0.mk hm.out
    rw [e15]
    clear hI hm hc e15
    go_wp2_with fail
    go_at_call 13; refine (append1 w _ _ _ l0.length _ _ l0 _ HM.out (Kd.C_below HC0.out HM.out.2) (by have := HL.out; have := HBL2.out; omega)).mono ?_; rintro e w8 ⟨rfl, hm⟩; have HM := Aside0.mk hm; clear hm
    go_wp2_with fail
    go_at_call 18; refine (swap1 w _ _ _ l1.length _ _ l1 _ HM.out (Kd.C_below HC1.out HM.out.2) (by have := HL.out; omega)).mono ?_; rintro e w9 ⟨rfl, hm⟩; have HM := Aside0.mk hm; clear hm
    go_wp2_with fail
    go_at_call 16; refine (crash1 w _ _ 0 _ _ HM.out (by have := HL.out; omega)).mono ?_; rintro e w10 ⟨rfl, hm⟩
    rw [show kept l1.length l1.length 0 = l1.length by unfold kept; simp, List.take_length] at hm; have HM := Aside0.mk hm; clear hm
    go_wp2_with fail
    go_at_call 17; refine (bytes1 w _ _ _ _ HM.out (by have := HL.out; omega)).mono ?_; rintro e w11 ⟨A, c, rfl, hr, hb, hm⟩
    have HQ0 := HM
    have HR := Aside0.mk hr
    have HN := Aside0.mk hb
    have hA : 0 < l1.length → ∃ gx, A = some ⟨gx, 0, none⟩ ∧ w10.heap.size ≤ gx := fun hp => by
      obtain ⟨gx, cap, e, h1, _⟩ := Kd.R_form hr hp
      injection e with e1 e2 e3
      exact ⟨gx, e1, h1⟩
    have HA := Aside0.mk hA
    clear hm hr hb hA
    go_wp2_with fail
    go_loopw [10] (fun i wr => ∃ k : Nat, k ≤ l1.length ∧ i = .int .i64 k ∧ Aside0 (Below w10.heap.size w10 wr) ∧ Aside0 (∃ ys : List Int, ys.length = l1.length ∧ Kd.R (Kd.int .u8) 5 wr w10.heap.size (fun _ => True) (.slice A l1.length c) ys)) (fun i _ => l1.length - (intOf i).toNat)
    case atStart => exact ⟨0, Nat.zero_le _, rfl, ⟨HN.out⟩, ⟨l1, rfl, HR.out⟩⟩
    case round =>
      obtain ⟨k, hk, rfl, HB, HY⟩ := hrel
      by_cases hlt : k < l1.length
      · have hc1 : ((k : Int) < (l1.length : Int)) = True := eq_true (by omega)
        have hc2 : (0 : Int) ≤ (k : Int) := by omega
        obtain ⟨gx, rfl, hgx⟩ := HA.out (by omega)
        obtain ⟨ys, hys, hr⟩ := HY.out
        obtain ⟨d0, z0⟩ := Kd.R_celln (enc := Value.int .u8) (h1 := fun _ => rfl) 0 hr (k : Int) (by omega) (by omega)
        rw [Int.toNat_natCast] at d0 z0
        have HGX := Aside0.mk hgx
        have HLT := Aside0.mk hlt
        have HW : Aside0 (wrap64 ((k : Int) + 1) = ((k + 1 : Nat) : Int)) := ⟨by have := HL.out; unfold wrap64; omega⟩
        have HP : Aside0 (∀ V : Int, ∃ ys : List Int, ys.length = l1.length ∧ Kd.R (Kd.int .u8) 5 (wr.setCell ⟨gx, k, none⟩ (.int .u8 V)) w10.heap.size (fun _ => True) (.slice (some ⟨gx, 0, none⟩) l1.length c) ys) := ⟨fun V => by
          rw [← hys] at hr
          have := (Kd.R_put (enc := Value.int .u8) (h1 := fun _ => rfl) hr (k : Int) V).1
          rw [Int.toNat_natCast, hys] at this
          exact ⟨ys.set k V, by rw [List.length_set, hys], this⟩⟩
        clear hgx hr
        go_wp2
        go_split_ands
        go_roundw
        case rel => exact ⟨k + 1, HLT.out, by rw [HW.out], ⟨below_set HB.out HGX.out⟩, ⟨HP.out _⟩⟩
        case measure => have := HLT.out; rw [HW.out]; simp [intOf]; omega
      · have hc1 : ((k : Int) < (l1.length : Int)) = False := eq_false (by omega)
        have HM := Aside0.mk (HQ0.out.below HB.out)
        clear HY
        go_wp2_with fail
        refine wp_region_steps 7 rfl rfl (by kernel_rfl) (fun LL a wx => ∃ A84 : Option Addr, ∃ c84 : Nat, ∃ y : Nat → Value, Aside0 (a = { tmps := List.toArray (.slice A0 l0.length c0 :: .slice A1 l1.length c1 :: .int .i64 keep :: undef :: undef :: undef :: y 6 :: .pointer (some ⟨g, 0, none⟩) :: .int .i64 (K : Int) :: .slice A l1.length c :: .int .i64 (k : Int) :: .bool true :: .bool false :: .slice A0 l0.length c0 :: .int .i64 (l0.length : Int) :: .bool false :: .bool false :: .slice A1 l1.length c1 :: .int .i64 (l1.length : Int) :: .bool false :: .bool false :: .pointer (some ⟨g, 0, none⟩) :: .pointer (some ⟨g, 0, none⟩) :: .bool false :: .pointer (some ⟨g, 0, none⟩) :: .slice A0 l0.length c0 :: .tuple #[] :: .pointer (some ⟨g, 0, none⟩) :: .tuple #[] :: .pointer (some ⟨g, 0, none⟩) :: .slice A1 l1.length c1 :: .tuple #[] :: .pointer (some ⟨g, 0, none⟩) :: .int .i64 (l1.length : Int) :: .slice A1 l1.length c1 :: .int .i64 (l1.length : Int) :: .bool false :: .pointer (some ⟨g, 0, none⟩) :: .int .i64 keep :: .tuple #[] :: .int .i64 keep :: .int .i64 M :: .slice A1 l1.length c1 :: .int .i64 (l1.length : Int) :: .int .i64 (K : Int) :: u 45 :: u 46 :: u 47 :: u 48 :: u 49 :: u 50 :: u 51 :: u 52 :: u 53 :: u 54 :: u 55 :: u 56 :: u 57 :: u 58 :: u 59 :: .bool false :: .pointer (some ⟨g, 0, none⟩) :: .slice A0 l0.length c0 :: .tuple #[] :: .pointer (some ⟨g, 0, none⟩) :: .slice A1 l1.length c1 :: .tuple #[] :: .pointer (some ⟨g, 0, none⟩) :: .tuple #[] :: .pointer (some ⟨g, 0, none⟩) :: .slice A l1.length c :: .int .i64 (k : Int) :: .slice A l1.length c :: .int .i64 (l1.length : Int) :: .bool false :: u75 :: u76 :: u77 :: u78 :: u79 :: u80 :: u81 :: u82 :: y 83 :: y 84 :: y 85 :: y 86 :: y 87 :: y 88 :: []), defers := [] } ∧ Tab LL y [(0, 83, .pointer (some ⟨g, 0, none⟩)), (1, 84, .slice A84 l1.length c84), (2, 85, .string (strOfNums l1)), (3, 86, .slice A1 l1.length c1), (4, 87, .string (strOfNums l1)), (5, 88, .bool true), (6, 6, .bool true)] ∧ Aside0 (Med1 w wx g l1 l1.length) ∧ Aside0 (LL 1 = true → Kd.C (Kd.int .u8) wx A84 l1.length l1))) ?_ ?_ ?_
        · exact ⟨none, 0, put1 (fun _ => undef) 6 (.bool false), ⟨rfl, Tab.start 7 rfl rfl, ⟨HM.out.below (below_drew (Below.refl _ _))⟩, ⟨fun h => absurd h (by decide)⟩⟩⟩
        · refine Steps.cons ?_ (Steps.cons ?_ (Steps.cons ?_ (Steps.cons ?_ (Steps.cons ?_ (Steps.cons ?_ (Steps.cons ?_ (Steps.nil)))))))
          · intro LL a wx hI hLk hd K' hK
            obtain ⟨A84, c84, y, hI⟩ := hI
            obtain rfl := hI.out.1
            rw [if_pos (by rfl)]
            go_simp
            exact hK.out _ _ ⟨A84, c84, (put1 y 83 (.pointer (some ⟨g, 0, none⟩))), ⟨rfl, hI.out.2.1.upd 0 rfl rfl rfl rfl, hI.out.2.2.1, hI.out.2.2.2⟩⟩
          · intro LL a wx hI hLk hd K' hK
            obtain ⟨A84, c84, y, hI⟩ := hI
            obtain rfl := hI.out.1
            have e0 := hI.out.2.1.at 0 rfl (hd 0 rfl)
            have hm := hI.out.2.2.1
            rw [if_pos (by rfl)]
            go_simp
            go_at_call 17
            refine (bytes1 w _ _ _ _ hm.out (by have := HL.out; omega)).mono ?_
            rintro e w2 ⟨A', c', rfl, hr, hb1, hm1⟩
            exact hK.out _ _ ⟨A', c', (put1 (put1 y 83 (.pointer (some ⟨g, 0, none⟩))) 84 (.slice A' l1.length c')), ⟨rfl, (hI.out.2.1.same (s := 83) (v := .pointer (some ⟨g, 0, none⟩)) e0).upd 1 rfl rfl rfl rfl, ⟨hm1⟩, ⟨fun _ => (Kd.R_reads' hr).2.2⟩⟩⟩
          · intro LL a wx hI hLk hd K' hK
            obtain ⟨A84, c84, y, hI⟩ := hI
            obtain rfl := hI.out.1
            have e1 := hI.out.2.1.at 1 rfl (hd 1 rfl)
            have hc := hI.out.2.2.2
            have hcv := Kd.C_string (P := Try.prog) (A := A84) (c := c84) Try.underlying22 Try.underlying5 Try.underlying9 (hc.out (hd 1 rfl))
            rw [if_pos (by rfl)]
            go_simp
            exact hK.out _ _ ⟨A84, c84, (put1 (put1 y 84 (.slice A84 l1.length c84)) 85 (.string (strOfNums l1))), ⟨rfl, (hI.out.2.1.same (s := 84) (v := .slice A84 l1.length c84) e1).upd 2 rfl rfl rfl rfl, hI.out.2.2.1, hI.out.2.2.2⟩⟩
          · intro LL a wx hI hLk hd K' hK
            obtain ⟨A84, c84, y, hI⟩ := hI
            obtain rfl := hI.out.1
            rw [if_pos (by rfl)]
            go_simp
            exact hK.out _ _ ⟨A84, c84, (put1 y 86 (.slice A1 l1.length c1)), ⟨rfl, hI.out.2.1.upd 3 rfl rfl rfl rfl, hI.out.2.2.1, hI.out.2.2.2⟩⟩
          · intro LL a wx hI hLk hd K' hK
            obtain ⟨A84, c84, y, hI⟩ := hI
            obtain rfl := hI.out.1
            have e3 := hI.out.2.1.at 3 rfl (hd 3 rfl)
            have hm := hI.out.2.2.1
            have hcv := Kd.C_string (P := Try.prog) (A := A1) (c := c1) Try.underlying22 Try.underlying5 Try.underlying9 (Kd.C_below HC1.out hm.out.2)
            rw [if_pos (by rfl)]
            go_simp
            exact hK.out _ _ ⟨A84, c84, (put1 (put1 y 86 (.slice A1 l1.length c1)) 87 (.string (strOfNums l1))), ⟨rfl, (hI.out.2.1.same (s := 86) (v := .slice A1 l1.length c1) e3).upd 4 rfl rfl rfl rfl, hI.out.2.2.1, hI.out.2.2.2⟩⟩
          · intro LL a wx hI hLk hd K' hK
            obtain ⟨A84, c84, y, hI⟩ := hI
            obtain rfl := hI.out.1
            have e2 := hI.out.2.1.at 2 rfl (hd 2 rfl)
            have e4 := hI.out.2.1.at 4 rfl (hd 4 rfl)
            rw [if_pos (by rfl)]
            go_simp
            exact hK.out _ _ ⟨A84, c84, (put1 (put1 (put1 y 85 (.string (strOfNums l1))) 87 (.string (strOfNums l1))) 88 (.bool true)), ⟨rfl, ((hI.out.2.1.same (s := 85) (v := .string (strOfNums l1)) e2).same (s := 87) (v := .string (strOfNums l1)) e4).upd 5 rfl rfl rfl rfl, hI.out.2.2.1, hI.out.2.2.2⟩⟩
          · intro LL a wx hI hLk hd K' hK
            obtain ⟨A84, c84, y, hI⟩ := hI
            obtain rfl := hI.out.1
            have e5 := hI.out.2.1.at 5 rfl (hd 5 rfl)
            rw [if_pos (by rfl)]
            go_simp
            exact hK.out _ _ ⟨A84, c84, (put1 (put1 y 88 (.bool true)) 6 (.bool true)), ⟨rfl, (hI.out.2.1.same (s := 88) (v := .bool true) e5).upd 6 rfl rfl rfl rfl, hI.out.2.2.1, hI.out.2.2.2⟩⟩
        · intro LL a w12 hall hI
          obtain ⟨A84, c84, y, hI⟩ := hI
          obtain rfl := hI.out.1
          have hm := hI.out.2.2.1
          have hc := hI.out.2.2.2
          have e6 := hI.out.2.1.at 6 rfl (hall 6 (by decide))
          rw [e6]
          go_wp2
          go_ret
          exact ⟨rfl, hm.out.2⟩
end Go.Proofs.YtkolcgofhjbebaaW.PrintMed

/- The stable sort of package slices, the merge (gensort.py). No condition. -/
import Derived.Test.YtdmahdgcfaieoaaWSort2
import Derived.Test.YtdmahdgcfaieoaaWSymP
namespace Go.Proofs.YtdmahdgcfaieoaaW.PrintSort
open Go Go.RowKit Go.Proofs.YtdmahdgcfaieoaaW.PrintWords Go.Proofs.YtdmahdgcfaieoaaW.PrintLast Go.Proofs.YtdmahdgcfaieoaaW.PrintMore Go.Proofs.YtdmahdgcfaieoaaW.PrintReg Go.Proofs.YtdmahdgcfaieoaaW.PrintTree
set_option linter.unusedVariables false
set_option linter.unusedSimpArgs false
/-- What stands behind. -/
def sR : Code → Code
  | .seq _ y => y
  | c => c
set_option maxHeartbeats 4000000 in
set_option maxRecDepth 100000 in
theorem tail3 (XX : List Value) (g o n c : Nat) (ad : Addr) (fc : Nat) (caps : Array Value) (k : Int → Int) (w0 w : World) (ia im ib : Nat) (P L R Q : List Int) (N mid nn i e : Nat) (D : List Int)
    (HAD : Aside0 (ad = ⟨g, o, none⟩)) (HD : Aside0 (D = P ++ L ++ R ++ Q)) (HW0 : Aside0 (On (· = g) w0 w))
    (HB : Aside0 (P.length = o + ia ∧ ia + L.length = im ∧ im + R.length = ib ∧ ib ≤ n ∧ o + n ≤ D.length ∧ n ≤ 1152921504606846975 ∧ 1 < L.length ∧ 1 < R.length ∧ L.length + R.length = N))
    (HS : Aside0 (Srt k L ∧ Srt k R)) (HMI : Aside0 (ia < mid ∧ mid < ib))
    (HE : Aside0 (ia ≤ i ∧ i ≤ im ∧ i ≤ mid ∧ im ≤ e ∧ mid ≤ e ∧ e ≤ ib ∧ i + (e - im) = mid ∧ mid + (im - i) = e))
    (HX : Aside0 ((∀ x ∈ L.take (i - ia), ∀ y ∈ R.drop (e - im), k x ≤ k y) ∧ ∀ x ∈ L.drop (i - ia), ∀ y ∈ R.take (e - im), k y < k x))
    (HLN : Aside0 (ia + (L.take (i - ia)).length = i ∧ i + (R.take (e - im)).length = mid ∧ mid + (L.drop (i - ia)).length = e ∧ e + (R.drop (e - im)).length = ib))
    (HBN : Aside0 (e ≤ n ∧ mid ≤ n ∧ ib ≤ n ∧ o + n ≤ D.length ∧ n ≤ 1152921504606846975))
    (HIH : Aside0 (∀ (ia im ib : Nat) (P L R Q : List Int) (w : World), Arr XX w g (P ++ L ++ R ++ Q) → On (· = g) w0 w → P.length = o + ia → ia + L.length = im → im + R.length = ib → 0 < L.length → 0 < R.length → ib ≤ n → o + n ≤ (P ++ L ++ R ++ Q).length → Srt k L → Srt k R → L.length + R.length < N →
      Calls Try.prog 40 #[.slice (some ad) n c, .int .i64 (ia : Int), .int .i64 (im : Int), .int .i64 (ib : Int), .func (.func fc) #[] caps] w fun e w' => e = .returned (.tuple #[]) ∧ ∃ M, Arr XX w' g (P ++ M ++ Q) ∧ St k (L ++ R) M ∧ On (· = g) w w'))
    (Qx : Exit → Act → World → Prop) (HQ : Aside0 (∀ ts w', (∃ M, Arr XX w' g (P ++ M ++ Q) ∧ St k (L ++ R) M ∧ On (· = g) w w') → Qx .normal { tmps := ts, defers := [] } w'))
    (M1 : List Int) (wr : World) (HA2 : Aside0 (Arr XX wr g (P ++ M1 ++ ((L.drop (i - ia) ++ R.drop (e - im)) ++ Q)))) (HS2 : Aside0 (St k (L.take (i - ia) ++ R.take (e - im)) M1)) (HO2 : Aside0 (On (· = g) w wr))
    {u5 u6 u7 u8 u9 u10 u11 u12 u13 u14 u15 u16 u17 u19 u20 u21 u22 u23 u25 u26 u27 u28 u29 u30 u31 u32 u33 u34 u35 u36 u37 u38 u39 u40 u41 u42 u43 u44 u45 u46 u47 u48 u49 u50 u51 u52 u53 u54 u55 u56 u57 u58 u59 u60 u61 u62 u63 u64 u65 u66 u67 u68 u69 u70 u71 u72 u73 u74 u75 u76 u77 u78 u79 u80 u81 u82 u83 u84 u85 u86 u87 u88 u89 u90 u91 u92 u93 u94 u95 u96 u97 u98 u99 u100 u101 u102 u103 u104 u105 u106 u107 u108 u109 u110 u111 u112 u113 u114 u115 u116 u117 u118 u119 u120 u121 u122 u123 u124 u125 u126 u127 u128 u129 u130 u131 u132 u133 u134 u135 u136 u137 u138 u139 u140 u141 u142 u143 u144 u145 u146 u147 u148 u149 u150 u151 u152 u153 u154 u155 u156 u157 u158 u159 u160 u161 u162 u163 u164 u165 u166 u167 u168 u169 u170 u171 u172 u173 u174 u175 u176 u177 u178 u179 u180 u181 u182 u183 u184 u185 u186 u187 u188 u189 u190 u191 u192 u193 u194 u195 u196 u197 u198 u199 u200 u201 u202 u203 u204 u205 u206 u207 u208 u209 u210 u211 u212 u213 u214 u215 u216 u217 u218 u219 : Value} :
    Code.wp Try.prog (sR (sR (sR (sR (sR (sR (sR (sR (sR (sR (sR (Try.f40.body.getD .skip)))))))))))) Qx { tmps := #[.slice (some ad) n c, .int .i64 (ia : Int), .int .i64 (im : Int), .int .i64 (ib : Int), .func (.func fc) #[] caps, u5, u6, u7, u8, u9, u10, u11, u12, u13, u14, u15, u16, u17, .int .i64 (mid : Int), u19, u20, u21, u22, u23, .int .i64 (e : Int), u25, u26, u27, u28, u29, u30, u31, u32, u33, u34, u35, u36, u37, u38, u39, u40, u41, u42, u43, u44, u45, u46, u47, u48, u49, u50, u51, u52, u53, u54, u55, u56, u57, u58, u59, u60, u61, u62, u63, u64, u65, u66, u67, u68, u69, u70, u71, u72, u73, u74, u75, u76, u77, u78, u79, u80, u81, u82, u83, u84, u85, u86, u87, u88, u89, u90, u91, u92, u93, u94, u95, u96, u97, u98, u99, u100, u101, u102, u103, u104, u105, u106, u107, u108, u109, u110, u111, u112, u113, u114, u115, u116, u117, u118, u119, u120, u121, u122, u123, u124, u125, u126, u127, u128, u129, u130, u131, u132, u133, u134, u135, u136, u137, u138, u139, u140, u141, u142, u143, u144, u145, u146, u147, u148, u149, u150, u151, u152, u153, u154, u155, u156, u157, u158, u159, u160, u161, u162, u163, u164, u165, u166, u167, u168, u169, u170, u171, u172, u173, u174, u175, u176, u177, u178, u179, u180, u181, u182, u183, u184, u185, u186, u187, u188, u189, u190, u191, u192, u193, u194, u195, u196, u197, u198, u199, u200, u201, u202, u203, u204, u205, u206, u207, u208, u209, u210, u211, u212, u213, u214, u215, u216, u217, u218, u219], defers := [] } wr := by
  simp only [Try.f40, Option.getD_some, sR]
  by_cases h5 : mid < e
  · have t_mid_e : ((mid : Int) < (e : Int)) = True := eq_true (Int.ofNat_lt.2 h5)
    have n_mid_e : (mid < e) = True := eq_true h5
    by_cases h6 : e < ib
    · have t_e_ib : ((e : Int) < (ib : Int)) = True := eq_true (Int.ofNat_lt.2 h6)
      have n_e_ib : (e < ib) = True := eq_true h6
      go_wp2_with fail
      all_goals
        refine (HIH.out mid e ib (P ++ M1) (L.drop (i - ia)) (R.drop (e - im)) Q _ (by have h := HA2.out; simpa only [List.append_assoc] using h) (HW0.out.trans HO2.out) (by rw [List.length_append, HS2.out.len, List.length_append]; have := HLN.out; have := HB.out; omega) HLN.out.2.2.1 HLN.out.2.2.2 (by have := HLN.out; omega) (by have := HLN.out; omega) HBN.out.2.2.1 (by have h := HBN.out.2.2.2.1; rw [HD.out] at h; have h8 := HS2.out.len; simp only [List.length_append] at h h8 ⊢; have := HLN.out; have := HB.out; omega) (srt_drop HS.out.1 _) (srt_drop HS.out.2 _) (by have := HLN.out; have := HB.out; have := HMI.out; omega)).mono ?_
        rintro e' w3 ⟨rfl, M2, hA3, hS3, ho3⟩
        have HA3 := Aside0.mk hA3
        have HS3 := Aside0.mk hS3
        have HO3 := Aside0.mk (HO2.out.trans ho3)
        clear hA3 hS3 ho3 HA2 HO2
        go_wp2
        exact HQ.out _ _ ⟨_, by have h := HA3.out; rw [List.append_assoc P] at h; exact h, St.cross HS.out.1 HS.out.2 HX.out.1 HX.out.2 HS2.out HS3.out, HO3.out⟩
    · have t_e_ib : ((e : Int) < (ib : Int)) = False := eq_false (fun q => h6 (Int.ofNat_lt.1 q))
      have n_e_ib : (e < ib) = False := eq_false h6
      go_wp2_with fail
      exact HQ.out _ _ ⟨_, by have h := HA2.out; rw [← List.append_assoc _ _ Q, List.append_assoc P] at h; exact h, St.cross HS.out.1 HS.out.2 HX.out.1 HX.out.2 HS2.out (St.refl (srt_nil_right (by have := HLN.out; omega) (srt_drop HS.out.1 _))), HO2.out⟩
  · have t_mid_e : ((mid : Int) < (e : Int)) = False := eq_false (fun q => h5 (Int.ofNat_lt.1 q))
    have n_mid_e : (mid < e) = False := eq_false h5
    go_wp2_with fail
    exact HQ.out _ _ ⟨_, by have h := HA2.out; rw [← List.append_assoc _ _ Q, List.append_assoc P] at h; exact h, St.cross HS.out.1 HS.out.2 HX.out.1 HX.out.2 HS2.out (St.refl (srt_nil_left (by have := HLN.out; omega) (srt_drop HS.out.2 _))), HO2.out⟩
set_option maxHeartbeats 4000000 in
set_option maxRecDepth 100000 in
theorem tail2 (XX : List Value) (g o n c : Nat) (ad : Addr) (fc : Nat) (caps : Array Value) (k : Int → Int) (w0 w : World) (ia im ib : Nat) (P L R Q : List Int) (N mid nn i e : Nat) (D : List Int)
    (HAD : Aside0 (ad = ⟨g, o, none⟩)) (HD : Aside0 (D = P ++ L ++ R ++ Q)) (HW0 : Aside0 (On (· = g) w0 w))
    (HB : Aside0 (P.length = o + ia ∧ ia + L.length = im ∧ im + R.length = ib ∧ ib ≤ n ∧ o + n ≤ D.length ∧ n ≤ 1152921504606846975 ∧ 1 < L.length ∧ 1 < R.length ∧ L.length + R.length = N))
    (HS : Aside0 (Srt k L ∧ Srt k R)) (HMI : Aside0 (ia < mid ∧ mid < ib))
    (HE : Aside0 (ia ≤ i ∧ i ≤ im ∧ i ≤ mid ∧ im ≤ e ∧ mid ≤ e ∧ e ≤ ib ∧ i + (e - im) = mid ∧ mid + (im - i) = e))
    (HX : Aside0 ((∀ x ∈ L.take (i - ia), ∀ y ∈ R.drop (e - im), k x ≤ k y) ∧ ∀ x ∈ L.drop (i - ia), ∀ y ∈ R.take (e - im), k y < k x))
    (HLN : Aside0 (ia + (L.take (i - ia)).length = i ∧ i + (R.take (e - im)).length = mid ∧ mid + (L.drop (i - ia)).length = e ∧ e + (R.drop (e - im)).length = ib))
    (HBN : Aside0 (e ≤ n ∧ mid ≤ n ∧ ib ≤ n ∧ o + n ≤ D.length ∧ n ≤ 1152921504606846975))
    (HIH : Aside0 (∀ (ia im ib : Nat) (P L R Q : List Int) (w : World), Arr XX w g (P ++ L ++ R ++ Q) → On (· = g) w0 w → P.length = o + ia → ia + L.length = im → im + R.length = ib → 0 < L.length → 0 < R.length → ib ≤ n → o + n ≤ (P ++ L ++ R ++ Q).length → Srt k L → Srt k R → L.length + R.length < N →
      Calls Try.prog 40 #[.slice (some ad) n c, .int .i64 (ia : Int), .int .i64 (im : Int), .int .i64 (ib : Int), .func (.func fc) #[] caps] w fun e w' => e = .returned (.tuple #[]) ∧ ∃ M, Arr XX w' g (P ++ M ++ Q) ∧ St k (L ++ R) M ∧ On (· = g) w w'))
    (Qx : Exit → Act → World → Prop) (HQ : Aside0 (∀ ts w', (∃ M, Arr XX w' g (P ++ M ++ Q) ∧ St k (L ++ R) M ∧ On (· = g) w w') → Qx .normal { tmps := ts, defers := [] } w'))
    (wr : World) (HA1 : Aside0 (Arr XX wr g (P ++ (L.take (i - ia) ++ R.take (e - im)) ++ (L.drop (i - ia) ++ R.drop (e - im)) ++ Q))) (HO1 : Aside0 (On (· = g) w wr))
    {u5 u6 u7 u8 u9 u10 u11 u12 u13 u14 u15 u16 u17 u19 u21 u22 u23 u25 u26 u27 u28 u29 u30 u31 u32 u33 u34 u35 u36 u37 u38 u39 u40 u41 u42 u43 u44 u45 u46 u47 u48 u49 u50 u51 u52 u53 u54 u55 u56 u57 u58 u59 u60 u61 u62 u63 u64 u65 u66 u67 u68 u69 u70 u71 u72 u73 u74 u75 u76 u77 u78 u79 u80 u81 u82 u83 u84 u85 u86 u87 u88 u89 u90 u91 u92 u93 u94 u95 u96 u97 u98 u99 u100 u101 u102 u103 u104 u105 u106 u107 u108 u109 u110 u111 u112 u113 u114 u115 u116 u117 u118 u119 u120 u121 u122 u123 u124 u125 u126 u127 u128 u129 u130 u131 u132 u133 u134 u135 u136 u137 u138 u139 u140 u141 u142 u143 u144 u145 u146 u147 u148 u149 u150 u151 u152 u153 u154 u155 u156 u157 u158 u159 u160 u161 u162 u163 u164 u165 u166 u167 u168 u169 u170 u171 u172 u173 u174 u175 u176 u177 u178 u179 u180 u181 u182 u183 u184 u185 u186 u187 u188 u189 u190 u191 u192 u193 u194 u195 u196 u197 u198 u199 u200 u201 u202 u203 u204 u205 u206 u207 u208 u209 u210 u211 u212 u213 u214 u215 u216 u217 u218 u219 : Value} :
    Code.wp Try.prog (sR (sR (sR (sR (sR (sR (sR (sR (sR (sR (Try.f40.body.getD .skip))))))))))) Qx { tmps := #[.slice (some ad) n c, .int .i64 (ia : Int), .int .i64 (im : Int), .int .i64 (ib : Int), .func (.func fc) #[] caps, u5, u6, u7, u8, u9, u10, u11, u12, u13, u14, u15, u16, u17, .int .i64 (mid : Int), u19, .int .i64 (i : Int), u21, u22, u23, .int .i64 (e : Int), u25, u26, u27, u28, u29, u30, u31, u32, u33, u34, u35, u36, u37, u38, u39, u40, u41, u42, u43, u44, u45, u46, u47, u48, u49, u50, u51, u52, u53, u54, u55, u56, u57, u58, u59, u60, u61, u62, u63, u64, u65, u66, u67, u68, u69, u70, u71, u72, u73, u74, u75, u76, u77, u78, u79, u80, u81, u82, u83, u84, u85, u86, u87, u88, u89, u90, u91, u92, u93, u94, u95, u96, u97, u98, u99, u100, u101, u102, u103, u104, u105, u106, u107, u108, u109, u110, u111, u112, u113, u114, u115, u116, u117, u118, u119, u120, u121, u122, u123, u124, u125, u126, u127, u128, u129, u130, u131, u132, u133, u134, u135, u136, u137, u138, u139, u140, u141, u142, u143, u144, u145, u146, u147, u148, u149, u150, u151, u152, u153, u154, u155, u156, u157, u158, u159, u160, u161, u162, u163, u164, u165, u166, u167, u168, u169, u170, u171, u172, u173, u174, u175, u176, u177, u178, u179, u180, u181, u182, u183, u184, u185, u186, u187, u188, u189, u190, u191, u192, u193, u194, u195, u196, u197, u198, u199, u200, u201, u202, u203, u204, u205, u206, u207, u208, u209, u210, u211, u212, u213, u214, u215, u216, u217, u218, u219], defers := [] } wr := by
  simp only [Try.f40, Option.getD_some, sR]
  refine wp_seq_k ?_
  intro KL hKL
  have HKL := Aside0.mk hKL
  clear hKL
  by_cases h3 : ia < i
  · have t_ia_i : ((ia : Int) < (i : Int)) = True := eq_true (Int.ofNat_lt.2 h3)
    have n_ia_i : (ia < i) = True := eq_true h3
    by_cases h4 : i < mid
    · have t_i_mid : ((i : Int) < (mid : Int)) = True := eq_true (Int.ofNat_lt.2 h4)
      have n_i_mid : (i < mid) = True := eq_true h4
      go_wp2_with fail
      all_goals
        refine (HIH.out ia i mid P (L.take (i - ia)) (R.take (e - im)) ((L.drop (i - ia) ++ R.drop (e - im)) ++ Q) _ (by have h := HA1.out; simpa only [List.append_assoc] using h) (HW0.out.trans HO1.out) HB.out.1 HLN.out.1 HLN.out.2.1 (by have := HLN.out; omega) (by have := HLN.out; omega) HBN.out.2.1 (by have h := HBN.out.2.2.2.1; rw [HD.out] at h; simp only [List.length_append] at h ⊢; have := HLN.out; have := HB.out; omega) (srt_take HS.out.1 _) (srt_take HS.out.2 _) (by have := HLN.out; have := HB.out; have := HMI.out; omega)).mono ?_
        rintro e' w2 ⟨rfl, M1, hA2, hS2, ho2⟩
        have HA2 := Aside0.mk hA2
        have HS2 := Aside0.mk hS2
        have HO2 := Aside0.mk (HO1.out.trans ho2)
        clear hA2 hS2 ho2 HA1 HO1
        go_wp2_with fail
        refine HKL.out _ _ ?_
        exact tail3 XX g o n c ad fc caps k w0 w ia im ib P L R Q N mid nn i e D HAD HD HW0 HB HS HMI HE HX HLN HBN HIH Qx HQ M1 _ HA2 HS2 HO2
    · have t_i_mid : ((i : Int) < (mid : Int)) = False := eq_false (fun q => h4 (Int.ofNat_lt.1 q))
      have n_i_mid : (i < mid) = False := eq_false h4
      obtain ⟨M1, hM1⟩ : ∃ M1, M1 = (L.take (i - ia) ++ R.take (e - im)) := ⟨_, rfl⟩
      have HS2 : Aside0 (St k (L.take (i - ia) ++ R.take (e - im)) M1) := ⟨by rw [hM1]; exact St.refl (srt_nil_right (by have := HLN.out; omega) (srt_take HS.out.1 _))⟩
      have HA2 : Aside0 (Arr XX wr g (P ++ M1 ++ ((L.drop (i - ia) ++ R.drop (e - im)) ++ Q))) := ⟨by rw [hM1]; have h := HA1.out; simpa only [List.append_assoc] using h⟩
      have HO2 := HO1
      clear HA1 HO1 hM1
      go_wp2_with fail
      refine HKL.out _ _ ?_
      exact tail3 XX g o n c ad fc caps k w0 w ia im ib P L R Q N mid nn i e D HAD HD HW0 HB HS HMI HE HX HLN HBN HIH Qx HQ M1 _ HA2 HS2 HO2
  · have t_ia_i : ((ia : Int) < (i : Int)) = False := eq_false (fun q => h3 (Int.ofNat_lt.1 q))
    have n_ia_i : (ia < i) = False := eq_false h3
    obtain ⟨M1, hM1⟩ : ∃ M1, M1 = (L.take (i - ia) ++ R.take (e - im)) := ⟨_, rfl⟩
    have HS2 : Aside0 (St k (L.take (i - ia) ++ R.take (e - im)) M1) := ⟨by rw [hM1]; exact St.refl (srt_nil_left (by have := HLN.out; omega) (srt_take HS.out.2 _))⟩
    have HA2 : Aside0 (Arr XX wr g (P ++ M1 ++ ((L.drop (i - ia) ++ R.drop (e - im)) ++ Q))) := ⟨by rw [hM1]; have h := HA1.out; simpa only [List.append_assoc] using h⟩
    have HO2 := HO1
    clear HA1 HO1 hM1
    go_wp2_with fail
    refine HKL.out _ _ ?_
    exact tail3 XX g o n c ad fc caps k w0 w ia im ib P L R Q N mid nn i e D HAD HD HW0 HB HS HMI HE HX HLN HBN HIH Qx HQ M1 _ HA2 HS2 HO2
set_option maxHeartbeats 4000000 in
set_option maxRecDepth 100000 in
theorem tail1 (XX : List Value) (g o n c : Nat) (ad : Addr) (fc : Nat) (caps : Array Value) (k : Int → Int) (w0 w : World) (ia im ib : Nat) (P L R Q : List Int) (N mid nn i e : Nat) (D : List Int)
    (HAD : Aside0 (ad = ⟨g, o, none⟩)) (HD : Aside0 (D = P ++ L ++ R ++ Q)) (HW0 : Aside0 (On (· = g) w0 w))
    (HB : Aside0 (P.length = o + ia ∧ ia + L.length = im ∧ im + R.length = ib ∧ ib ≤ n ∧ o + n ≤ D.length ∧ n ≤ 1152921504606846975 ∧ 1 < L.length ∧ 1 < R.length ∧ L.length + R.length = N))
    (HS : Aside0 (Srt k L ∧ Srt k R)) (HMI : Aside0 (ia < mid ∧ mid < ib))
    (HE : Aside0 (ia ≤ i ∧ i ≤ im ∧ i ≤ mid ∧ im ≤ e ∧ mid ≤ e ∧ e ≤ ib ∧ i + (e - im) = mid ∧ mid + (im - i) = e))
    (HX : Aside0 ((∀ x ∈ L.take (i - ia), ∀ y ∈ R.drop (e - im), k x ≤ k y) ∧ ∀ x ∈ L.drop (i - ia), ∀ y ∈ R.take (e - im), k y < k x))
    (HLN : Aside0 (ia + (L.take (i - ia)).length = i ∧ i + (R.take (e - im)).length = mid ∧ mid + (L.drop (i - ia)).length = e ∧ e + (R.drop (e - im)).length = ib))
    (HBN : Aside0 (e ≤ n ∧ mid ≤ n ∧ ib ≤ n ∧ o + n ≤ D.length ∧ n ≤ 1152921504606846975))
    (HIH : Aside0 (∀ (ia im ib : Nat) (P L R Q : List Int) (w : World), Arr XX w g (P ++ L ++ R ++ Q) → On (· = g) w0 w → P.length = o + ia → ia + L.length = im → im + R.length = ib → 0 < L.length → 0 < R.length → ib ≤ n → o + n ≤ (P ++ L ++ R ++ Q).length → Srt k L → Srt k R → L.length + R.length < N →
      Calls Try.prog 40 #[.slice (some ad) n c, .int .i64 (ia : Int), .int .i64 (im : Int), .int .i64 (ib : Int), .func (.func fc) #[] caps] w fun e w' => e = .returned (.tuple #[]) ∧ ∃ M, Arr XX w' g (P ++ M ++ Q) ∧ St k (L ++ R) M ∧ On (· = g) w w'))
    (Qx : Exit → Act → World → Prop) (HQ : Aside0 (∀ ts w', (∃ M, Arr XX w' g (P ++ M ++ Q) ∧ St k (L ++ R) M ∧ On (· = g) w w') → Qx .normal { tmps := ts, defers := [] } w'))
    (HEW : Aside0 (wrap64 ((nn : Int) - (i : Int)) = (e : Int))) (wr : World) (HAJ : Aside0 (Arr XX wr g D)) (HOJ : Aside0 (On (· = g) w wr))
    {u5 u6 u7 u8 u9 u10 u11 u12 u13 u14 u15 u16 u17 u21 u22 u23 u24 u25 u26 u27 u28 u29 u30 u31 u32 u33 u34 u35 u36 u37 u38 u39 u40 u41 u42 u43 u44 u45 u46 u47 u48 u49 u50 u51 u52 u53 u54 u55 u56 u57 u58 u59 u60 u61 u62 u63 u64 u65 u66 u67 u68 u69 u70 u71 u72 u73 u74 u75 u76 u77 u78 u79 u80 u81 u82 u83 u84 u85 u86 u87 u88 u89 u90 u91 u92 u93 u94 u95 u96 u97 u98 u99 u100 u101 u102 u103 u104 u105 u106 u107 u108 u109 u110 u111 u112 u113 u114 u115 u116 u117 u118 u119 u120 u121 u122 u123 u124 u125 u126 u127 u128 u129 u130 u131 u132 u133 u134 u135 u136 u137 u138 u139 u140 u141 u142 u143 u144 u145 u146 u147 u148 u149 u150 u151 u152 u153 u154 u155 u156 u157 u158 u159 u160 u161 u162 u163 u164 u165 u166 u167 u168 u169 u170 u171 u172 u173 u174 u175 u176 u177 u178 u179 u180 u181 u182 u183 u184 u185 u186 u187 u188 u189 u190 u191 u192 u193 u194 u195 u196 u197 u198 u199 u200 u201 u202 u203 u204 u205 u206 u207 u208 u209 u210 u211 u212 u213 u214 u215 u216 u217 u218 u219 : Value} :
    Code.wp Try.prog (sR (sR (sR (sR (sR (sR (sR (sR (Try.f40.body.getD .skip))))))))) Qx { tmps := #[.slice (some ad) n c, .int .i64 (ia : Int), .int .i64 (im : Int), .int .i64 (ib : Int), .func (.func fc) #[] caps, u5, u6, u7, u8, u9, u10, u11, u12, u13, u14, u15, u16, u17, .int .i64 (mid : Int), .int .i64 (nn : Int), .int .i64 (i : Int), u21, u22, u23, u24, u25, u26, u27, u28, u29, u30, u31, u32, u33, u34, u35, u36, u37, u38, u39, u40, u41, u42, u43, u44, u45, u46, u47, u48, u49, u50, u51, u52, u53, u54, u55, u56, u57, u58, u59, u60, u61, u62, u63, u64, u65, u66, u67, u68, u69, u70, u71, u72, u73, u74, u75, u76, u77, u78, u79, u80, u81, u82, u83, u84, u85, u86, u87, u88, u89, u90, u91, u92, u93, u94, u95, u96, u97, u98, u99, u100, u101, u102, u103, u104, u105, u106, u107, u108, u109, u110, u111, u112, u113, u114, u115, u116, u117, u118, u119, u120, u121, u122, u123, u124, u125, u126, u127, u128, u129, u130, u131, u132, u133, u134, u135, u136, u137, u138, u139, u140, u141, u142, u143, u144, u145, u146, u147, u148, u149, u150, u151, u152, u153, u154, u155, u156, u157, u158, u159, u160, u161, u162, u163, u164, u165, u166, u167, u168, u169, u170, u171, u172, u173, u174, u175, u176, u177, u178, u179, u180, u181, u182, u183, u184, u185, u186, u187, u188, u189, u190, u191, u192, u193, u194, u195, u196, u197, u198, u199, u200, u201, u202, u203, u204, u205, u206, u207, u208, u209, u210, u211, u212, u213, u214, u215, u216, u217, u218, u219], defers := [] } wr := by
  simp only [Try.f40, Option.getD_some, sR]
  refine wp_seq_k ?_
  intro KM hKM
  have HKM := Aside0.mk hKM
  clear hKM
  go_wp2_with fail
  try rw [HEW.out]
  refine HKM.out _ _ ?_
  refine wp_seq_k ?_
  intro KL hKL
  have HKL := Aside0.mk hKL
  clear hKL
  by_cases h1 : i < im
  · have t_i_im : ((i : Int) < (im : Int)) = True := eq_true (Int.ofNat_lt.2 h1)
    have n_i_im : (i < im) = True := eq_true h1
    by_cases h2 : im < e
    · have t_im_e : ((im : Int) < (e : Int)) = True := eq_true (Int.ofNat_lt.2 h2)
      have n_im_e : (im < e) = True := eq_true h2
      go_wp2_with fail
      all_goals
        refine (rotate_calls XX g o n c ad HAD.out (.func (.func fc) #[] caps) i im e D (P ++ (L.take (i - ia) ++ R.take (e - im)) ++ (L.drop (i - ia) ++ R.drop (e - im)) ++ Q) wr HAJ.out (by have h := gen_rot P L R Q i e ia im o HB.out.1 HB.out.2.1 HE.out.1 HE.out.2.1 HE.out.2.2.2.1 (by have := HE.out; have := HB.out; omega); rw [HD.out]; exact h) h1 h2 HBN.out.1 HBN.out.2.2.2.1 HBN.out.2.2.2.2).mono ?_
        rintro e' w1 ⟨rfl, hA1, ho1⟩
        have HA1 := Aside0.mk hA1
        have HO1 := Aside0.mk (HOJ.out.trans ho1)
        clear hA1 ho1 HAJ HOJ
        go_wp2_with fail
        refine HKL.out _ _ ?_
        exact tail2 XX g o n c ad fc caps k w0 w ia im ib P L R Q N mid nn i e D HAD HD HW0 HB HS HMI HE HX HLN HBN HIH Qx HQ _ HA1 HO1
    · have t_im_e : ((im : Int) < (e : Int)) = False := eq_false (fun q => h2 (Int.ofNat_lt.1 q))
      have n_im_e : (im < e) = False := eq_false h2
      have HA1 : Aside0 (Arr XX wr g (P ++ (L.take (i - ia) ++ R.take (e - im)) ++ (L.drop (i - ia) ++ R.drop (e - im)) ++ Q)) := ⟨by rw [gen_same P L R Q i e ia im HB.out.2.1 HE.out.2.2.2.1 (by omega), ← HD.out]; exact HAJ.out⟩
      have HO1 := HOJ
      clear HAJ HOJ
      go_wp2_with fail
      refine HKL.out _ _ ?_
      exact tail2 XX g o n c ad fc caps k w0 w ia im ib P L R Q N mid nn i e D HAD HD HW0 HB HS HMI HE HX HLN HBN HIH Qx HQ _ HA1 HO1
  · have t_i_im : ((i : Int) < (im : Int)) = False := eq_false (fun q => h1 (Int.ofNat_lt.1 q))
    have n_i_im : (i < im) = False := eq_false h1
    have HA1 : Aside0 (Arr XX wr g (P ++ (L.take (i - ia) ++ R.take (e - im)) ++ (L.drop (i - ia) ++ R.drop (e - im)) ++ Q)) := ⟨by rw [gen_same P L R Q i e ia im HB.out.2.1 HE.out.2.2.2.1 (by omega), ← HD.out]; exact HAJ.out⟩
    have HO1 := HOJ
    clear HAJ HOJ
    go_wp2_with fail
    refine HKL.out _ _ ?_
    exact tail2 XX g o n c ad fc caps k w0 w ia im ib P L R Q N mid nn i e D HAD HD HW0 HB HS HMI HE HX HLN HBN HIH Qx HQ _ HA1 HO1
end Go.Proofs.YtdmahdgcfaieoaaW.PrintSort

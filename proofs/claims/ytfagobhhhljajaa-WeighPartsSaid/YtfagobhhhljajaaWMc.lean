-- merged by a program of this session (wip/tools/mergewords.py)
import Derived.Test.YtfagobhhhljajaaWMb
import Derived.Test.YtfagobhhhljajaaWMa
/- The stable sort of package slices, the merge (gensort.py). No condition. -/
namespace Go.Proofs.YtfagobhhhljajaaW.PrintSort
open Go Go.RowKit Go.Proofs.YtfagobhhhljajaaW.PrintWords Go.Proofs.YtfagobhhhljajaaW.PrintLast Go.Proofs.YtfagobhhhljajaaW.PrintMore Go.Proofs.YtfagobhhhljajaaW.PrintReg Go.Proofs.YtfagobhhhljajaaW.PrintTree
set_option linter.unusedVariables false
set_option linter.unusedSimpArgs false
/-- What stands behind. -/
def sR : Code → Code
 | .seq _ y => y
 | c => c
set_option maxHeartbeats 4000000 in
set_option maxRecDepth 100000 in
theorem tail3 (XX : List Value) (g o n c : Nat) (ad : Addr) (fc : Nat) (caps : Array Value) (k : Int → Int) (w0 w : World) (ia im ib : Nat) (P L R Q : List Int) (N mid nn i e : Nat) (D : List Int)
  (HAD : Aside0 (ad = ⟨g, o, none⟩)) (HD : Aside0 (D = P ++ L ++ R ++ Q)) (HW0 : Aside0 (On (· = g) w0 w))
  (HB : Aside0 (P.length = o + ia ∧ ia + L.length = im ∧ im + R.length = ib ∧ ib ≤ n ∧ o + n ≤ D.length ∧ n ≤ 1152921504606846975 ∧ 1 < L.length ∧ 1 < R.length ∧ L.length + R.length = N))
  (HS : Aside0 (Srt k L ∧ Srt k R)) (HMI : Aside0 (ia < mid ∧ mid < ib))
  (HE : Aside0 (ia ≤ i ∧ i ≤ im ∧ i ≤ mid ∧ im ≤ e ∧ mid ≤ e ∧ e ≤ ib ∧ i + (e - im) = mid ∧ mid + (im - i) = e))
  (HX : Aside0 ((∀ x ∈ L.take (i - ia), ∀ y ∈ R.drop (e - im), k x ≤ k y) ∧ ∀ x ∈ L.drop (i - ia), ∀ y ∈ R.take (e - im), k y < k x))
  (HLN : Aside0 (ia + (L.take (i - ia)).length = i ∧ i + (R.take (e - im)).length = mid ∧ mid + (L.drop (i - ia)).length = e ∧ e + (R.drop (e - im)).length = ib))
  (HBN : Aside0 (e ≤ n ∧ mid ≤ n ∧ ib ≤ n ∧ o + n ≤ D.length ∧ n ≤ 1152921504606846975))
  (HIH : Aside0 (∀ (ia im ib : Nat) (P L R Q : List Int) (w : World), Arr XX w g (P ++ L ++ R ++ Q) → On (· = g) w0 w → P.length = o + ia → ia + L.length = im → im + R.length = ib → 0 < L.length → 0 < R.length → ib ≤ n → o + n ≤ (P ++ L ++ R ++ Q).length → Srt k L → Srt k R → L.length + R.length < N →
   Calls Try.prog 73 #[.slice (some ad) n c, .int .i64 (ia : Int), .int .i64 (im : Int), .int .i64 (ib : Int), .func (.func fc) #[] caps] w fun e w' => e = .returned (.tuple #[]) ∧ ∃ M, Arr XX w' g (P ++ M ++ Q) ∧ St k (L ++ R) M ∧ On (· = g) w w'))
  (Qx : Exit → Act → World → Prop) (HQ : Aside0 (∀ ts w', (∃ M, Arr XX w' g (P ++ M ++ Q) ∧ St k (L ++ R) M ∧ On (· = g) w w') → Qx .normal { tmps := ts, defers := [] } w'))
  (M1 : List Int) (wr : World) (HA2 : Aside0 (Arr XX wr g (P ++ M1 ++ ((L.drop (i - ia) ++ R.drop (e - im)) ++ Q)))) (HS2 : Aside0 (St k (L.take (i - ia) ++ R.take (e - im)) M1)) (HO2 : Aside0 (On (· = g) w wr))
  {u5 u6 u7 u8 u9 u10 u11 u12 u13 u14 u15 u16 u17 u19 u20 u21 u22 u23 u25 u26 u27 u28 u29 u30 u31 u32 u33 u34 u35 u36 u37 u38 u39 u40 u41 u42 u43 u44 u45 u46 u47 u48 u49 u50 u51 u52 u53 u54 u55 u56 u57 u58 u59 u60 u61 u62 u63 u64 u65 u66 u67 u68 u69 u70 u71 u72 u73 u74 u75 u76 u77 u78 u79 u80 u81 u82 u83 u84 u85 u86 u87 u88 u89 u90 u91 u92 u93 u94 u95 u96 u97 u98 u99 u100 u101 u102 u103 u104 u105 u106 u107 u108 u109 u110 u111 u112 u113 u114 u115 u116 u117 u118 u119 u120 u121 u122 u123 u124 u125 u126 u127 u128 u129 u130 u131 u132 u133 u134 u135 u136 u137 u138 u139 u140 u141 u142 u143 u144 u145 u146 u147 u148 u149 u150 u151 u152 u153 u154 u155 u156 u157 u158 u159 u160 u161 u162 u163 u164 u165 u166 u167 u168 u169 u170 u171 u172 u173 u174 u175 u176 u177 u178 u179 u180 u181 u182 u183 u184 u185 u186 u187 u188 u189 u190 u191 u192 u193 u194 u195 u196 u197 u198 u199 u200 u201 u202 u203 u204 u205 u206 u207 u208 u209 u210 u211 u212 u213 u214 u215 u216 u217 u218 u219 : Value} :
  Code.wp Try.prog (sR (sR (sR (sR (sR (sR (sR (sR (sR (sR (sR (Try.f73.body.getD .skip)))))))))))) Qx { tmps := #[.slice (some ad) n c, .int .i64 (ia : Int), .int .i64 (im : Int), .int .i64 (ib : Int), .func (.func fc) #[] caps, u5, u6, u7, u8, u9, u10, u11, u12, u13, u14, u15, u16, u17, .int .i64 (mid : Int), u19, u20, u21, u22, u23, .int .i64 (e : Int), u25, u26, u27, u28, u29, u30, u31, u32, u33, u34, u35, u36, u37, u38, u39, u40, u41, u42, u43, u44, u45, u46, u47, u48, u49, u50, u51, u52, u53, u54, u55, u56, u57, u58, u59, u60, u61, u62, u63, u64, u65, u66, u67, u68, u69, u70, u71, u72, u73, u74, u75, u76, u77, u78, u79, u80, u81, u82, u83, u84, u85, u86, u87, u88, u89, u90, u91, u92, u93, u94, u95, u96, u97, u98, u99, u100, u101, u102, u103, u104, u105, u106, u107, u108, u109, u110, u111, u112, u113, u114, u115, u116, u117, u118, u119, u120, u121, u122, u123, u124, u125, u126, u127, u128, u129, u130, u131, u132, u133, u134, u135, u136, u137, u138, u139, u140, u141, u142, u143, u144, u145, u146, u147, u148, u149, u150, u151, u152, u153, u154, u155, u156, u157, u158, u159, u160, u161, u162, u163, u164, u165, u166, u167, u168, u169, u170, u171, u172, u173, u174, u175, u176, u177, u178, u179, u180, u181, u182, u183, u184, u185, u186, u187, u188, u189, u190, u191, u192, u193, u194, u195, u196, u197, u198, u199, u200, u201, u202, u203, u204, u205, u206, u207, u208, u209, u210, u211, u212, u213, u214, u215, u216, u217, u218, u219], defers := [] } wr := by
 simp only [Try.f73, Option.getD_some, sR]
 by_cases h5 : mid < e
 ·
  have t_mid_e : ((mid : Int) < (e : Int)) = True := eq_true (Int.ofNat_lt.2 h5)
  have n_mid_e : (mid < e) = True := eq_true h5
  by_cases h6 : e < ib
  ·
   have t_e_ib : ((e : Int) < (ib : Int)) = True := eq_true (Int.ofNat_lt.2 h6)
   have n_e_ib : (e < ib) = True := eq_true h6
   go_wp2_with fail
   all_goals
    refine (HIH.out mid e ib (P ++ M1) (L.drop (i - ia)) (R.drop (e - im)) Q _ (by have h := HA2.out; simpa only [List.append_assoc] using h) (HW0.out.trans HO2.out) (by rw [List.length_append, HS2.out.len, List.length_append]; have := HLN.out; have := HB.out; omega) HLN.out.2.2.1 HLN.out.2.2.2 (by have := HLN.out; omega) (by have := HLN.out; omega) HBN.out.2.2.1 (by have h := HBN.out.2.2.2.1; rw [HD.out] at h; have h8 := HS2.out.len; simp only [List.length_append] at h h8 ⊢; have := HLN.out; have := HB.out; omega) (srt_drop HS.out.1 _) (srt_drop HS.out.2 _) (by have := HLN.out; have := HB.out; have := HMI.out; omega)).mono ?_
    rintro e' w3 ⟨rfl, M2, hA3, hS3, ho3⟩
    have HA3 := Aside0.mk hA3
    have HS3 := Aside0.mk hS3
    have HO3 := Aside0.mk (HO2.out.trans ho3)
    clear hA3 hS3 ho3 HA2 HO2
    go_wp2
    exact HQ.out _ _ ⟨_, by have h := HA3.out; rw [List.append_assoc P] at h; exact h, St.cross HS.out.1 HS.out.2 HX.out.1 HX.out.2 HS2.out HS3.out, HO3.out⟩
  ·
   have t_e_ib : ((e : Int) < (ib : Int)) = False := eq_false (fun q => h6 (Int.ofNat_lt.1 q))
   have n_e_ib : (e < ib) = False := eq_false h6
   go_wp2_with fail
   exact HQ.out _ _ ⟨_, by have h := HA2.out; rw [← List.append_assoc _ _ Q, List.append_assoc P] at h; exact h, St.cross HS.out.1 HS.out.2 HX.out.1 HX.out.2 HS2.out (St.refl (srt_nil_right (by have := HLN.out; omega) (srt_drop HS.out.1 _))), HO2.out⟩
 ·
  have t_mid_e : ((mid : Int) < (e : Int)) = False := eq_false (fun q => h5 (Int.ofNat_lt.1 q))
  have n_mid_e : (mid < e) = False := eq_false h5
  go_wp2_with fail
  exact HQ.out _ _ ⟨_, by have h := HA2.out; rw [← List.append_assoc _ _ Q, List.append_assoc P] at h; exact h, St.cross HS.out.1 HS.out.2 HX.out.1 HX.out.2 HS2.out (St.refl (srt_nil_left (by have := HLN.out; omega) (srt_drop HS.out.2 _))), HO2.out⟩
set_option maxHeartbeats 4000000 in
set_option maxRecDepth 100000 in
theorem tail2 (XX : List Value) (g o n c : Nat) (ad : Addr) (fc : Nat) (caps : Array Value) (k : Int → Int) (w0 w : World) (ia im ib : Nat) (P L R Q : List Int) (N mid nn i e : Nat) (D : List Int)
  (HAD : Aside0 (ad = ⟨g, o, none⟩)) (HD : Aside0 (D = P ++ L ++ R ++ Q)) (HW0 : Aside0 (On (· = g) w0 w))
  (HB : Aside0 (P.length = o + ia ∧ ia + L.length = im ∧ im + R.length = ib ∧ ib ≤ n ∧ o + n ≤ D.length ∧ n ≤ 1152921504606846975 ∧ 1 < L.length ∧ 1 < R.length ∧ L.length + R.length = N))
  (HS : Aside0 (Srt k L ∧ Srt k R)) (HMI : Aside0 (ia < mid ∧ mid < ib))
  (HE : Aside0 (ia ≤ i ∧ i ≤ im ∧ i ≤ mid ∧ im ≤ e ∧ mid ≤ e ∧ e ≤ ib ∧ i + (e - im) = mid ∧ mid + (im - i) = e))
  (HX : Aside0 ((∀ x ∈ L.take (i - ia), ∀ y ∈ R.drop (e - im), k x ≤ k y) ∧ ∀ x ∈ L.drop (i - ia), ∀ y ∈ R.take (e - im), k y < k x))
  (HLN : Aside0 (ia + (L.take (i - ia)).length = i ∧ i + (R.take (e - im)).length = mid ∧ mid + (L.drop (i - ia)).length = e ∧ e + (R.drop (e - im)).length = ib))
  (HBN : Aside0 (e ≤ n ∧ mid ≤ n ∧ ib ≤ n ∧ o + n ≤ D.length ∧ n ≤ 1152921504606846975))
  (HIH : Aside0 (∀ (ia im ib : Nat) (P L R Q : List Int) (w : World), Arr XX w g (P ++ L ++ R ++ Q) → On (· = g) w0 w → P.length = o + ia → ia + L.length = im → im + R.length = ib → 0 < L.length → 0 < R.length → ib ≤ n → o + n ≤ (P ++ L ++ R ++ Q).length → Srt k L → Srt k R → L.length + R.length < N →
   Calls Try.prog 73 #[.slice (some ad) n c, .int .i64 (ia : Int), .int .i64 (im : Int), .int .i64 (ib : Int), .func (.func fc) #[] caps] w fun e w' => e = .returned (.tuple #[]) ∧ ∃ M, Arr XX w' g (P ++ M ++ Q) ∧ St k (L ++ R) M ∧ On (· = g) w w'))
  (Qx : Exit → Act → World → Prop) (HQ : Aside0 (∀ ts w', (∃ M, Arr XX w' g (P ++ M ++ Q) ∧ St k (L ++ R) M ∧ On (· = g) w w') → Qx .normal { tmps := ts, defers := [] } w'))
  (wr : World) (HA1 : Aside0 (Arr XX wr g (P ++ (L.take (i - ia) ++ R.take (e - im)) ++ (L.drop (i - ia) ++ R.drop (e - im)) ++ Q))) (HO1 : Aside0 (On (· = g) w wr))
  {u5 u6 u7 u8 u9 u10 u11 u12 u13 u14 u15 u16 u17 u19 u21 u22 u23 u25 u26 u27 u28 u29 u30 u31 u32 u33 u34 u35 u36 u37 u38 u39 u40 u41 u42 u43 u44 u45 u46 u47 u48 u49 u50 u51 u52 u53 u54 u55 u56 u57 u58 u59 u60 u61 u62 u63 u64 u65 u66 u67 u68 u69 u70 u71 u72 u73 u74 u75 u76 u77 u78 u79 u80 u81 u82 u83 u84 u85 u86 u87 u88 u89 u90 u91 u92 u93 u94 u95 u96 u97 u98 u99 u100 u101 u102 u103 u104 u105 u106 u107 u108 u109 u110 u111 u112 u113 u114 u115 u116 u117 u118 u119 u120 u121 u122 u123 u124 u125 u126 u127 u128 u129 u130 u131 u132 u133 u134 u135 u136 u137 u138 u139 u140 u141 u142 u143 u144 u145 u146 u147 u148 u149 u150 u151 u152 u153 u154 u155 u156 u157 u158 u159 u160 u161 u162 u163 u164 u165 u166 u167 u168 u169 u170 u171 u172 u173 u174 u175 u176 u177 u178 u179 u180 u181 u182 u183 u184 u185 u186 u187 u188 u189 u190 u191 u192 u193 u194 u195 u196 u197 u198 u199 u200 u201 u202 u203 u204 u205 u206 u207 u208 u209 u210 u211 u212 u213 u214 u215 u216 u217 u218 u219 : Value} :
  Code.wp Try.prog (sR (sR (sR (sR (sR (sR (sR (sR (sR (sR (Try.f73.body.getD .skip))))))))))) Qx { tmps := #[.slice (some ad) n c, .int .i64 (ia : Int), .int .i64 (im : Int), .int .i64 (ib : Int), .func (.func fc) #[] caps, u5, u6, u7, u8, u9, u10, u11, u12, u13, u14, u15, u16, u17, .int .i64 (mid : Int), u19, .int .i64 (i : Int), u21, u22, u23, .int .i64 (e : Int), u25, u26, u27, u28, u29, u30, u31, u32, u33, u34, u35, u36, u37, u38, u39, u40, u41, u42, u43, u44, u45, u46, u47, u48, u49, u50, u51, u52, u53, u54, u55, u56, u57, u58, u59, u60, u61, u62, u63, u64, u65, u66, u67, u68, u69, u70, u71, u72, u73, u74, u75, u76, u77, u78, u79, u80, u81, u82, u83, u84, u85, u86, u87, u88, u89, u90, u91, u92, u93, u94, u95, u96, u97, u98, u99, u100, u101, u102, u103, u104, u105, u106, u107, u108, u109, u110, u111, u112, u113, u114, u115, u116, u117, u118, u119, u120, u121, u122, u123, u124, u125, u126, u127, u128, u129, u130, u131, u132, u133, u134, u135, u136, u137, u138, u139, u140, u141, u142, u143, u144, u145, u146, u147, u148, u149, u150, u151, u152, u153, u154, u155, u156, u157, u158, u159, u160, u161, u162, u163, u164, u165, u166, u167, u168, u169, u170, u171, u172, u173, u174, u175, u176, u177, u178, u179, u180, u181, u182, u183, u184, u185, u186, u187, u188, u189, u190, u191, u192, u193, u194, u195, u196, u197, u198, u199, u200, u201, u202, u203, u204, u205, u206, u207, u208, u209, u210, u211, u212, u213, u214, u215, u216, u217, u218, u219], defers := [] } wr := by
 simp only [Try.f73, Option.getD_some, sR]
 refine wp_seq_k ?_
 intro KL hKL
 have HKL := Aside0.mk hKL
 clear hKL
 by_cases h3 : ia < i
 ·
  have t_ia_i : ((ia : Int) < (i : Int)) = True := eq_true (Int.ofNat_lt.2 h3)
  have n_ia_i : (ia < i) = True := eq_true h3
  by_cases h4 : i < mid
  ·
   have t_i_mid : ((i : Int) < (mid : Int)) = True := eq_true (Int.ofNat_lt.2 h4)
   have n_i_mid : (i < mid) = True := eq_true h4
   go_wp2_with fail
   all_goals
    refine (HIH.out ia i mid P (L.take (i - ia)) (R.take (e - im)) ((L.drop (i - ia) ++ R.drop (e - im)) ++ Q) _ (by have h := HA1.out; simpa only [List.append_assoc] using h) (HW0.out.trans HO1.out) HB.out.1 HLN.out.1 HLN.out.2.1 (by have := HLN.out; omega) (by have := HLN.out; omega) HBN.out.2.1 (by have h := HBN.out.2.2.2.1; rw [HD.out] at h; simp only [List.length_append] at h ⊢; have := HLN.out; have := HB.out; omega) (srt_take HS.out.1 _) (srt_take HS.out.2 _) (by have := HLN.out; have := HB.out; have := HMI.out; omega)).mono ?_
    rintro e' w2 ⟨rfl, M1, hA2, hS2, ho2⟩
    have HA2 := Aside0.mk hA2
    have HS2 := Aside0.mk hS2
    have HO2 := Aside0.mk (HO1.out.trans ho2)
    clear hA2 hS2 ho2 HA1 HO1
    go_wp2_with fail
    refine HKL.out _ _ ?_
    exact tail3 XX g o n c ad fc caps k w0 w ia im ib P L R Q N mid nn i e D HAD HD HW0 HB HS HMI HE HX HLN HBN HIH Qx HQ M1 _ HA2 HS2 HO2
  ·
   have t_i_mid : ((i : Int) < (mid : Int)) = False := eq_false (fun q => h4 (Int.ofNat_lt.1 q))
   have n_i_mid : (i < mid) = False := eq_false h4
   obtain ⟨M1, hM1⟩ : ∃ M1, M1 = (L.take (i - ia) ++ R.take (e - im)) := ⟨_, rfl⟩
   have HS2 : Aside0 (St k (L.take (i - ia) ++ R.take (e - im)) M1) := ⟨by rw [hM1]; exact St.refl (srt_nil_right (by have := HLN.out; omega) (srt_take HS.out.1 _))⟩
   have HA2 : Aside0 (Arr XX wr g (P ++ M1 ++ ((L.drop (i - ia) ++ R.drop (e - im)) ++ Q))) := ⟨by rw [hM1]; have h := HA1.out; simpa only [List.append_assoc] using h⟩
   have HO2 := HO1
   clear HA1 HO1 hM1
   go_wp2_with fail
   refine HKL.out _ _ ?_
   exact tail3 XX g o n c ad fc caps k w0 w ia im ib P L R Q N mid nn i e D HAD HD HW0 HB HS HMI HE HX HLN HBN HIH Qx HQ M1 _ HA2 HS2 HO2
 ·
  have t_ia_i : ((ia : Int) < (i : Int)) = False := eq_false (fun q => h3 (Int.ofNat_lt.1 q))
  have n_ia_i : (ia < i) = False := eq_false h3
  obtain ⟨M1, hM1⟩ : ∃ M1, M1 = (L.take (i - ia) ++ R.take (e - im)) := ⟨_, rfl⟩
  have HS2 : Aside0 (St k (L.take (i - ia) ++ R.take (e - im)) M1) := ⟨by rw [hM1]; exact St.refl (srt_nil_left (by have := HLN.out; omega) (srt_take HS.out.2 _))⟩
  have HA2 : Aside0 (Arr XX wr g (P ++ M1 ++ ((L.drop (i - ia) ++ R.drop (e - im)) ++ Q))) := ⟨by rw [hM1]; have h := HA1.out; simpa only [List.append_assoc] using h⟩
  have HO2 := HO1
  clear HA1 HO1 hM1
  go_wp2_with fail
  refine HKL.out _ _ ?_
  exact tail3 XX g o n c ad fc caps k w0 w ia im ib P L R Q N mid nn i e D HAD HD HW0 HB HS HMI HE HX HLN HBN HIH Qx HQ M1 _ HA2 HS2 HO2
set_option maxHeartbeats 4000000 in
set_option maxRecDepth 100000 in
theorem tail1 (XX : List Value) (g o n c : Nat) (ad : Addr) (fc : Nat) (caps : Array Value) (k : Int → Int) (w0 w : World) (ia im ib : Nat) (P L R Q : List Int) (N mid nn i e : Nat) (D : List Int)
  (HAD : Aside0 (ad = ⟨g, o, none⟩)) (HD : Aside0 (D = P ++ L ++ R ++ Q)) (HW0 : Aside0 (On (· = g) w0 w))
  (HB : Aside0 (P.length = o + ia ∧ ia + L.length = im ∧ im + R.length = ib ∧ ib ≤ n ∧ o + n ≤ D.length ∧ n ≤ 1152921504606846975 ∧ 1 < L.length ∧ 1 < R.length ∧ L.length + R.length = N))
  (HS : Aside0 (Srt k L ∧ Srt k R)) (HMI : Aside0 (ia < mid ∧ mid < ib))
  (HE : Aside0 (ia ≤ i ∧ i ≤ im ∧ i ≤ mid ∧ im ≤ e ∧ mid ≤ e ∧ e ≤ ib ∧ i + (e - im) = mid ∧ mid + (im - i) = e))
  (HX : Aside0 ((∀ x ∈ L.take (i - ia), ∀ y ∈ R.drop (e - im), k x ≤ k y) ∧ ∀ x ∈ L.drop (i - ia), ∀ y ∈ R.take (e - im), k y < k x))
  (HLN : Aside0 (ia + (L.take (i - ia)).length = i ∧ i + (R.take (e - im)).length = mid ∧ mid + (L.drop (i - ia)).length = e ∧ e + (R.drop (e - im)).length = ib))
  (HBN : Aside0 (e ≤ n ∧ mid ≤ n ∧ ib ≤ n ∧ o + n ≤ D.length ∧ n ≤ 1152921504606846975))
  (HIH : Aside0 (∀ (ia im ib : Nat) (P L R Q : List Int) (w : World), Arr XX w g (P ++ L ++ R ++ Q) → On (· = g) w0 w → P.length = o + ia → ia + L.length = im → im + R.length = ib → 0 < L.length → 0 < R.length → ib ≤ n → o + n ≤ (P ++ L ++ R ++ Q).length → Srt k L → Srt k R → L.length + R.length < N →
   Calls Try.prog 73 #[.slice (some ad) n c, .int .i64 (ia : Int), .int .i64 (im : Int), .int .i64 (ib : Int), .func (.func fc) #[] caps] w fun e w' => e = .returned (.tuple #[]) ∧ ∃ M, Arr XX w' g (P ++ M ++ Q) ∧ St k (L ++ R) M ∧ On (· = g) w w'))
  (Qx : Exit → Act → World → Prop) (HQ : Aside0 (∀ ts w', (∃ M, Arr XX w' g (P ++ M ++ Q) ∧ St k (L ++ R) M ∧ On (· = g) w w') → Qx .normal { tmps := ts, defers := [] } w'))
  (HEW : Aside0 (wrap64 ((nn : Int) - (i : Int)) = (e : Int))) (wr : World) (HAJ : Aside0 (Arr XX wr g D)) (HOJ : Aside0 (On (· = g) w wr))
  {u5 u6 u7 u8 u9 u10 u11 u12 u13 u14 u15 u16 u17 u21 u22 u23 u24 u25 u26 u27 u28 u29 u30 u31 u32 u33 u34 u35 u36 u37 u38 u39 u40 u41 u42 u43 u44 u45 u46 u47 u48 u49 u50 u51 u52 u53 u54 u55 u56 u57 u58 u59 u60 u61 u62 u63 u64 u65 u66 u67 u68 u69 u70 u71 u72 u73 u74 u75 u76 u77 u78 u79 u80 u81 u82 u83 u84 u85 u86 u87 u88 u89 u90 u91 u92 u93 u94 u95 u96 u97 u98 u99 u100 u101 u102 u103 u104 u105 u106 u107 u108 u109 u110 u111 u112 u113 u114 u115 u116 u117 u118 u119 u120 u121 u122 u123 u124 u125 u126 u127 u128 u129 u130 u131 u132 u133 u134 u135 u136 u137 u138 u139 u140 u141 u142 u143 u144 u145 u146 u147 u148 u149 u150 u151 u152 u153 u154 u155 u156 u157 u158 u159 u160 u161 u162 u163 u164 u165 u166 u167 u168 u169 u170 u171 u172 u173 u174 u175 u176 u177 u178 u179 u180 u181 u182 u183 u184 u185 u186 u187 u188 u189 u190 u191 u192 u193 u194 u195 u196 u197 u198 u199 u200 u201 u202 u203 u204 u205 u206 u207 u208 u209 u210 u211 u212 u213 u214 u215 u216 u217 u218 u219 : Value} :
  Code.wp Try.prog (sR (sR (sR (sR (sR (sR (sR (sR (Try.f73.body.getD .skip))))))))) Qx { tmps := #[.slice (some ad) n c, .int .i64 (ia : Int), .int .i64 (im : Int), .int .i64 (ib : Int), .func (.func fc) #[] caps, u5, u6, u7, u8, u9, u10, u11, u12, u13, u14, u15, u16, u17, .int .i64 (mid : Int), .int .i64 (nn : Int), .int .i64 (i : Int), u21, u22, u23, u24, u25, u26, u27, u28, u29, u30, u31, u32, u33, u34, u35, u36, u37, u38, u39, u40, u41, u42, u43, u44, u45, u46, u47, u48, u49, u50, u51, u52, u53, u54, u55, u56, u57, u58, u59, u60, u61, u62, u63, u64, u65, u66, u67, u68, u69, u70, u71, u72, u73, u74, u75, u76, u77, u78, u79, u80, u81, u82, u83, u84, u85, u86, u87, u88, u89, u90, u91, u92, u93, u94, u95, u96, u97, u98, u99, u100, u101, u102, u103, u104, u105, u106, u107, u108, u109, u110, u111, u112, u113, u114, u115, u116, u117, u118, u119, u120, u121, u122, u123, u124, u125, u126, u127, u128, u129, u130, u131, u132, u133, u134, u135, u136, u137, u138, u139, u140, u141, u142, u143, u144, u145, u146, u147, u148, u149, u150, u151, u152, u153, u154, u155, u156, u157, u158, u159, u160, u161, u162, u163, u164, u165, u166, u167, u168, u169, u170, u171, u172, u173, u174, u175, u176, u177, u178, u179, u180, u181, u182, u183, u184, u185, u186, u187, u188, u189, u190, u191, u192, u193, u194, u195, u196, u197, u198, u199, u200, u201, u202, u203, u204, u205, u206, u207, u208, u209, u210, u211, u212, u213, u214, u215, u216, u217, u218, u219], defers := [] } wr := by
 simp only [Try.f73, Option.getD_some, sR]
 refine wp_seq_k ?_
 intro KM hKM
 have HKM := Aside0.mk hKM
 clear hKM
 go_wp2_with fail
 try rw [HEW.out]
 refine HKM.out _ _ ?_
 refine wp_seq_k ?_
 intro KL hKL
 have HKL := Aside0.mk hKL
 clear hKL
 by_cases h1 : i < im
 ·
  have t_i_im : ((i : Int) < (im : Int)) = True := eq_true (Int.ofNat_lt.2 h1)
  have n_i_im : (i < im) = True := eq_true h1
  by_cases h2 : im < e
  ·
   have t_im_e : ((im : Int) < (e : Int)) = True := eq_true (Int.ofNat_lt.2 h2)
   have n_im_e : (im < e) = True := eq_true h2
   go_wp2_with fail
   all_goals
    refine (rotate_calls XX g o n c ad HAD.out (.func (.func fc) #[] caps) i im e D (P ++ (L.take (i - ia) ++ R.take (e - im)) ++ (L.drop (i - ia) ++ R.drop (e - im)) ++ Q) wr HAJ.out (by have h := gen_rot P L R Q i e ia im o HB.out.1 HB.out.2.1 HE.out.1 HE.out.2.1 HE.out.2.2.2.1 (by have := HE.out; have := HB.out; omega); rw [HD.out]; exact h) h1 h2 HBN.out.1 HBN.out.2.2.2.1 HBN.out.2.2.2.2).mono ?_
    rintro e' w1 ⟨rfl, hA1, ho1⟩
    have HA1 := Aside0.mk hA1
    have HO1 := Aside0.mk (HOJ.out.trans ho1)
    clear hA1 ho1 HAJ HOJ
    go_wp2_with fail
    refine HKL.out _ _ ?_
    exact tail2 XX g o n c ad fc caps k w0 w ia im ib P L R Q N mid nn i e D HAD HD HW0 HB HS HMI HE HX HLN HBN HIH Qx HQ _ HA1 HO1
  ·
   have t_im_e : ((im : Int) < (e : Int)) = False := eq_false (fun q => h2 (Int.ofNat_lt.1 q))
   have n_im_e : (im < e) = False := eq_false h2
   have HA1 : Aside0 (Arr XX wr g (P ++ (L.take (i - ia) ++ R.take (e - im)) ++ (L.drop (i - ia) ++ R.drop (e - im)) ++ Q)) := ⟨by rw [gen_same P L R Q i e ia im HB.out.2.1 HE.out.2.2.2.1 (by omega), ← HD.out]; exact HAJ.out⟩
   have HO1 := HOJ
   clear HAJ HOJ
   go_wp2_with fail
   refine HKL.out _ _ ?_
   exact tail2 XX g o n c ad fc caps k w0 w ia im ib P L R Q N mid nn i e D HAD HD HW0 HB HS HMI HE HX HLN HBN HIH Qx HQ _ HA1 HO1
 ·
  have t_i_im : ((i : Int) < (im : Int)) = False := eq_false (fun q => h1 (Int.ofNat_lt.1 q))
  have n_i_im : (i < im) = False := eq_false h1
  have HA1 : Aside0 (Arr XX wr g (P ++ (L.take (i - ia) ++ R.take (e - im)) ++ (L.drop (i - ia) ++ R.drop (e - im)) ++ Q)) := ⟨by rw [gen_same P L R Q i e ia im HB.out.2.1 HE.out.2.2.2.1 (by omega), ← HD.out]; exact HAJ.out⟩
  have HO1 := HOJ
  clear HAJ HOJ
  go_wp2_with fail
  refine HKL.out _ _ ?_
  exact tail2 XX g o n c ad fc caps k w0 w ia im ib P L R Q N mid nn i e D HAD HD HW0 HB HS HMI HE HX HLN HBN HIH Qx HQ _ HA1 HO1
end Go.Proofs.YtfagobhhhljajaaW.PrintSort
/- The stable sort of package slices, the merge (gensort.py). No condition. -/
namespace Go.Proofs.YtfagobhhhljajaaW.PrintSort
open Go Go.RowKit Go.Proofs.YtfagobhhhljajaaW.PrintWords Go.Proofs.YtfagobhhhljajaaW.PrintLast Go.Proofs.YtfagobhhhljajaaW.PrintMore Go.Proofs.YtfagobhhhljajaaW.PrintReg Go.Proofs.YtfagobhhhljajaaW.PrintTree
set_option linter.unusedVariables false
set_option linter.unusedSimpArgs false
set_option maxHeartbeats 4000000 in
set_option maxRecDepth 100000 in
theorem symgen1_calls (XX : List Value) (g o n c : Nat) (ad : Addr) (had : ad = ⟨g, o, none⟩) (fc : Nat) (caps : Array Value) (hfc : ∀ args W, (callFunc fc args).run Try.prog W = .ok (.enter fc args) W) (cmpf : Int → Int → Int) (k : Int → Int) (hk : ∀ x y, cmpf x y < 0 ↔ k x < k y) (w0 : World) (HC : ∀ (x y : Int) (W : World), On (· = g) w0 W → Calls Try.prog fc (#[.int .i32 x, .int .i32 y] ++ caps) W fun e w' => e = .returned (.int .i64 (cmpf x y)) ∧ Below W.heap.size W w')
  (ia im ib : Nat) (P L R Q : List Int) (w : World) (hA : Arr XX w g (P ++ L ++ R ++ Q)) (hw0 : On (· = g) w0 w) (hP : P.length = o + ia) (hL : ia + L.length = im) (hR : im + R.length = ib) (hl2 : 1 < L.length) (hr2 : 1 < R.length) (hS1 : Srt k L) (hS2 : Srt k R) (N : Nat) (hsz : L.length + R.length = N) (hmm0 : (ia + ib) / 2 < im) (IH : ∀ (ia im ib : Nat) (P L R Q : List Int) (w : World), Arr XX w g (P ++ L ++ R ++ Q) → On (· = g) w0 w → P.length = o + ia → ia + L.length = im → im + R.length = ib → 0 < L.length → 0 < R.length → ib ≤ n → o + n ≤ (P ++ L ++ R ++ Q).length → Srt k L → Srt k R → L.length + R.length < N →
   Calls Try.prog 73 #[.slice (some ad) n c, .int .i64 (ia : Int), .int .i64 (im : Int), .int .i64 (ib : Int), .func (.func fc) #[] caps] w fun e w' => e = .returned (.tuple #[]) ∧ ∃ M, Arr XX w' g (P ++ M ++ Q) ∧ St k (L ++ R) M ∧ On (· = g) w w') (hb : ib ≤ n) (hn : o + n ≤ (P ++ L ++ R ++ Q).length) (hN : n ≤ 1152921504606846975) :
  Calls Try.prog 73 #[.slice (some ad) n c, .int .i64 (ia : Int), .int .i64 (im : Int), .int .i64 (ib : Int), .func (.func fc) #[] caps] w fun e w' => e = .returned (.tuple #[]) ∧ ∃ M, Arr XX w' g (P ++ M ++ Q) ∧ St k (L ++ R) M ∧ On (· = g) w w' := by
 obtain ⟨D, hD⟩ : ∃ D, D = P ++ L ++ R ++ Q := ⟨_, rfl⟩
 rw [← hD] at hA hn
 have HA := Aside0.mk hA
 have HD := Aside0.mk hD
 have HAD := Aside0.mk had
 have HCC := Aside0.mk HC
 have HK := Aside0.mk hk
 have HW0 := Aside0.mk hw0
 have HB := Aside0.mk (And.intro hP (And.intro hL (And.intro hR (And.intro hb (And.intro hn (And.intro hN (And.intro hl2 (And.intro hr2 hsz))))))))
 have HS := Aside0.mk (And.intro hS1 hS2)
 have HIH := Aside0.mk IH
 obtain ⟨l, hl⟩ : ∃ l, l = L.length := ⟨_, rfl⟩
 obtain ⟨r, hr⟩ : ∃ r, r = R.length := ⟨_, rfl⟩
 rw [← hl] at hL hl2
 rw [← hr] at hR hr2
 obtain ⟨s0, mid, nn, p, e1, e2, e3, e4, e5, e6, e7, e8⟩ := gen_places ia im ib l r hL hR hl2 hr2
 have HM : Aside0 (mid = (ia + ib) / 2 ∧ nn = mid + im ∧ p + 1 = nn ∧ ia < mid ∧ mid < ib ∧ nn ≤ ib + ib) := ⟨⟨e5, e3, e4, e6, e7, e8⟩⟩
 have b1 : im ≤ 4611686018427387904 := by omega
 have b2 : ib ≤ 4611686018427387904 := by omega
 have b3 : nn ≤ 4611686018427387904 := by omega
 have b4 : s0 ≤ 4611686018427387904 := by omega
 have hmm : mid < im := by rw [e5]; exact hmm0
 have h9 := gen_lo1 ia im ib l r mid nn hL hR hl2 hr2 e5 e3 hmm
 obtain ⟨lo, hlo⟩ : ∃ lo : Nat, lo = nn - ib := ⟨_, rfl⟩
 obtain ⟨hi, hhi⟩ : ∃ hi : Nat, hi = mid := ⟨_, rfl⟩
 have h10 := h9.2.2.2.2.2.2
 have b5 : ib + lo = nn := by omega
 have g1 : ((mid : Int) < (im : Int)) = True := eq_true (by omega)
 have hlw := w_sub nn ib lo b5 b3
 have HLW := Aside0.mk hlw
 have HLE : Aside0 ((nn : Int) - (ib : Int) = (lo : Int)) := ⟨by rw [← b5]; exact nat_sub_cast ib lo⟩
 have h9 : _ ∧ _ ∧ _ ∧ _ ∧ _ ∧ _ := ⟨h9.1, h9.2.1, h9.2.2.1, h9.2.2.2.1, h9.2.2.2.2.1, h9.2.2.2.2.2.1⟩
 have HLO : Aside0 (((mid < im ∧ lo = nn - ib ∧ hi = mid) ∨ (¬ mid < im ∧ lo = ia ∧ hi = im)) ∧ ia ≤ lo ∧ lo ≤ hi ∧ hi ≤ im ∧ hi ≤ mid ∧ nn ≤ ib + lo ∧ im + hi ≤ nn) := ⟨by rw [← hlo] at h9; rw [hhi]; exact ⟨.inl ⟨hmm, hlo, rfl⟩, h9⟩⟩
 have HHI := Aside0.mk hhi
 have g1n : (mid < im) = True := eq_true hmm
 have hw1 := w_sub im ia l hL b1
 obtain ⟨c1, c1e, c1n⟩ := not_one l hl2
 have hw2 := w_sub ib im r hR b2
 obtain ⟨c2, c2e, c2n⟩ := not_one r hr2
 have hnw := w_add mid im nn e3.symm b3
 have HPW := Aside0.mk (w_pred nn p e4 b3)
 have hsw := w_add ia ib s0 e1.symm b4
 have hmd := w_half s0 mid e2
 have hsm := w_mod s0 b4
 clear hmm0 hmm hlo hhi h9 h10 b1 b2 b3 b4 b5 hA hD had HC hk hw0 hP hL hR hS1 hS2 hb hn hN hl2 hr2 hl hr hsz IH e1 e2 e3 e4 e5 e6 e7 e8
 go_enter Try.func73, Try.ntmps73
 refine wp_seq_k ?_
 intro K1 hK1
 have HK1 := Aside0.mk hK1
 clear hK1
 go_wp2_with fail
 refine HK1.out _ _ ?_
 clear HK1
 refine wp_seq_k ?_
 intro K1 hK1
 have HK1 := Aside0.mk hK1
 clear hK1
 go_wp2_with fail
 refine HK1.out _ _ ?_
 clear HK1
 refine wp_seq_k ?_
 intro K1 hK1
 have HK1 := Aside0.mk hK1
 clear hK1
 go_wp2_with fail
 refine HK1.out _ _ ?_
 clear HK1
 refine wp_seq_k ?_
 intro K1 hK1
 have HK1 := Aside0.mk hK1
 clear hK1
 go_wp2_with fail
 refine HK1.out _ _ ?_
 clear HK1
 refine wp_seq_k ?_
 intro K1 hK1
 have HK1 := Aside0.mk hK1
 clear hK1
 go_wp2_with fail
 refine HK1.out _ _ ?_
 clear HK1
 try rw [hnw]
 try rw [hsw]
 try rw [hw2]
 clear hw1 c1 c1e c1n hw2 c2 c2e c2n hnw hsw hmd hsm
 try clear h9
 go_wp2_with fail
 try rw [HPW.out]
 try rw [hlw]
 clear hlw
 clear g1 g1n
 rename_i KL hKL
 have HKL := Aside0.mk hKL
 clear hKL
 go_loopw [20, 21] (fun vi vj wr => ∃ i j : Nat, vi = .int .i64 (i : Int) ∧ vj = .int .i64 (j : Int) ∧ Aside0 (Bis (fun h => 0 ≤ cmpf (D.getD (o + (p - h)) 0) (D.getD (o + h) 0)) lo hi i j) ∧ Aside0 (Arr XX wr g D) ∧ Aside0 (On (· = g) w wr)) (fun vi vj _ => (intOf vj).toNat - (intOf vi).toNat)
 case atStart => exact ⟨lo, hi, rfl, by rw [HHI.out], ⟨Bis.start HLO.out.2.2.1⟩, HA, ⟨On.refl _ _⟩⟩
 case round =>
  obtain ⟨i, j, rfl, rfl, HBS, HAJ, HOJ⟩ := hrel
  have HIJ : Aside0 (lo ≤ i ∧ i ≤ j ∧ j ≤ hi) := ⟨HBS.out.1, HBS.out.2.1, HBS.out.2.2.1⟩
  have HJN : Aside0 (j ≤ n ∧ o + n ≤ D.length ∧ n ≤ 1152921504606846975) := ⟨by have := HB.out; have := HIJ.out; have := HLO.out.2; omega⟩
  by_cases hlt : i < j
  ·
   have hc1 : ((i : Int) < (j : Int)) = True := eq_true (by omega)
   have hc1n : (i < j) = True := eq_true hlt
   obtain ⟨s, hs⟩ : ∃ s : Nat, s = i + j := ⟨_, rfl⟩
   obtain ⟨h, hh⟩ : ∃ h : Nat, h = s / 2 := ⟨_, rfl⟩
   have hsw : wrap64 ((i : Int) + (j : Int)) = (s : Int) := by have := HJN.out; unfold wrap64; omega
   have hsm : (s : Int) % 18446744073709551616 = (s : Int) := by have := HJN.out; omega
   have HHD : Aside0 ((s : Int) / 2 = (h : Int)) := ⟨by omega⟩
   have HH : Aside0 (i ≤ h ∧ h < j) := ⟨by omega⟩
   have HHW : Aside0 (wrap64 ((h : Int) + 1) = ((h + 1 : Nat) : Int)) := ⟨by rw [← i64_w]; have := HJN.out; have := HH.out; exact w64n _ _ (by omega) (by omega)⟩
   have h0 : ((0 : Int) ≤ (h : Int)) = True := eq_true (by omega)
   have h1 : ((h : Int) < (n : Int)) = True := eq_true (by have := HJN.out; have := HH.out; omega)
   have h2 : (h < n) = True := eq_true (by have := HJN.out; have := HH.out; omega)
   obtain ⟨q, hq⟩ : ∃ q : Nat, q = p - h := ⟨_, rfl⟩
   have HQ : Aside0 (h + q = p ∧ q < n ∧ h < n ∧ q = p - h) := ⟨by have := HJN.out; have := HH.out; have := HB.out; have := HIJ.out; have := HM.out; have := HLO.out.2; omega⟩
   have HQW : Aside0 (IntKind.i64.wrap ((p : Int) - (h : Int)) = (q : Int)) := ⟨by rw [i64_w]; have h1 := HQ.out; have h2 := HM.out; have h3 := HB.out; exact w_sub p h q h1.1 (by clear hsw hsm; omega)⟩
   obtain ⟨x, hx⟩ : ∃ x, x = D.getD (o + q) 0 := ⟨_, rfl⟩
   obtain ⟨y, hy⟩ : ∃ y, y = D.getD (o + h) 0 := ⟨_, rfl⟩
   have HXY := Aside0.mk (And.intro hx hy)
   have HXB : Aside0 (o + q < D.length ∧ o + h < D.length) := ⟨by have := HJN.out; have := HQ.out; omega⟩
   have a0 : ((0 : Int) ≤ (q : Int)) = True := eq_true (by omega)
   have a1 : ((q : Int) < (n : Int)) = True := eq_true (by have := HQ.out; omega)
   have a2 : (q < n) = True := eq_true (by have := HQ.out; omega)
   clear hx hy hq
   clear hlt hs hh
   go_wp2_with fail
   rw [HHD.out]
   try rw [hsw]
   clear hsw hsm hc1 hc1n
   by_cases hc : cmpf x y < 0
   ·
    have HCT : Aside0 ((cmpf x y < 0) = True) := ⟨eq_true hc⟩
    clear hc
    refine wp_reg 14 rfl rfl (by kernel_rfl) (fun z => [.slice (some ad) n c, .int .i64 (ia : Int), .int .i64 (im : Int), .int .i64 (ib : Int), .func (.func fc) #[] caps, undef, undef, undef, undef, undef, undef, undef, undef, undef, undef, undef, undef, undef, .int .i64 (mid : Int), .int .i64 (nn : Int), .int .i64 (i : Int), .int .i64 (j : Int), .int .i64 (p : Int), .int .i64 (h : Int), undef, .int .i64 (im : Int), .int .i64 (ia : Int), .int .i64 (l : Int), .bool false, undef, undef, undef, undef, undef, undef, undef, undef, undef, undef, undef, undef, undef, undef, undef, undef, undef, undef, undef, undef, undef, undef, undef, undef, undef, undef, undef, undef, undef, undef, undef, undef, undef, undef, undef, undef, undef, undef, undef, undef, undef, undef, undef, undef, undef, undef, undef, undef, .int .i64 (ib : Int), .int .i64 (im : Int), .int .i64 (r : Int), .bool false, undef, undef, undef, undef, undef, undef, undef, undef, undef, undef, undef, undef, undef, undef, undef, undef, undef, undef, undef, undef, undef, undef, undef, undef, undef, undef, undef, undef, undef, undef, undef, undef, undef, undef, undef, undef, undef, undef, undef, undef, undef, undef, undef, undef, undef, undef, undef, undef, .int .i64 (ia : Int), .int .i64 (ib : Int), .int .i64 (s0 : Int), .int .u64 (s0 : Int), .int .u64 (mid : Int), .int .i64 (mid : Int), .int .i64 (mid : Int), .int .i64 (im : Int), .int .i64 (nn : Int), .int .i64 (im : Int), .int .i64 (mid : Int), .bool true, .int .i64 (nn : Int), .int .i64 (ib : Int), .int .i64 (lo : Int), .int .i64 (mid : Int), undef, undef, .int .i64 (nn : Int), .int .i64 (p : Int), .int .i64 (i : Int), .int .i64 (j : Int), .bool true, .int .i64 (i : Int), .int .i64 (j : Int), .int .i64 (s : Int), .int .u64 (s : Int), .int .u64 (h : Int), .int .i64 (h : Int), z 158, z 159, z 160, z 161, z 162, z 163, z 164, z 165, z 166, z 167, z 168, z 169, z 170, z 171, u172, u173, u174, undef, undef, undef, undef, undef, undef, undef, undef, undef, undef, undef, undef, undef, undef, undef, undef, undef, undef, undef, undef, undef, undef, undef, undef, undef, undef, undef, undef, undef, undef, undef, undef, undef, undef, undef, undef, undef, undef, undef, undef, undef, undef, undef, undef, undef]) (fun (gg : Unit) => [(0, 158, .func (.func fc) #[] caps), (1, 159, .slice (some ad) n c), (2, 160, .int .i64 (p : Int)), (3, 161, .int .i64 (h : Int)), (4, 162, .int .i64 (q : Int)), (5, 163, .pointer (some (ad.add q))), (6, 164, .int .i32 x), (7, 165, .slice (some ad) n c), (8, 166, .int .i64 (h : Int)), (9, 167, .pointer (some (ad.add h))), (10, 168, .int .i32 y), (11, 169, .int .i64 (cmpf x y)), (12, 170, .bool true), (13, 171, .bool false)]) (fun LL gg z wx => Aside0 (Below wr.heap.size wr wx)) () (zz [(158, u158), (159, u159), (160, u160), (161, u161), (162, u162), (163, u163), (164, u164), (165, u165), (166, u166), (167, u167), (168, u168), (169, u169), (170, u170), (171, u171)]) rfl rfl ⟨below_drew (Below.refl _ _)⟩ ?_ ?_
    ·
     refine Steps.cons ?_ (Steps.cons ?_ (Steps.cons ?_ (Steps.cons ?_ (Steps.cons ?_ (Steps.cons ?_ (Steps.cons ?_ (Steps.cons ?_ (Steps.cons ?_ (Steps.cons ?_ (Steps.cons ?_ (Steps.cons ?_ (Steps.cons ?_ (Steps.cons ?_ (Steps.nil))))))))))))))
     ·
      exact V0 0
     ·
      exact V0 1
     ·
      exact V0 2
     ·
      exact V0 3
     ·
      refine V2 4 2 3 (h := fun LL gg z wx hl hLk e2 e3 K hK => ?_)
      obtain ⟨hb⟩ := hl
      have hw := HQW.out
      dsimp only [FA]
      refine wantd (by rfl) ?_
      go_simp
      exact hK.out
     ·
      exact V2 5 1 4
     ·
      refine V1 6 5 (h := fun LL gg z wx hl hLk e5 K hK => ?_)
      obtain ⟨hb⟩ := hl
      have hq := HAJ.out.below hb.out
      have ck := hq.cell HAD.out q (by have := HXB.out; omega)
      rw [← HXY.out.1] at ck
      dsimp only [FA]
      refine wantd (by rfl) ?_
      go_simp
      exact hK.out
     ·
      exact V0 7
     ·
      exact V0 8
     ·
      exact V2 9 7 8
     ·
      refine V1 10 9 (h := fun LL gg z wx hl hLk e9 K hK => ?_)
      obtain ⟨hb⟩ := hl
      have hq := HAJ.out.below hb.out
      have ck := hq.cell HAD.out h (by have := HXB.out; omega)
      rw [← HXY.out.2] at ck
      dsimp only [FA]
      refine wantd (by rfl) ?_
      go_simp
      exact hK.out
     ·
      refine CD 11 (fun _ => rfl) (fun _ => rfl) fun LL gg z wx hl hLk hd hI K hK => ?_
      obtain ⟨hb⟩ := hl
      have e0 := hI.at 0 rfl (hd 0 rfl)
      have e6 := hI.at 6 rfl (hd 6 rfl)
      have e10 := hI.at 10 rfl (hd 10 rfl)
      dsimp only [FA]
      refine wantd (by rfl) ?_
      go_simp
      refine (HCC.out x y wx ((HW0.out.trans HOJ.out).trans (On.of_below hb.out))).mono ?_
      rintro e w' ⟨rfl, hb1⟩
      exact hK gg _ _ (sm3 e0 e6 e10) rfl rfl ⟨below_step hb.out hb1⟩
     ·
      refine V1 12 11 (h := fun LL gg z wx hl hLk e11 K hK => ?_)
      obtain ⟨hb⟩ := hl
      have hw := HCT.out
      dsimp only [FA]
      refine wantd (by rfl) ?_
      go_simp
      exact hK.out
     ·
      exact V1 13 12
    ·
     intro LL gg z wc hall hI hl
     obtain ⟨hb⟩ := hl
     have e13 := hI.at 13 rfl (hall 13 (by decide))
     dsimp only [FA] at ⊢
     rw [e13]
     have HBC := hb
     clear hI hb e13 hall
     have HAK := Aside0.mk (HAJ.out.below HBC.out)
     have HOK := Aside0.mk (HOJ.out.trans (On.of_below HBC.out))
     clear HAJ HOJ
     go_wp2_with fail
     first
      | (refine ⟨⟨i, h, rfl, rfl, ⟨HBS.out.down HH.out.1 HH.out.2 (by have h := of_eq_true HCT.out; rw [HXY.out.1, HXY.out.2, HQ.out.2.2.2] at h; exact Int.not_le.2 h)⟩, HAK, HOK⟩, ?_⟩; simp only [intOf]; have := HH.out; omega)
      | (refine ⟨?_, ?_⟩; · (refine ⟨_, _, _, _, _, _, _, _, _, _, _, _, _, _, _, _, _, _, _, _, _, _, _, _, _, _, _, _, _, _, _, _, _, _, _, _, _, _, _, _, _, _, _, _, _, _, _, _, _, _, _, _, _, _, _, _, _, _, _, _, _, _, _, _, _, _, _, _, _, _, _, _, _, _, _, _, _, _, _, _, _, _, _, _, _, _, _, _, _, _, _, _, _, _, _, _, _, _, _, ?_, rfl⟩; exact ⟨i, h, rfl, rfl, ⟨HBS.out.down HH.out.1 HH.out.2 (by have h := of_eq_true HCT.out; rw [HXY.out.1, HXY.out.2, HQ.out.2.2.2] at h; exact Int.not_le.2 h)⟩, HAK, HOK⟩); · (simp only [intOf]; have := HH.out; omega))
   ·
    have HCF : Aside0 ((cmpf x y < 0) = False) := ⟨eq_false hc⟩
    clear hc
    refine wp_reg 14 rfl rfl (by kernel_rfl) (fun z => [.slice (some ad) n c, .int .i64 (ia : Int), .int .i64 (im : Int), .int .i64 (ib : Int), .func (.func fc) #[] caps, undef, undef, undef, undef, undef, undef, undef, undef, undef, undef, undef, undef, undef, .int .i64 (mid : Int), .int .i64 (nn : Int), .int .i64 (i : Int), .int .i64 (j : Int), .int .i64 (p : Int), .int .i64 (h : Int), undef, .int .i64 (im : Int), .int .i64 (ia : Int), .int .i64 (l : Int), .bool false, undef, undef, undef, undef, undef, undef, undef, undef, undef, undef, undef, undef, undef, undef, undef, undef, undef, undef, undef, undef, undef, undef, undef, undef, undef, undef, undef, undef, undef, undef, undef, undef, undef, undef, undef, undef, undef, undef, undef, undef, undef, undef, undef, undef, undef, undef, undef, undef, .int .i64 (ib : Int), .int .i64 (im : Int), .int .i64 (r : Int), .bool false, undef, undef, undef, undef, undef, undef, undef, undef, undef, undef, undef, undef, undef, undef, undef, undef, undef, undef, undef, undef, undef, undef, undef, undef, undef, undef, undef, undef, undef, undef, undef, undef, undef, undef, undef, undef, undef, undef, undef, undef, undef, undef, undef, undef, undef, undef, undef, undef, .int .i64 (ia : Int), .int .i64 (ib : Int), .int .i64 (s0 : Int), .int .u64 (s0 : Int), .int .u64 (mid : Int), .int .i64 (mid : Int), .int .i64 (mid : Int), .int .i64 (im : Int), .int .i64 (nn : Int), .int .i64 (im : Int), .int .i64 (mid : Int), .bool true, .int .i64 (nn : Int), .int .i64 (ib : Int), .int .i64 (lo : Int), .int .i64 (mid : Int), undef, undef, .int .i64 (nn : Int), .int .i64 (p : Int), .int .i64 (i : Int), .int .i64 (j : Int), .bool true, .int .i64 (i : Int), .int .i64 (j : Int), .int .i64 (s : Int), .int .u64 (s : Int), .int .u64 (h : Int), .int .i64 (h : Int), z 158, z 159, z 160, z 161, z 162, z 163, z 164, z 165, z 166, z 167, z 168, z 169, z 170, z 171, u172, u173, u174, undef, undef, undef, undef, undef, undef, undef, undef, undef, undef, undef, undef, undef, undef, undef, undef, undef, undef, undef, undef, undef, undef, undef, undef, undef, undef, undef, undef, undef, undef, undef, undef, undef, undef, undef, undef, undef, undef, undef, undef, undef, undef, undef, undef, undef]) (fun (gg : Unit) => [(0, 158, .func (.func fc) #[] caps), (1, 159, .slice (some ad) n c), (2, 160, .int .i64 (p : Int)), (3, 161, .int .i64 (h : Int)), (4, 162, .int .i64 (q : Int)), (5, 163, .pointer (some (ad.add q))), (6, 164, .int .i32 x), (7, 165, .slice (some ad) n c), (8, 166, .int .i64 (h : Int)), (9, 167, .pointer (some (ad.add h))), (10, 168, .int .i32 y), (11, 169, .int .i64 (cmpf x y)), (12, 170, .bool false), (13, 171, .bool true)]) (fun LL gg z wx => Aside0 (Below wr.heap.size wr wx)) () (zz [(158, u158), (159, u159), (160, u160), (161, u161), (162, u162), (163, u163), (164, u164), (165, u165), (166, u166), (167, u167), (168, u168), (169, u169), (170, u170), (171, u171)]) rfl rfl ⟨below_drew (Below.refl _ _)⟩ ?_ ?_
    ·
     refine Steps.cons ?_ (Steps.cons ?_ (Steps.cons ?_ (Steps.cons ?_ (Steps.cons ?_ (Steps.cons ?_ (Steps.cons ?_ (Steps.cons ?_ (Steps.cons ?_ (Steps.cons ?_ (Steps.cons ?_ (Steps.cons ?_ (Steps.cons ?_ (Steps.cons ?_ (Steps.nil))))))))))))))
     ·
      exact V0 0
     ·
      exact V0 1
     ·
      exact V0 2
     ·
      exact V0 3
     ·
      refine V2 4 2 3 (h := fun LL gg z wx hl hLk e2 e3 K hK => ?_)
      obtain ⟨hb⟩ := hl
      have hw := HQW.out
      dsimp only [FA]
      refine wantd (by rfl) ?_
      go_simp
      exact hK.out
     ·
      exact V2 5 1 4
     ·
      refine V1 6 5 (h := fun LL gg z wx hl hLk e5 K hK => ?_)
      obtain ⟨hb⟩ := hl
      have hq := HAJ.out.below hb.out
      have ck := hq.cell HAD.out q (by have := HXB.out; omega)
      rw [← HXY.out.1] at ck
      dsimp only [FA]
      refine wantd (by rfl) ?_
      go_simp
      exact hK.out
     ·
      exact V0 7
     ·
      exact V0 8
     ·
      exact V2 9 7 8
     ·
      refine V1 10 9 (h := fun LL gg z wx hl hLk e9 K hK => ?_)
      obtain ⟨hb⟩ := hl
      have hq := HAJ.out.below hb.out
      have ck := hq.cell HAD.out h (by have := HXB.out; omega)
      rw [← HXY.out.2] at ck
      dsimp only [FA]
      refine wantd (by rfl) ?_
      go_simp
      exact hK.out
     ·
      refine CD 11 (fun _ => rfl) (fun _ => rfl) fun LL gg z wx hl hLk hd hI K hK => ?_
      obtain ⟨hb⟩ := hl
      have e0 := hI.at 0 rfl (hd 0 rfl)
      have e6 := hI.at 6 rfl (hd 6 rfl)
      have e10 := hI.at 10 rfl (hd 10 rfl)
      dsimp only [FA]
      refine wantd (by rfl) ?_
      go_simp
      refine (HCC.out x y wx ((HW0.out.trans HOJ.out).trans (On.of_below hb.out))).mono ?_
      rintro e w' ⟨rfl, hb1⟩
      exact hK gg _ _ (sm3 e0 e6 e10) rfl rfl ⟨below_step hb.out hb1⟩
     ·
      refine V1 12 11 (h := fun LL gg z wx hl hLk e11 K hK => ?_)
      obtain ⟨hb⟩ := hl
      have hw := HCF.out
      dsimp only [FA]
      refine wantd (by rfl) ?_
      go_simp
      exact hK.out
     ·
      exact V1 13 12
    ·
     intro LL gg z wc hall hI hl
     obtain ⟨hb⟩ := hl
     have e13 := hI.at 13 rfl (hall 13 (by decide))
     dsimp only [FA] at ⊢
     rw [e13]
     have HBC := hb
     clear hI hb e13 hall
     have HAK := Aside0.mk (HAJ.out.below HBC.out)
     have HOK := Aside0.mk (HOJ.out.trans (On.of_below HBC.out))
     clear HAJ HOJ
     go_wp2_with fail
     first
      | (refine ⟨⟨h + 1, j, by rw [HHW.out], rfl, ⟨HBS.out.up HH.out.1 HH.out.2 (by have h := of_eq_false HCF.out; rw [HXY.out.1, HXY.out.2, HQ.out.2.2.2] at h; exact Int.not_lt.1 h)⟩, HAK, HOK⟩, ?_⟩; rw [HHW.out]; simp only [intOf]; have := HH.out; omega)
      | (refine ⟨?_, ?_⟩; · (refine ⟨_, _, _, _, _, _, _, _, _, _, _, _, _, _, _, _, _, _, _, _, _, _, _, _, _, _, _, _, _, _, _, _, _, _, _, _, _, _, _, _, _, _, _, _, _, _, _, _, _, _, _, _, _, _, _, _, _, _, _, _, _, _, _, _, _, _, _, _, _, _, _, _, _, _, _, _, _, _, _, _, _, _, _, _, _, _, _, _, _, _, _, _, _, _, _, _, _, _, _, ?_, rfl⟩; exact ⟨h + 1, j, by rw [HHW.out], rfl, ⟨HBS.out.up HH.out.1 HH.out.2 (by have h := of_eq_false HCF.out; rw [HXY.out.1, HXY.out.2, HQ.out.2.2.2] at h; exact Int.not_lt.1 h)⟩, HAK, HOK⟩); · (show (intOf (.int .i64 (j : Int))).toNat - (intOf (.int .i64 (wrap64 ((h : Int) + 1)))).toNat < (intOf (.int .i64 (j : Int))).toNat - (intOf (.int .i64 (i : Int))).toNat; rw [HHW.out]; simp only [intOf]; have := HH.out; omega))
  ·
   have hc1 : ((i : Int) < (j : Int)) = False := eq_false (by omega)
   have hc1n : (i < j) = False := eq_false hlt
   obtain rfl : i = j := by have := HIJ.out; omega
   clear hlt
   obtain ⟨e, he⟩ : ∃ e : Nat, e = nn - i := ⟨_, rfl⟩
   have hCUT := gen_cut (k := k) (T := fun h => 0 ≤ cmpf (D.getD (o + (p - h)) 0) (D.getD (o + h) 0)) (P := P) (L := L) (R := R) (Q := Q) HS.out.1 HS.out.2 HB.out.1 HB.out.2.1 HB.out.2.2.1 (Nat.lt_trans Nat.zero_lt_one HB.out.2.2.2.2.2.2.1) (Nat.lt_trans Nat.zero_lt_one HB.out.2.2.2.2.2.2.2.1) HM.out.1 HM.out.2.1 HLO.out.1 (fun c _ _ => by rw [← HD.out, ← Int.not_lt, HK.out, show nn - 1 - c = p - c by have := HM.out.2.2.1; omega]) HBS.out he
   have HE := Aside0.mk hCUT.1
   have HX := Aside0.mk hCUT.2
   have hew := w_sub nn i e (by have := HIJ.out; have := HLO.out.2; have := HE.out; omega) (by have := HM.out; have := HB.out; omega)
   clear hCUT he
   have HLN := Aside0.mk (gen_lens L R ia im ib i e mid HB.out.2.1 HB.out.2.2.1 HE.out)
   have HBN : Aside0 (e ≤ n ∧ mid ≤ n ∧ ib ≤ n ∧ o + n ≤ D.length ∧ n ≤ 1152921504606846975) := ⟨by have := HB.out; have := HE.out; omega⟩
   have HMI : Aside0 (ia < mid ∧ mid < ib) := ⟨⟨HM.out.2.2.2.1, HM.out.2.2.2.2.1⟩⟩
   have HEW := Aside0.mk hew
   clear hew
   go_wp2_with fail
   refine HKL.out _ _ ?_
   exact tail1 XX g o n c ad fc caps k w0 w ia im ib P L R Q N mid nn i e D HAD HD HW0 HB HS HMI HE HX HLN HBN HIH _ ⟨fun ts w' hM => by go_end0; exact ⟨rfl, hM⟩⟩ HEW _ HAJ HOJ
end Go.Proofs.YtfagobhhhljajaaW.PrintSort
/- The stable sort of package slices, the merge (gensort.py). No condition. -/
namespace Go.Proofs.YtfagobhhhljajaaW.PrintSort
open Go Go.RowKit Go.Proofs.YtfagobhhhljajaaW.PrintWords Go.Proofs.YtfagobhhhljajaaW.PrintLast Go.Proofs.YtfagobhhhljajaaW.PrintMore Go.Proofs.YtfagobhhhljajaaW.PrintReg Go.Proofs.YtfagobhhhljajaaW.PrintTree
set_option linter.unusedVariables false
set_option linter.unusedSimpArgs false
set_option maxHeartbeats 4000000 in
set_option maxRecDepth 100000 in
theorem symgen2_calls (XX : List Value) (g o n c : Nat) (ad : Addr) (had : ad = ⟨g, o, none⟩) (fc : Nat) (caps : Array Value) (hfc : ∀ args W, (callFunc fc args).run Try.prog W = .ok (.enter fc args) W) (cmpf : Int → Int → Int) (k : Int → Int) (hk : ∀ x y, cmpf x y < 0 ↔ k x < k y) (w0 : World) (HC : ∀ (x y : Int) (W : World), On (· = g) w0 W → Calls Try.prog fc (#[.int .i32 x, .int .i32 y] ++ caps) W fun e w' => e = .returned (.int .i64 (cmpf x y)) ∧ Below W.heap.size W w')
  (ia im ib : Nat) (P L R Q : List Int) (w : World) (hA : Arr XX w g (P ++ L ++ R ++ Q)) (hw0 : On (· = g) w0 w) (hP : P.length = o + ia) (hL : ia + L.length = im) (hR : im + R.length = ib) (hl2 : 1 < L.length) (hr2 : 1 < R.length) (hS1 : Srt k L) (hS2 : Srt k R) (N : Nat) (hsz : L.length + R.length = N) (hmm0 : ¬ (ia + ib) / 2 < im) (IH : ∀ (ia im ib : Nat) (P L R Q : List Int) (w : World), Arr XX w g (P ++ L ++ R ++ Q) → On (· = g) w0 w → P.length = o + ia → ia + L.length = im → im + R.length = ib → 0 < L.length → 0 < R.length → ib ≤ n → o + n ≤ (P ++ L ++ R ++ Q).length → Srt k L → Srt k R → L.length + R.length < N →
   Calls Try.prog 73 #[.slice (some ad) n c, .int .i64 (ia : Int), .int .i64 (im : Int), .int .i64 (ib : Int), .func (.func fc) #[] caps] w fun e w' => e = .returned (.tuple #[]) ∧ ∃ M, Arr XX w' g (P ++ M ++ Q) ∧ St k (L ++ R) M ∧ On (· = g) w w') (hb : ib ≤ n) (hn : o + n ≤ (P ++ L ++ R ++ Q).length) (hN : n ≤ 1152921504606846975) :
  Calls Try.prog 73 #[.slice (some ad) n c, .int .i64 (ia : Int), .int .i64 (im : Int), .int .i64 (ib : Int), .func (.func fc) #[] caps] w fun e w' => e = .returned (.tuple #[]) ∧ ∃ M, Arr XX w' g (P ++ M ++ Q) ∧ St k (L ++ R) M ∧ On (· = g) w w' := by
 obtain ⟨D, hD⟩ : ∃ D, D = P ++ L ++ R ++ Q := ⟨_, rfl⟩
 rw [← hD] at hA hn
 have HA := Aside0.mk hA
 have HD := Aside0.mk hD
 have HAD := Aside0.mk had
 have HCC := Aside0.mk HC
 have HK := Aside0.mk hk
 have HW0 := Aside0.mk hw0
 have HB := Aside0.mk (And.intro hP (And.intro hL (And.intro hR (And.intro hb (And.intro hn (And.intro hN (And.intro hl2 (And.intro hr2 hsz))))))))
 have HS := Aside0.mk (And.intro hS1 hS2)
 have HIH := Aside0.mk IH
 obtain ⟨l, hl⟩ : ∃ l, l = L.length := ⟨_, rfl⟩
 obtain ⟨r, hr⟩ : ∃ r, r = R.length := ⟨_, rfl⟩
 rw [← hl] at hL hl2
 rw [← hr] at hR hr2
 obtain ⟨s0, mid, nn, p, e1, e2, e3, e4, e5, e6, e7, e8⟩ := gen_places ia im ib l r hL hR hl2 hr2
 have HM : Aside0 (mid = (ia + ib) / 2 ∧ nn = mid + im ∧ p + 1 = nn ∧ ia < mid ∧ mid < ib ∧ nn ≤ ib + ib) := ⟨⟨e5, e3, e4, e6, e7, e8⟩⟩
 have b1 : im ≤ 4611686018427387904 := by omega
 have b2 : ib ≤ 4611686018427387904 := by omega
 have b3 : nn ≤ 4611686018427387904 := by omega
 have b4 : s0 ≤ 4611686018427387904 := by omega
 have hmm : ¬ mid < im := by rw [e5]; exact hmm0
 have h9 := gen_lo2 ia im ib l r mid nn hL hR hl2 hr2 e5 e3 hmm
 obtain ⟨lo, hlo⟩ : ∃ lo : Nat, lo = ia := ⟨_, rfl⟩
 obtain ⟨hi, hhi⟩ : ∃ hi : Nat, hi = im := ⟨_, rfl⟩
 have HLO : Aside0 (((mid < im ∧ lo = nn - ib ∧ hi = mid) ∨ (¬ mid < im ∧ lo = ia ∧ hi = im)) ∧ ia ≤ lo ∧ lo ≤ hi ∧ hi ≤ im ∧ hi ≤ mid ∧ nn ≤ ib + lo ∧ im + hi ≤ nn) := ⟨by rw [hlo, hhi]; exact ⟨.inr ⟨hmm, rfl, rfl⟩, h9⟩⟩
 have HHI := Aside0.mk (And.intro hhi hlo)
 have g1 : ((mid : Int) < (im : Int)) = False := eq_false (by omega)
 have g1n : (mid < im) = False := eq_false hmm
 have hw1 := w_sub im ia l hL b1
 obtain ⟨c1, c1e, c1n⟩ := not_one l hl2
 have hw2 := w_sub ib im r hR b2
 obtain ⟨c2, c2e, c2n⟩ := not_one r hr2
 have hnw := w_add mid im nn e3.symm b3
 have HPW := Aside0.mk (w_pred nn p e4 b3)
 have hsw := w_add ia ib s0 e1.symm b4
 have hmd := w_half s0 mid e2
 have hsm := w_mod s0 b4
 clear hmm0 hmm hlo hhi h9 b1 b2 b3 b4 hA hD had HC hk hw0 hP hL hR hS1 hS2 hb hn hN hl2 hr2 hl hr hsz IH e1 e2 e3 e4 e5 e6 e7 e8
 go_enter Try.func73, Try.ntmps73
 go_wp2_with fail
 try rw [HPW.out]
 clear hw1 c1 c1e c1n hw2 c2 c2e c2n hnw hsw hmd hsm g1 g1n
 rename_i KL hKL
 have HKL := Aside0.mk hKL
 clear hKL
 go_loopw [20, 21] (fun vi vj wr => ∃ i j : Nat, vi = .int .i64 (i : Int) ∧ vj = .int .i64 (j : Int) ∧ Aside0 (Bis (fun h => 0 ≤ cmpf (D.getD (o + (p - h)) 0) (D.getD (o + h) 0)) lo hi i j) ∧ Aside0 (Arr XX wr g D) ∧ Aside0 (On (· = g) w wr)) (fun vi vj _ => (intOf vj).toNat - (intOf vi).toNat)
 case atStart => exact ⟨lo, hi, by rw [HHI.out.2], by rw [HHI.out.1], ⟨Bis.start HLO.out.2.2.1⟩, HA, ⟨On.refl _ _⟩⟩
 case round =>
  obtain ⟨i, j, rfl, rfl, HBS, HAJ, HOJ⟩ := hrel
  have HIJ : Aside0 (lo ≤ i ∧ i ≤ j ∧ j ≤ hi) := ⟨HBS.out.1, HBS.out.2.1, HBS.out.2.2.1⟩
  have HJN : Aside0 (j ≤ n ∧ o + n ≤ D.length ∧ n ≤ 1152921504606846975) := ⟨by have := HB.out; have := HIJ.out; have := HLO.out.2; omega⟩
  by_cases hlt : i < j
  ·
   have hc1 : ((i : Int) < (j : Int)) = True := eq_true (by omega)
   have hc1n : (i < j) = True := eq_true hlt
   obtain ⟨s, hs⟩ : ∃ s : Nat, s = i + j := ⟨_, rfl⟩
   obtain ⟨h, hh⟩ : ∃ h : Nat, h = s / 2 := ⟨_, rfl⟩
   have hsw : wrap64 ((i : Int) + (j : Int)) = (s : Int) := by have := HJN.out; unfold wrap64; omega
   have hsm : (s : Int) % 18446744073709551616 = (s : Int) := by have := HJN.out; omega
   have HHD : Aside0 ((s : Int) / 2 = (h : Int)) := ⟨by omega⟩
   have HH : Aside0 (i ≤ h ∧ h < j) := ⟨by omega⟩
   have HHW : Aside0 (wrap64 ((h : Int) + 1) = ((h + 1 : Nat) : Int)) := ⟨by rw [← i64_w]; have := HJN.out; have := HH.out; exact w64n _ _ (by omega) (by omega)⟩
   have h0 : ((0 : Int) ≤ (h : Int)) = True := eq_true (by omega)
   have h1 : ((h : Int) < (n : Int)) = True := eq_true (by have := HJN.out; have := HH.out; omega)
   have h2 : (h < n) = True := eq_true (by have := HJN.out; have := HH.out; omega)
   obtain ⟨q, hq⟩ : ∃ q : Nat, q = p - h := ⟨_, rfl⟩
   have HQ : Aside0 (h + q = p ∧ q < n ∧ h < n ∧ q = p - h) := ⟨by have := HJN.out; have := HH.out; have := HB.out; have := HIJ.out; have := HM.out; have := HLO.out.2; omega⟩
   have HQW : Aside0 (IntKind.i64.wrap ((p : Int) - (h : Int)) = (q : Int)) := ⟨by rw [i64_w]; have h1 := HQ.out; have h2 := HM.out; have h3 := HB.out; exact w_sub p h q h1.1 (by clear hsw hsm; omega)⟩
   obtain ⟨x, hx⟩ : ∃ x, x = D.getD (o + q) 0 := ⟨_, rfl⟩
   obtain ⟨y, hy⟩ : ∃ y, y = D.getD (o + h) 0 := ⟨_, rfl⟩
   have HXY := Aside0.mk (And.intro hx hy)
   have HXB : Aside0 (o + q < D.length ∧ o + h < D.length) := ⟨by have := HJN.out; have := HQ.out; omega⟩
   have a0 : ((0 : Int) ≤ (q : Int)) = True := eq_true (by omega)
   have a1 : ((q : Int) < (n : Int)) = True := eq_true (by have := HQ.out; omega)
   have a2 : (q < n) = True := eq_true (by have := HQ.out; omega)
   clear hx hy hq
   clear hlt hs hh
   go_wp2_with fail
   rw [HHD.out]
   try rw [hsw]
   clear hsw hsm hc1 hc1n
   by_cases hc : cmpf x y < 0
   ·
    have HCT : Aside0 ((cmpf x y < 0) = True) := ⟨eq_true hc⟩
    clear hc
    refine wp_reg 14 rfl rfl (by kernel_rfl) (fun z => [.slice (some ad) n c, .int .i64 (ia : Int), .int .i64 (im : Int), .int .i64 (ib : Int), .func (.func fc) #[] caps, undef, undef, undef, undef, undef, undef, undef, undef, undef, undef, undef, undef, undef, .int .i64 (mid : Int), .int .i64 (nn : Int), .int .i64 (i : Int), .int .i64 (j : Int), .int .i64 (p : Int), .int .i64 (h : Int), undef, .int .i64 (im : Int), .int .i64 (ia : Int), .int .i64 (l : Int), .bool false, undef, undef, undef, undef, undef, undef, undef, undef, undef, undef, undef, undef, undef, undef, undef, undef, undef, undef, undef, undef, undef, undef, undef, undef, undef, undef, undef, undef, undef, undef, undef, undef, undef, undef, undef, undef, undef, undef, undef, undef, undef, undef, undef, undef, undef, undef, undef, undef, .int .i64 (ib : Int), .int .i64 (im : Int), .int .i64 (r : Int), .bool false, undef, undef, undef, undef, undef, undef, undef, undef, undef, undef, undef, undef, undef, undef, undef, undef, undef, undef, undef, undef, undef, undef, undef, undef, undef, undef, undef, undef, undef, undef, undef, undef, undef, undef, undef, undef, undef, undef, undef, undef, undef, undef, undef, undef, undef, undef, undef, undef, .int .i64 (ia : Int), .int .i64 (ib : Int), .int .i64 (s0 : Int), .int .u64 (s0 : Int), .int .u64 (mid : Int), .int .i64 (mid : Int), .int .i64 (mid : Int), .int .i64 (im : Int), .int .i64 (nn : Int), .int .i64 (im : Int), .int .i64 (mid : Int), .bool false, undef, undef, undef, undef, .int .i64 (ia : Int), .int .i64 (im : Int), .int .i64 (nn : Int), .int .i64 (p : Int), .int .i64 (i : Int), .int .i64 (j : Int), .bool true, .int .i64 (i : Int), .int .i64 (j : Int), .int .i64 (s : Int), .int .u64 (s : Int), .int .u64 (h : Int), .int .i64 (h : Int), z 158, z 159, z 160, z 161, z 162, z 163, z 164, z 165, z 166, z 167, z 168, z 169, z 170, z 171, u172, u173, u174, undef, undef, undef, undef, undef, undef, undef, undef, undef, undef, undef, undef, undef, undef, undef, undef, undef, undef, undef, undef, undef, undef, undef, undef, undef, undef, undef, undef, undef, undef, undef, undef, undef, undef, undef, undef, undef, undef, undef, undef, undef, undef, undef, undef, undef]) (fun (gg : Unit) => [(0, 158, .func (.func fc) #[] caps), (1, 159, .slice (some ad) n c), (2, 160, .int .i64 (p : Int)), (3, 161, .int .i64 (h : Int)), (4, 162, .int .i64 (q : Int)), (5, 163, .pointer (some (ad.add q))), (6, 164, .int .i32 x), (7, 165, .slice (some ad) n c), (8, 166, .int .i64 (h : Int)), (9, 167, .pointer (some (ad.add h))), (10, 168, .int .i32 y), (11, 169, .int .i64 (cmpf x y)), (12, 170, .bool true), (13, 171, .bool false)]) (fun LL gg z wx => Aside0 (Below wr.heap.size wr wx)) () (zz [(158, u158), (159, u159), (160, u160), (161, u161), (162, u162), (163, u163), (164, u164), (165, u165), (166, u166), (167, u167), (168, u168), (169, u169), (170, u170), (171, u171)]) rfl rfl ⟨below_drew (Below.refl _ _)⟩ ?_ ?_
    ·
     refine Steps.cons ?_ (Steps.cons ?_ (Steps.cons ?_ (Steps.cons ?_ (Steps.cons ?_ (Steps.cons ?_ (Steps.cons ?_ (Steps.cons ?_ (Steps.cons ?_ (Steps.cons ?_ (Steps.cons ?_ (Steps.cons ?_ (Steps.cons ?_ (Steps.cons ?_ (Steps.nil))))))))))))))
     ·
      exact V0 0
     ·
      exact V0 1
     ·
      exact V0 2
     ·
      exact V0 3
     ·
      refine V2 4 2 3 (h := fun LL gg z wx hl hLk e2 e3 K hK => ?_)
      obtain ⟨hb⟩ := hl
      have hw := HQW.out
      dsimp only [FA]
      refine wantd (by rfl) ?_
      go_simp
      exact hK.out
     ·
      exact V2 5 1 4
     ·
      refine V1 6 5 (h := fun LL gg z wx hl hLk e5 K hK => ?_)
      obtain ⟨hb⟩ := hl
      have hq := HAJ.out.below hb.out
      have ck := hq.cell HAD.out q (by have := HXB.out; omega)
      rw [← HXY.out.1] at ck
      dsimp only [FA]
      refine wantd (by rfl) ?_
      go_simp
      exact hK.out
     ·
      exact V0 7
     ·
      exact V0 8
     ·
      exact V2 9 7 8
     ·
      refine V1 10 9 (h := fun LL gg z wx hl hLk e9 K hK => ?_)
      obtain ⟨hb⟩ := hl
      have hq := HAJ.out.below hb.out
      have ck := hq.cell HAD.out h (by have := HXB.out; omega)
      rw [← HXY.out.2] at ck
      dsimp only [FA]
      refine wantd (by rfl) ?_
      go_simp
      exact hK.out
     ·
      refine CD 11 (fun _ => rfl) (fun _ => rfl) fun LL gg z wx hl hLk hd hI K hK => ?_
      obtain ⟨hb⟩ := hl
      have e0 := hI.at 0 rfl (hd 0 rfl)
      have e6 := hI.at 6 rfl (hd 6 rfl)
      have e10 := hI.at 10 rfl (hd 10 rfl)
      dsimp only [FA]
      refine wantd (by rfl) ?_
      go_simp
      refine (HCC.out x y wx ((HW0.out.trans HOJ.out).trans (On.of_below hb.out))).mono ?_
      rintro e w' ⟨rfl, hb1⟩
      exact hK gg _ _ (sm3 e0 e6 e10) rfl rfl ⟨below_step hb.out hb1⟩
     ·
      refine V1 12 11 (h := fun LL gg z wx hl hLk e11 K hK => ?_)
      obtain ⟨hb⟩ := hl
      have hw := HCT.out
      dsimp only [FA]
      refine wantd (by rfl) ?_
      go_simp
      exact hK.out
     ·
      exact V1 13 12
    ·
     intro LL gg z wc hall hI hl
     obtain ⟨hb⟩ := hl
     have e13 := hI.at 13 rfl (hall 13 (by decide))
     dsimp only [FA] at ⊢
     rw [e13]
     have HBC := hb
     clear hI hb e13 hall
     have HAK := Aside0.mk (HAJ.out.below HBC.out)
     have HOK := Aside0.mk (HOJ.out.trans (On.of_below HBC.out))
     clear HAJ HOJ
     go_wp2_with fail
     first
      | (refine ⟨⟨i, h, rfl, rfl, ⟨HBS.out.down HH.out.1 HH.out.2 (by have h := of_eq_true HCT.out; rw [HXY.out.1, HXY.out.2, HQ.out.2.2.2] at h; exact Int.not_le.2 h)⟩, HAK, HOK⟩, ?_⟩; simp only [intOf]; have := HH.out; omega)
      | (refine ⟨?_, ?_⟩; · (refine ⟨_, _, _, _, _, _, _, _, _, _, _, _, _, _, _, _, _, _, _, _, _, _, _, _, _, _, _, _, _, _, _, _, _, _, _, _, _, _, _, _, _, _, _, _, _, _, _, _, _, _, _, _, _, _, _, _, _, _, _, _, _, _, _, _, _, _, _, _, _, _, _, _, _, _, _, _, _, _, _, _, _, _, _, _, _, _, _, _, _, _, _, _, _, _, _, _, _, _, _, ?_, rfl⟩; exact ⟨i, h, rfl, rfl, ⟨HBS.out.down HH.out.1 HH.out.2 (by have h := of_eq_true HCT.out; rw [HXY.out.1, HXY.out.2, HQ.out.2.2.2] at h; exact Int.not_le.2 h)⟩, HAK, HOK⟩); · (simp only [intOf]; have := HH.out; omega))
   ·
    have HCF : Aside0 ((cmpf x y < 0) = False) := ⟨eq_false hc⟩
    clear hc
    refine wp_reg 14 rfl rfl (by kernel_rfl) (fun z => [.slice (some ad) n c, .int .i64 (ia : Int), .int .i64 (im : Int), .int .i64 (ib : Int), .func (.func fc) #[] caps, undef, undef, undef, undef, undef, undef, undef, undef, undef, undef, undef, undef, undef, .int .i64 (mid : Int), .int .i64 (nn : Int), .int .i64 (i : Int), .int .i64 (j : Int), .int .i64 (p : Int), .int .i64 (h : Int), undef, .int .i64 (im : Int), .int .i64 (ia : Int), .int .i64 (l : Int), .bool false, undef, undef, undef, undef, undef, undef, undef, undef, undef, undef, undef, undef, undef, undef, undef, undef, undef, undef, undef, undef, undef, undef, undef, undef, undef, undef, undef, undef, undef, undef, undef, undef, undef, undef, undef, undef, undef, undef, undef, undef, undef, undef, undef, undef, undef, undef, undef, undef, .int .i64 (ib : Int), .int .i64 (im : Int), .int .i64 (r : Int), .bool false, undef, undef, undef, undef, undef, undef, undef, undef, undef, undef, undef, undef, undef, undef, undef, undef, undef, undef, undef, undef, undef, undef, undef, undef, undef, undef, undef, undef, undef, undef, undef, undef, undef, undef, undef, undef, undef, undef, undef, undef, undef, undef, undef, undef, undef, undef, undef, undef, .int .i64 (ia : Int), .int .i64 (ib : Int), .int .i64 (s0 : Int), .int .u64 (s0 : Int), .int .u64 (mid : Int), .int .i64 (mid : Int), .int .i64 (mid : Int), .int .i64 (im : Int), .int .i64 (nn : Int), .int .i64 (im : Int), .int .i64 (mid : Int), .bool false, undef, undef, undef, undef, .int .i64 (ia : Int), .int .i64 (im : Int), .int .i64 (nn : Int), .int .i64 (p : Int), .int .i64 (i : Int), .int .i64 (j : Int), .bool true, .int .i64 (i : Int), .int .i64 (j : Int), .int .i64 (s : Int), .int .u64 (s : Int), .int .u64 (h : Int), .int .i64 (h : Int), z 158, z 159, z 160, z 161, z 162, z 163, z 164, z 165, z 166, z 167, z 168, z 169, z 170, z 171, u172, u173, u174, undef, undef, undef, undef, undef, undef, undef, undef, undef, undef, undef, undef, undef, undef, undef, undef, undef, undef, undef, undef, undef, undef, undef, undef, undef, undef, undef, undef, undef, undef, undef, undef, undef, undef, undef, undef, undef, undef, undef, undef, undef, undef, undef, undef, undef]) (fun (gg : Unit) => [(0, 158, .func (.func fc) #[] caps), (1, 159, .slice (some ad) n c), (2, 160, .int .i64 (p : Int)), (3, 161, .int .i64 (h : Int)), (4, 162, .int .i64 (q : Int)), (5, 163, .pointer (some (ad.add q))), (6, 164, .int .i32 x), (7, 165, .slice (some ad) n c), (8, 166, .int .i64 (h : Int)), (9, 167, .pointer (some (ad.add h))), (10, 168, .int .i32 y), (11, 169, .int .i64 (cmpf x y)), (12, 170, .bool false), (13, 171, .bool true)]) (fun LL gg z wx => Aside0 (Below wr.heap.size wr wx)) () (zz [(158, u158), (159, u159), (160, u160), (161, u161), (162, u162), (163, u163), (164, u164), (165, u165), (166, u166), (167, u167), (168, u168), (169, u169), (170, u170), (171, u171)]) rfl rfl ⟨below_drew (Below.refl _ _)⟩ ?_ ?_
    ·
     refine Steps.cons ?_ (Steps.cons ?_ (Steps.cons ?_ (Steps.cons ?_ (Steps.cons ?_ (Steps.cons ?_ (Steps.cons ?_ (Steps.cons ?_ (Steps.cons ?_ (Steps.cons ?_ (Steps.cons ?_ (Steps.cons ?_ (Steps.cons ?_ (Steps.cons ?_ (Steps.nil))))))))))))))
     ·
      exact V0 0
     ·
      exact V0 1
     ·
      exact V0 2
     ·
      exact V0 3
     ·
      refine V2 4 2 3 (h := fun LL gg z wx hl hLk e2 e3 K hK => ?_)
      obtain ⟨hb⟩ := hl
      have hw := HQW.out
      dsimp only [FA]
      refine wantd (by rfl) ?_
      go_simp
      exact hK.out
     ·
      exact V2 5 1 4
     ·
      refine V1 6 5 (h := fun LL gg z wx hl hLk e5 K hK => ?_)
      obtain ⟨hb⟩ := hl
      have hq := HAJ.out.below hb.out
      have ck := hq.cell HAD.out q (by have := HXB.out; omega)
      rw [← HXY.out.1] at ck
      dsimp only [FA]
      refine wantd (by rfl) ?_
      go_simp
      exact hK.out
     ·
      exact V0 7
     ·
      exact V0 8
     ·
      exact V2 9 7 8
     ·
      refine V1 10 9 (h := fun LL gg z wx hl hLk e9 K hK => ?_)
      obtain ⟨hb⟩ := hl
      have hq := HAJ.out.below hb.out
      have ck := hq.cell HAD.out h (by have := HXB.out; omega)
      rw [← HXY.out.2] at ck
      dsimp only [FA]
      refine wantd (by rfl) ?_
      go_simp
      exact hK.out
     ·
      refine CD 11 (fun _ => rfl) (fun _ => rfl) fun LL gg z wx hl hLk hd hI K hK => ?_
      obtain ⟨hb⟩ := hl
      have e0 := hI.at 0 rfl (hd 0 rfl)
      have e6 := hI.at 6 rfl (hd 6 rfl)
      have e10 := hI.at 10 rfl (hd 10 rfl)
      dsimp only [FA]
      refine wantd (by rfl) ?_
      go_simp
      refine (HCC.out x y wx ((HW0.out.trans HOJ.out).trans (On.of_below hb.out))).mono ?_
      rintro e w' ⟨rfl, hb1⟩
      exact hK gg _ _ (sm3 e0 e6 e10) rfl rfl ⟨below_step hb.out hb1⟩
     ·
      refine V1 12 11 (h := fun LL gg z wx hl hLk e11 K hK => ?_)
      obtain ⟨hb⟩ := hl
      have hw := HCF.out
      dsimp only [FA]
      refine wantd (by rfl) ?_
      go_simp
      exact hK.out
     ·
      exact V1 13 12
    ·
     intro LL gg z wc hall hI hl
     obtain ⟨hb⟩ := hl
     have e13 := hI.at 13 rfl (hall 13 (by decide))
     dsimp only [FA] at ⊢
     rw [e13]
     have HBC := hb
     clear hI hb e13 hall
     have HAK := Aside0.mk (HAJ.out.below HBC.out)
     have HOK := Aside0.mk (HOJ.out.trans (On.of_below HBC.out))
     clear HAJ HOJ
     go_wp2_with fail
     first
      | (refine ⟨⟨h + 1, j, by rw [HHW.out], rfl, ⟨HBS.out.up HH.out.1 HH.out.2 (by have h := of_eq_false HCF.out; rw [HXY.out.1, HXY.out.2, HQ.out.2.2.2] at h; exact Int.not_lt.1 h)⟩, HAK, HOK⟩, ?_⟩; rw [HHW.out]; simp only [intOf]; have := HH.out; omega)
      | (refine ⟨?_, ?_⟩; · (refine ⟨_, _, _, _, _, _, _, _, _, _, _, _, _, _, _, _, _, _, _, _, _, _, _, _, _, _, _, _, _, _, _, _, _, _, _, _, _, _, _, _, _, _, _, _, _, _, _, _, _, _, _, _, _, _, _, _, _, _, _, _, _, _, _, _, _, _, _, _, _, _, _, _, _, _, _, _, _, _, _, _, _, _, _, _, _, _, _, _, _, _, _, _, _, _, _, _, _, _, _, ?_, rfl⟩; exact ⟨h + 1, j, by rw [HHW.out], rfl, ⟨HBS.out.up HH.out.1 HH.out.2 (by have h := of_eq_false HCF.out; rw [HXY.out.1, HXY.out.2, HQ.out.2.2.2] at h; exact Int.not_lt.1 h)⟩, HAK, HOK⟩); · (show (intOf (.int .i64 (j : Int))).toNat - (intOf (.int .i64 (wrap64 ((h : Int) + 1)))).toNat < (intOf (.int .i64 (j : Int))).toNat - (intOf (.int .i64 (i : Int))).toNat; rw [HHW.out]; simp only [intOf]; have := HH.out; omega))
  ·
   have hc1 : ((i : Int) < (j : Int)) = False := eq_false (by omega)
   have hc1n : (i < j) = False := eq_false hlt
   obtain rfl : i = j := by have := HIJ.out; omega
   clear hlt
   obtain ⟨e, he⟩ : ∃ e : Nat, e = nn - i := ⟨_, rfl⟩
   have hCUT := gen_cut (k := k) (T := fun h => 0 ≤ cmpf (D.getD (o + (p - h)) 0) (D.getD (o + h) 0)) (P := P) (L := L) (R := R) (Q := Q) HS.out.1 HS.out.2 HB.out.1 HB.out.2.1 HB.out.2.2.1 (Nat.lt_trans Nat.zero_lt_one HB.out.2.2.2.2.2.2.1) (Nat.lt_trans Nat.zero_lt_one HB.out.2.2.2.2.2.2.2.1) HM.out.1 HM.out.2.1 HLO.out.1 (fun c _ _ => by rw [← HD.out, ← Int.not_lt, HK.out, show nn - 1 - c = p - c by have := HM.out.2.2.1; omega]) HBS.out he
   have HE := Aside0.mk hCUT.1
   have HX := Aside0.mk hCUT.2
   have hew := w_sub nn i e (by have := HIJ.out; have := HLO.out.2; have := HE.out; omega) (by have := HM.out; have := HB.out; omega)
   clear hCUT he
   have HLN := Aside0.mk (gen_lens L R ia im ib i e mid HB.out.2.1 HB.out.2.2.1 HE.out)
   have HBN : Aside0 (e ≤ n ∧ mid ≤ n ∧ ib ≤ n ∧ o + n ≤ D.length ∧ n ≤ 1152921504606846975) := ⟨by have := HB.out; have := HE.out; omega⟩
   have HMI : Aside0 (ia < mid ∧ mid < ib) := ⟨⟨HM.out.2.2.2.1, HM.out.2.2.2.2.1⟩⟩
   have HEW := Aside0.mk hew
   clear hew
   go_wp2_with fail
   refine HKL.out _ _ ?_
   exact tail1 XX g o n c ad fc caps k w0 w ia im ib P L R Q N mid nn i e D HAD HD HW0 HB HS HMI HE HX HLN HBN HIH _ ⟨fun ts w' hM => by go_end0; exact ⟨rfl, hM⟩⟩ HEW _ HAJ HOJ
end Go.Proofs.YtfagobhhhljajaaW.PrintSort
/- The stable sort of package slices, the merge (gensort.py). No condition. -/
namespace Go.Proofs.YtfagobhhhljajaaW.PrintSort
open Go Go.RowKit Go.Proofs.YtfagobhhhljajaaW.PrintWords Go.Proofs.YtfagobhhhljajaaW.PrintLast Go.Proofs.YtfagobhhhljajaaW.PrintMore Go.Proofs.YtfagobhhhljajaaW.PrintReg Go.Proofs.YtfagobhhhljajaaW.PrintTree
set_option linter.unusedVariables false
set_option linter.unusedSimpArgs false
set_option maxHeartbeats 4000000 in
set_option maxRecDepth 100000 in
theorem symMerge_calls (XX : List Value) (g o n c : Nat) (ad : Addr) (had : ad = ⟨g, o, none⟩) (fc : Nat) (caps : Array Value) (hfc : ∀ args W, (callFunc fc args).run Try.prog W = .ok (.enter fc args) W) (cmpf : Int → Int → Int) (k : Int → Int) (hk : ∀ x y, cmpf x y < 0 ↔ k x < k y) (w0 : World) (HC : ∀ (x y : Int) (W : World), On (· = g) w0 W → Calls Try.prog fc (#[.int .i32 x, .int .i32 y] ++ caps) W fun e w' => e = .returned (.int .i64 (cmpf x y)) ∧ Below W.heap.size W w') (hN : n ≤ 1152921504606846975) : ∀ (N ia im ib : Nat) (P L R Q : List Int) (w : World), Arr XX w g (P ++ L ++ R ++ Q) → On (· = g) w0 w → P.length = o + ia → ia + L.length = im → im + R.length = ib → 0 < L.length → 0 < R.length → ib ≤ n → o + n ≤ (P ++ L ++ R ++ Q).length → Srt k L → Srt k R → L.length + R.length = N →
   Calls Try.prog 73 #[.slice (some ad) n c, .int .i64 (ia : Int), .int .i64 (im : Int), .int .i64 (ib : Int), .func (.func fc) #[] caps] w fun e w' => e = .returned (.tuple #[]) ∧ ∃ M, Arr XX w' g (P ++ M ++ Q) ∧ St k (L ++ R) M ∧ On (· = g) w w' := by
 intro N
 induction N using Nat.strongRecOn with
 | ind N ih =>
  intro ia im ib P L R Q w hA hw0 hP hL hR hl hr hb hn hS1 hS2 hsz
  by_cases h1 : L.length = 1
  ·
   obtain ⟨x0, rfl⟩ := List.length_eq_one_iff.1 h1
   exact symleft_calls XX g o n c ad had fc caps hfc cmpf k hk w0 HC ia im ib x0 P R Q w hA hw0 hP hL hR hS2 hb hn hN
  ·
   by_cases h2 : R.length = 1
   ·
    obtain ⟨y0, rfl⟩ := List.length_eq_one_iff.1 h2
    exact symright_calls XX g o n c ad had fc caps hfc cmpf k hk w0 HC ia im ib y0 P L Q w hA hw0 hP hL hR h1 hS1 hb hn hN
   ·
    by_cases h3 : (ia + ib) / 2 < im
    ·
     exact symgen1_calls XX g o n c ad had fc caps hfc cmpf k hk w0 HC ia im ib P L R Q w hA hw0 hP hL hR (by omega) (by omega) hS1 hS2 N hsz h3 (fun ia im ib P L R Q w a1 a2 a3 a4 a5 a6 a7 a8 a9 a10 a11 a12 => ih _ a12 ia im ib P L R Q w a1 a2 a3 a4 a5 a6 a7 a8 a9 a10 a11 rfl) hb hn hN
    ·
     exact symgen2_calls XX g o n c ad had fc caps hfc cmpf k hk w0 HC ia im ib P L R Q w hA hw0 hP hL hR (by omega) (by omega) hS1 hS2 N hsz h3 (fun ia im ib P L R Q w a1 a2 a3 a4 a5 a6 a7 a8 a9 a10 a11 a12 => ih _ a12 ia im ib P L R Q w a1 a2 a3 a4 a5 a6 a7 a8 a9 a10 a11 rfl) hb hn hN
end Go.Proofs.YtfagobhhhljajaaW.PrintSort
/- The stable sort of package slices, the merge (gensort.py). No condition. -/
namespace Go.Proofs.YtfagobhhhljajaaW.PrintSort
open Go Go.RowKit Go.Proofs.YtfagobhhhljajaaW.PrintWords Go.Proofs.YtfagobhhhljajaaW.PrintLast Go.Proofs.YtfagobhhhljajaaW.PrintMore Go.Proofs.YtfagobhhhljajaaW.PrintReg Go.Proofs.YtfagobhhhljajaaW.PrintTree
set_option linter.unusedVariables false
set_option linter.unusedSimpArgs false
set_option maxHeartbeats 4000000 in
set_option maxRecDepth 100000 in
theorem stable_calls (XX : List Value) (g o n c : Nat) (ad : Addr) (had : ad = ⟨g, o, none⟩) (fc : Nat) (caps : Array Value) (hfc : ∀ args W, (callFunc fc args).run Try.prog W = .ok (.enter fc args) W) (cmpf : Int → Int → Int) (k : Int → Int) (hk : ∀ x y, cmpf x y < 0 ↔ k x < k y) (w0 : World) (HC : ∀ (x y : Int) (W : World), On (· = g) w0 W → Calls Try.prog fc (#[.int .i32 x, .int .i32 y] ++ caps) W fun e w' => e = .returned (.int .i64 (cmpf x y)) ∧ Below W.heap.size W w')
  (P S Q : List Int) (w : World) (hA : Arr XX w g (P ++ S ++ Q)) (hw0 : On (· = g) w0 w) (hP : P.length = o) (hS : S.length = n) (hN : n ≤ 1152921504606846975) :
  Calls Try.prog 70 #[.slice (some ad) n c, .int .i64 (n : Int), .func (.func fc) #[] caps] w fun e w' => e = .returned (.tuple #[]) ∧ ∃ X, Arr XX w' g (P ++ X ++ Q) ∧ St k S X ∧ On (· = g) w w' := by
 have HA := Aside0.mk hA
 have HB := Aside0.mk (And.intro hP (And.intro hS hN))
 have HAD := Aside0.mk had
 have HCC := Aside0.mk HC
 have HK := Aside0.mk hk
 have HW0 := Aside0.mk hw0
 have HNL : Aside0 (∀ X : List Int, X.length = n → o + n ≤ (P ++ X ++ Q).length) := ⟨fun X hX => by simp only [List.length_append]; omega⟩
 clear hA HC hk hw0 hP hS hN had
 go_enter Try.func70, Try.ntmps70
 go_wp2_with fail
 go_loopw [7, 8] (fun v7 v8 wr => ∃ (p q : Nat) (M : List Int), v7 = .int .i64 (p : Int) ∧ v8 = .int .i64 (q : Int) ∧ q = p + 20 ∧ p ≤ n ∧ Aside0 (Pre k 20 (S.take p) M) ∧ Aside0 (Arr XX wr g (P ++ (M ++ S.drop p) ++ Q)) ∧ Aside0 (On (· = g) w wr)) (fun v7 _ _ => n - (intOf v7).toNat)
 case atStart => exact ⟨0, 20, [], rfl, rfl, rfl, Nat.zero_le _, ⟨Pre.nil⟩, ⟨HA.out⟩, ⟨On.refl _ _⟩⟩
 case round =>
  obtain ⟨p, q, M, rfl, rfl, hq, hp, HPR, HAM, HOM⟩ := hrel
  have HPQ := Aside0.mk (And.intro hq hp)
  have HML : Aside0 (M.length = p) := ⟨by rw [HPR.out.1, List.length_take]; have := HB.out; omega⟩
  by_cases hle : q ≤ n
  ·
   have c1 : ((q : Int) ≤ (n : Int)) = True := eq_true (by omega)
   have c1n : (q ≤ n) = True := eq_true (by omega)
   have HQW : Aside0 (wrap64 ((q : Int) + 20) = ((q + 20 : Nat) : Int)) := ⟨by have := HB.out; unfold wrap64; omega⟩
   have HLE := Aside0.mk hle
   have HSP : Aside0 (M ++ S.drop p = M ++ (S.drop p).take 20 ++ S.drop q) := ⟨by rw [List.append_assoc]; congr 1; rw [hq, ← List.drop_drop, List.take_append_drop]⟩
   clear hle hq hp
   go_wp2_with fail
   refine (insort_calls XX g o n c ad HAD.out fc caps hfc cmpf k HK.out w0 HCC.out p q (P ++ M) ((S.drop p).take 20) (S.drop q ++ Q) wr (by have h := HAM.out; rw [HSP.out] at h; simpa only [List.append_assoc] using h) (HW0.out.trans HOM.out) (by rw [List.length_append, HML.out, HB.out.1]) (by rw [List.length_take, List.length_drop]; have := HB.out; have := HPQ.out; have := HLE.out; omega) HLE.out (by have h := HNL.out (M ++ S.drop p) (by rw [List.length_append, HML.out, List.length_drop]; have := HB.out; have := HPQ.out; omega); rw [HSP.out] at h; simpa only [List.append_assoc] using h) HB.out.2.2).mono ?_
   rintro e w1 ⟨rfl, S', hA1, hS1, ho1⟩
   have HA1 := Aside0.mk hA1
   have HS1 := Aside0.mk hS1
   have HO1 := Aside0.mk (HOM.out.trans ho1)
   clear hA1 hS1 ho1 c1 c1n
   go_wp2_with fail
   go_roundw
   case rel => exact ⟨q, q + 20, M ++ S', rfl, by rw [HQW.out], rfl, HLE.out, ⟨by
    have e : S.take q = S.take p ++ (S.drop p).take 20 := by rw [HPQ.out.1, List.take_add]
    rw [e]; exact HPR.out.snoc (by rw [List.length_take, List.length_drop]; have := HB.out; have := HPQ.out; have := HLE.out; omega) HS1.out⟩, ⟨by have h := HA1.out; simpa only [List.append_assoc] using h⟩, HO1⟩
   case measure => simp only [intOf]; have := HPQ.out; have := HLE.out; omega
  ·
   have c1 : ((q : Int) ≤ (n : Int)) = False := eq_false (by omega)
   have c1n : (q ≤ n) = False := eq_false (by omega)
   have HLT : Aside0 ((S.drop p).length ≤ 20) := ⟨by rw [List.length_drop]; have := HB.out; omega⟩
   clear hle hq hp
   go_wp2_with fail
   refine (insort_calls XX g o n c ad HAD.out fc caps hfc cmpf k HK.out w0 HCC.out p n (P ++ M) (S.drop p) Q wr (by have h := HAM.out; simpa only [List.append_assoc] using h) (HW0.out.trans HOM.out) (by rw [List.length_append, HML.out, HB.out.1]) (by rw [List.length_drop]; have := HB.out; have := HPQ.out; omega) (Nat.le_refl _) (by have h := HNL.out (M ++ S.drop p) (by rw [List.length_append, HML.out, List.length_drop]; have := HB.out; have := HPQ.out; omega); simpa only [List.append_assoc] using h) HB.out.2.2).mono ?_
   rintro e w1 ⟨rfl, S', hA1, hS1, ho1⟩
   have HA1 := Aside0.mk hA1
   have HO1 := Aside0.mk (HOM.out.trans ho1)
   have HBL : Aside0 (Bl k 20 S (M ++ S')) := ⟨by have h := HPR.out.2 _ _ (.last HLT.out hS1); rw [List.take_append_drop] at h; exact h⟩
   obtain ⟨X0, hX0⟩ : ∃ X0, X0 = M ++ S' := ⟨_, rfl⟩
   have HA0 : Aside0 (Arr XX w1 g (P ++ X0 ++ Q)) := ⟨by rw [hX0]; have h := HA1.out; simpa only [List.append_assoc] using h⟩
   rw [← hX0] at HBL
   clear hA1 hS1 ho1 hX0 HA1 HAM HPR HPQ HML HLT c1 c1n HOM
   go_wp2_with fail
   go_loopw [6] (fun v6 wr => ∃ (z : Nat) (X : List Int), v6 = .int .i64 (z : Int) ∧ 0 < z ∧ z ≤ 2305843009213693952 ∧ Aside0 (Bl k z S X) ∧ Aside0 (Arr XX wr g (P ++ X ++ Q)) ∧ Aside0 (On (· = g) w wr)) (fun v6 _ => n - (intOf v6).toNat)
   case atStart => exact ⟨20, X0, rfl, by omega, by omega, HBL, HA0, HO1⟩
   case round =>
    clear HBL HA0 HO1
    obtain ⟨z, X, rfl, hz, hz2, HBL, HA0, HO1⟩ := hrel
    by_cases hlt : z < n
    ·
     have c2 : ((z : Int) < (n : Int)) = True := eq_true (by omega)
     have c2n : (z < n) = True := eq_true (by omega)
     obtain ⟨y, hy⟩ : ∃ y : Nat, y = z + z := ⟨_, rfl⟩
     have HZ := Aside0.mk (And.intro hz (And.intro hy hlt))
     have HYW : Aside0 (wrap64 (2 * (z : Int)) = (y : Int)) := ⟨by have := HB.out; unfold wrap64; omega⟩
     have HYW2 : Aside0 (wrap64 ((z : Int) * 2) = (y : Int)) := ⟨by have := HB.out; unfold wrap64; omega⟩
     clear hz hz2 hlt hy
     go_wp2_with fail
     try rw [HYW.out]
     go_loopw [7, 8] (fun v7 v8 wr => ∃ (p q : Nat) (S0 M S1 X1 : List Int), v7 = .int .i64 (p : Int) ∧ v8 = .int .i64 (q : Int) ∧ q = p + y ∧ p ≤ n ∧ Aside0 (S = S0 ++ S1 ∧ S0.length = p) ∧ Aside0 (Pre k y S0 M) ∧ Aside0 (Bl k z S1 X1) ∧ Aside0 (Arr XX wr g (P ++ (M ++ X1) ++ Q)) ∧ Aside0 (On (· = g) w wr)) (fun v7 _ _ => n - (intOf v7).toNat)
     case atStart => exact ⟨0, y, [], [], S, X, rfl, rfl, by omega, Nat.zero_le _, ⟨⟨rfl, rfl⟩⟩, ⟨Pre.nil⟩, HBL, ⟨HA0.out⟩, HO1⟩
     case round =>
      clear HBL HA0 HO1
      obtain ⟨p, q, S0, M, S1, X1, rfl, rfl, hq, hp, HSS, HPR, HBL, HAM, HOM⟩ := hrel
      have HPQ := Aside0.mk (And.intro hq hp)
      have HML : Aside0 (M.length = p ∧ S1.length + p = n ∧ X1.length + p = n) := ⟨by have h1 := HPR.out.1; have h2 := HSS.out.2; have h3 := congrArg List.length HSS.out.1; rw [List.length_append] at h3; have h4 := HBL.out.len; have := HB.out; omega⟩
      by_cases hle : q ≤ n
      ·
       have c3 : ((q : Int) ≤ (n : Int)) = True := eq_true (by omega)
       have c3n : (q ≤ n) = True := eq_true (by omega)
       obtain ⟨U, U', V, V', S2, X2, e1, e2, hU, hV, hsU, hsV, hB2⟩ := HBL.out.two (by have := HML.out; have := HZ.out; omega) HZ.out.1
       obtain ⟨m, hm⟩ : ∃ m : Nat, m = p + z := ⟨_, rfl⟩
       have HMW : Aside0 (wrap64 ((p : Int) + (z : Int)) = (m : Int)) := ⟨by have := HB.out; have := HZ.out; unfold wrap64; omega⟩
       have HQW : Aside0 (wrap64 ((q : Int) + (y : Int)) = ((q + y : Nat) : Int)) := ⟨by have := HB.out; have := HZ.out; unfold wrap64; omega⟩
       have HLE := Aside0.mk (And.intro hle (And.intro hq (And.intro hm (And.intro hU hV))))
       have HUV := Aside0.mk (And.intro hsU (And.intro hsV hB2))
       have HE1 := Aside0.mk e1
       rw [e2] at HAM HML
       clear hle hq hp e1 e2 hU hV hsU hsV hB2 hm
       go_wp2_with fail
       try rw [HMW.out]
       refine (symMerge_calls XX g o n c ad HAD.out fc caps hfc cmpf k HK.out w0 HCC.out HB.out.2.2 _ p m q (P ++ M) U' V' (X2 ++ Q) wr (by have h := HAM.out; simpa only [List.append_assoc] using h) (HW0.out.trans HOM.out) (by rw [List.length_append, HML.out.1, HB.out.1]) (by rw [HUV.out.1.len]; have := HLE.out; omega) (by rw [HUV.out.2.1.len]; have := HLE.out; have := HZ.out; omega) (by rw [HUV.out.1.len]; have := HLE.out; have := HZ.out; omega) (by rw [HUV.out.2.1.len]; have := HLE.out; have := HZ.out; omega) HLE.out.1 (by have h := HNL.out (M ++ (U' ++ V' ++ X2)) (by rw [List.length_append]; have := HML.out; omega); simpa only [List.append_assoc] using h) HUV.out.1.1 HUV.out.2.1.1 rfl).mono ?_
       rintro e w1 ⟨rfl, M1, hA1, hS1, ho1⟩
       have HA1 := Aside0.mk hA1
       have HS1 := Aside0.mk (St.both HUV.out.1 HUV.out.2.1 hS1)
       have HO1 := Aside0.mk (HOM.out.trans ho1)
       clear hA1 hS1 ho1 c3 c3n
       go_wp2_with fail
       try rw [HYW.out]
       go_roundw
       case rel => exact ⟨q, q + y, S0 ++ (U ++ V), M ++ M1, S2, X2, rfl, by rw [HQW.out], rfl, HLE.out.1, ⟨by rw [HSS.out.1, HE1.out]; simp only [List.append_assoc], by simp only [List.length_append]; have := HSS.out.2; have := HLE.out; have := HZ.out; omega⟩, ⟨HPR.out.snoc (by rw [List.length_append]; have := HLE.out; have := HZ.out; omega) HS1.out⟩, ⟨HUV.out.2.2⟩, ⟨by have h := HA1.out; simpa only [List.append_assoc] using h⟩, HO1⟩
       case measure => simp only [intOf]; have := HLE.out; have := HZ.out; omega
      ·
       have c3 : ((q : Int) ≤ (n : Int)) = False := eq_false (by omega)
       have c3n : (q ≤ n) = False := eq_false (by omega)
       obtain ⟨m, hm⟩ : ∃ m : Nat, m = p + z := ⟨_, rfl⟩
       have HMW : Aside0 (wrap64 ((p : Int) + (z : Int)) = (m : Int)) := ⟨by have := HB.out; have := HZ.out; unfold wrap64; omega⟩
       have HLE := Aside0.mk (And.intro hle (And.intro hq hm))
       by_cases hmn : m < n
       ·
        have c4 : ((m : Int) < (n : Int)) = True := eq_true (by omega)
        have c4n : (m < n) = True := eq_true (by omega)
        obtain ⟨U, U', V, V', e1, e2, hU, hsU, hsV⟩ := HBL.out.rest (by have := HML.out; omega) (by have := HML.out; have := HZ.out; omega)
        have HUV := Aside0.mk (And.intro hsU (And.intro hsV hU))
        have HE1 := Aside0.mk e1
        have HMN := Aside0.mk hmn
        have HSL : Aside0 (S1.length = U.length + V.length) := ⟨by rw [e1, List.length_append]⟩
        rw [e2] at HAM HML
        have hmw := HMW.out
        clear hle hq hp e1 e2 hU hsU hsV hm hmn
        go_wp2_with fail
        refine (symMerge_calls XX g o n c ad HAD.out fc caps hfc cmpf k HK.out w0 HCC.out HB.out.2.2 _ p m n (P ++ M) U' V' Q wr (by have h := HAM.out; simpa only [List.append_assoc] using h) (HW0.out.trans HOM.out) (by rw [List.length_append, HML.out.1, HB.out.1]) (by rw [HUV.out.1.len]; have := HLE.out; have := HUV.out.2.2; omega) (by rw [HUV.out.2.1.len]; have := HLE.out; have := HMN.out; have := HUV.out.2.2; have := HSL.out; have := HML.out; omega) (by rw [HUV.out.1.len]; have := HUV.out.2.2; have := HZ.out; omega) (by rw [HUV.out.2.1.len]; have := HUV.out.2.2; have := HSL.out; have := HML.out; have := HMN.out; have := HLE.out; omega) (Nat.le_refl _) (by have h := HNL.out (M ++ (U' ++ V')) (by rw [List.length_append]; have := HML.out; omega); simpa only [List.append_assoc] using h) HUV.out.1.1 HUV.out.2.1.1 rfl).mono ?_
        rintro e w1 ⟨rfl, M1, hA1, hS1, ho1⟩
        have HA1 := Aside0.mk hA1
        have HS1 := Aside0.mk (St.both HUV.out.1 HUV.out.2.1 hS1)
        have HO1 := Aside0.mk (HOM.out.trans ho1)
        clear hA1 hS1 ho1 c3 c3n c4 c4n hmw
        go_wp2_with fail
        go_roundw
        case rel => exact ⟨y, M ++ M1, by rw [HYW2.out], by have := HZ.out; omega, by have := HZ.out; have := HB.out; omega, ⟨by rw [HSS.out.1, HE1.out]; exact HPR.out.2 _ _ (.last (by rw [List.length_append]; have := HSL.out; have := HML.out; have := HLE.out; omega) HS1.out)⟩, ⟨by have h := HA1.out; simpa only [List.append_assoc] using h⟩, HO1⟩
        case measure => rw [HYW2.out]; simp only [intOf]; have := HZ.out; omega
       ·
        have c4 : ((m : Int) < (n : Int)) = False := eq_false (by omega)
        have c4n : (m < n) = False := eq_false (by omega)
        have HS1 := Aside0.mk (HBL.out.one (by have := HML.out; omega))
        have hmw := HMW.out
        clear hle hq hp hm hmn
        go_wp2_with fail
        go_roundw
        case rel => exact ⟨y, M ++ X1, by rw [HYW2.out], by have := HZ.out; omega, by have := HZ.out; have := HB.out; omega, ⟨by rw [HSS.out.1]; exact HPR.out.2 _ _ (.last (by have := HML.out; have := HLE.out; omega) HS1.out)⟩, HAM, HOM⟩
        case measure => rw [HYW2.out]; simp only [intOf]; have := HZ.out; omega
    ·
     have c2 : ((z : Int) < (n : Int)) = False := eq_false (by omega)
     have c2n : (z < n) = False := eq_false (by omega)
     have HST := Aside0.mk (HBL.out.one (by have := HB.out; omega))
     clear hlt hz hz2
     go_wp2
     go_end0
     exact ⟨rfl, X, HA0.out, HST.out, HO1.out⟩
set_option maxHeartbeats 4000000 in
set_option maxRecDepth 100000 in
theorem sortStable_calls (XX : List Value) (g o n c : Nat) (ad : Addr) (had : ad = ⟨g, o, none⟩) (fc : Nat) (caps : Array Value) (hfc : ∀ args W, (callFunc fc args).run Try.prog W = .ok (.enter fc args) W) (cmpf : Int → Int → Int) (k : Int → Int) (hk : ∀ x y, cmpf x y < 0 ↔ k x < k y) (w0 : World) (HC : ∀ (x y : Int) (W : World), On (· = g) w0 W → Calls Try.prog fc (#[.int .i32 x, .int .i32 y] ++ caps) W fun e w' => e = .returned (.int .i64 (cmpf x y)) ∧ Below W.heap.size W w')
  (P S Q : List Int) (w : World) (hA : Arr XX w g (P ++ S ++ Q)) (hw0 : On (· = g) w0 w) (hP : P.length = o) (hS : S.length = n) (hN : n ≤ 1152921504606846975) :
  Calls Try.prog 66 #[.slice (some ad) n c, .func (.func fc) #[] caps] w fun e w' => e = .returned (.tuple #[]) ∧ ∃ X, Arr XX w' g (P ++ X ++ Q) ∧ St k S X ∧ On (· = g) w w' := by
 have HX := Aside0.mk (stable_calls XX g o n c ad had fc caps hfc cmpf k hk w0 HC P S Q w hA hw0 hP hS hN)
 clear hA hw0 hP hS hN HC hk had
 go_enter Try.func66, Try.ntmps66
 go_wp2_with fail
 refine HX.out.mono ?_
 rintro e w1 ⟨rfl, X, hA1, hS1, ho1⟩
 have HA1 := Aside0.mk (And.intro hA1 (And.intro hS1 ho1))
 clear hA1 hS1 ho1
 go_wp2
 go_end0
 exact ⟨rfl, X, HA1.out⟩
end Go.Proofs.YtfagobhhhljajaaW.PrintSort

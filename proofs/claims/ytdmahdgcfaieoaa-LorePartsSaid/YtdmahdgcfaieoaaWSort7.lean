/- The stable sort of package slices, the merge (gensort.py). No condition. -/
import Derived.Test.YtdmahdgcfaieoaaWSort5
namespace Go.Proofs.YtdmahdgcfaieoaaW.PrintSort
open Go Go.RowKit Go.Proofs.YtdmahdgcfaieoaaW.PrintWords Go.Proofs.YtdmahdgcfaieoaaW.PrintLast Go.Proofs.YtdmahdgcfaieoaaW.PrintMore Go.Proofs.YtdmahdgcfaieoaaW.PrintReg Go.Proofs.YtdmahdgcfaieoaaW.PrintTree
set_option linter.unusedVariables false
set_option linter.unusedSimpArgs false
set_option maxHeartbeats 4000000 in
set_option maxRecDepth 100000 in
theorem symgen2_calls (XX : List Value) (g o n c : Nat) (ad : Addr) (had : ad = ⟨g, o, none⟩) (fc : Nat) (caps : Array Value) (hfc : ∀ args W, (callFunc fc args).run Try.prog W = .ok (.enter fc args) W) (cmpf : Int → Int → Int) (k : Int → Int) (hk : ∀ x y, cmpf x y < 0 ↔ k x < k y) (w0 : World) (HC : ∀ (x y : Int) (W : World), On (· = g) w0 W → Calls Try.prog fc (#[.int .i32 x, .int .i32 y] ++ caps) W fun e w' => e = .returned (.int .i64 (cmpf x y)) ∧ Below W.heap.size W w')
    (ia im ib : Nat) (P L R Q : List Int) (w : World) (hA : Arr XX w g (P ++ L ++ R ++ Q)) (hw0 : On (· = g) w0 w) (hP : P.length = o + ia) (hL : ia + L.length = im) (hR : im + R.length = ib) (hl2 : 1 < L.length) (hr2 : 1 < R.length) (hS1 : Srt k L) (hS2 : Srt k R) (N : Nat) (hsz : L.length + R.length = N) (hmm0 : ¬ (ia + ib) / 2 < im) (IH : ∀ (ia im ib : Nat) (P L R Q : List Int) (w : World), Arr XX w g (P ++ L ++ R ++ Q) → On (· = g) w0 w → P.length = o + ia → ia + L.length = im → im + R.length = ib → 0 < L.length → 0 < R.length → ib ≤ n → o + n ≤ (P ++ L ++ R ++ Q).length → Srt k L → Srt k R → L.length + R.length < N →
      Calls Try.prog 40 #[.slice (some ad) n c, .int .i64 (ia : Int), .int .i64 (im : Int), .int .i64 (ib : Int), .func (.func fc) #[] caps] w fun e w' => e = .returned (.tuple #[]) ∧ ∃ M, Arr XX w' g (P ++ M ++ Q) ∧ St k (L ++ R) M ∧ On (· = g) w w') (hb : ib ≤ n) (hn : o + n ≤ (P ++ L ++ R ++ Q).length) (hN : n ≤ 1152921504606846975) :
    Calls Try.prog 40 #[.slice (some ad) n c, .int .i64 (ia : Int), .int .i64 (im : Int), .int .i64 (ib : Int), .func (.func fc) #[] caps] w fun e w' => e = .returned (.tuple #[]) ∧ ∃ M, Arr XX w' g (P ++ M ++ Q) ∧ St k (L ++ R) M ∧ On (· = g) w w' := by
  obtain ⟨D, hD⟩ : ∃ D, D = P ++ L ++ R ++ Q := ⟨_, rfl⟩
  rw [← hD] at hA hn
  have HA := Aside0.mk hA
  have HD := Aside0.mk hD
  have HAD := Aside0.mk had
  have HCC := Aside0.mk HC
  have HK := Aside0.mk hk
  have HW0 := Aside0.mk hw0
  have HB := Aside0.mk (And.intro hP (And.intro hL (And.intro hR (And.intro hb (And.intro hn (And.intro hN (And.intro hl2 (And.intro hr2 hsz))))))))
  have HS := Aside0.mk (And.intro hS1 hS2)
  have HIH := Aside0.mk IH
  obtain ⟨l, hl⟩ : ∃ l, l = L.length := ⟨_, rfl⟩
  obtain ⟨r, hr⟩ : ∃ r, r = R.length := ⟨_, rfl⟩
  rw [← hl] at hL hl2
  rw [← hr] at hR hr2
  obtain ⟨s0, mid, nn, p, e1, e2, e3, e4, e5, e6, e7, e8⟩ := gen_places ia im ib l r hL hR hl2 hr2
  have HM : Aside0 (mid = (ia + ib) / 2 ∧ nn = mid + im ∧ p + 1 = nn ∧ ia < mid ∧ mid < ib ∧ nn ≤ ib + ib) := ⟨⟨e5, e3, e4, e6, e7, e8⟩⟩
  have b1 : im ≤ 4611686018427387904 := by omega
  have b2 : ib ≤ 4611686018427387904 := by omega
  have b3 : nn ≤ 4611686018427387904 := by omega
  have b4 : s0 ≤ 4611686018427387904 := by omega
  have hmm : ¬ mid < im := by rw [e5]; exact hmm0
  have h9 := gen_lo2 ia im ib l r mid nn hL hR hl2 hr2 e5 e3 hmm
  obtain ⟨lo, hlo⟩ : ∃ lo : Nat, lo = ia := ⟨_, rfl⟩
  obtain ⟨hi, hhi⟩ : ∃ hi : Nat, hi = im := ⟨_, rfl⟩
  have HLO : Aside0 (((mid < im ∧ lo = nn - ib ∧ hi = mid) ∨ (¬ mid < im ∧ lo = ia ∧ hi = im)) ∧ ia ≤ lo ∧ lo ≤ hi ∧ hi ≤ im ∧ hi ≤ mid ∧ nn ≤ ib + lo ∧ im + hi ≤ nn) := ⟨by rw [hlo, hhi]; exact ⟨.inr ⟨hmm, rfl, rfl⟩, h9⟩⟩
  have HHI := Aside0.mk (And.intro hhi hlo)
  have g1 : ((mid : Int) < (im : Int)) = False := eq_false (by omega)
  have g1n : (mid < im) = False := eq_false hmm
  have hw1 := w_sub im ia l hL b1
  obtain ⟨c1, c1e, c1n⟩ := not_one l hl2
  have hw2 := w_sub ib im r hR b2
  obtain ⟨c2, c2e, c2n⟩ := not_one r hr2
  have hnw := w_add mid im nn e3.symm b3
  have HPW := Aside0.mk (w_pred nn p e4 b3)
  have hsw := w_add ia ib s0 e1.symm b4
  have hmd := w_half s0 mid e2
  have hsm := w_mod s0 b4
  clear hmm0 hmm hlo hhi h9 b1 b2 b3 b4 hA hD had HC hk hw0 hP hL hR hS1 hS2 hb hn hN hl2 hr2 hl hr hsz IH e1 e2 e3 e4 e5 e6 e7 e8
  go_enter Try.func40, Try.ntmps40
  go_wp2_with fail
  try rw [HPW.out]
  clear hw1 c1 c1e c1n hw2 c2 c2e c2n hnw hsw hmd hsm g1 g1n
  rename_i KL hKL
  have HKL := Aside0.mk hKL
  clear hKL
  go_loopw [20, 21] (fun vi vj wr => ∃ i j : Nat, vi = .int .i64 (i : Int) ∧ vj = .int .i64 (j : Int) ∧ Aside0 (Bis (fun h => 0 ≤ cmpf (D.getD (o + (p - h)) 0) (D.getD (o + h) 0)) lo hi i j) ∧ Aside0 (Arr XX wr g D) ∧ Aside0 (On (· = g) w wr)) (fun vi vj _ => (intOf vj).toNat - (intOf vi).toNat)
  case atStart => exact ⟨lo, hi, by rw [HHI.out.2], by rw [HHI.out.1], ⟨Bis.start HLO.out.2.2.1⟩, HA, ⟨On.refl _ _⟩⟩
  case round =>
    obtain ⟨i, j, rfl, rfl, HBS, HAJ, HOJ⟩ := hrel
    have HIJ : Aside0 (lo ≤ i ∧ i ≤ j ∧ j ≤ hi) := ⟨HBS.out.1, HBS.out.2.1, HBS.out.2.2.1⟩
    have HJN : Aside0 (j ≤ n ∧ o + n ≤ D.length ∧ n ≤ 1152921504606846975) := ⟨by have := HB.out; have := HIJ.out; have := HLO.out.2; omega⟩
    by_cases hlt : i < j
    · have hc1 : ((i : Int) < (j : Int)) = True := eq_true (by omega)
      have hc1n : (i < j) = True := eq_true hlt
      obtain ⟨s, hs⟩ : ∃ s : Nat, s = i + j := ⟨_, rfl⟩
      obtain ⟨h, hh⟩ : ∃ h : Nat, h = s / 2 := ⟨_, rfl⟩
      have hsw : wrap64 ((i : Int) + (j : Int)) = (s : Int) := by have := HJN.out; unfold wrap64; omega
      have hsm : (s : Int) % 18446744073709551616 = (s : Int) := by have := HJN.out; omega
      have HHD : Aside0 ((s : Int) / 2 = (h : Int)) := ⟨by omega⟩
      have HH : Aside0 (i ≤ h ∧ h < j) := ⟨by omega⟩
      have HHW : Aside0 (wrap64 ((h : Int) + 1) = ((h + 1 : Nat) : Int)) := ⟨by rw [← i64_w]; have := HJN.out; have := HH.out; exact w64n _ _ (by omega) (by omega)⟩
      have h0 : ((0 : Int) ≤ (h : Int)) = True := eq_true (by omega)
      have h1 : ((h : Int) < (n : Int)) = True := eq_true (by have := HJN.out; have := HH.out; omega)
      have h2 : (h < n) = True := eq_true (by have := HJN.out; have := HH.out; omega)
      obtain ⟨q, hq⟩ : ∃ q : Nat, q = p - h := ⟨_, rfl⟩
      have HQ : Aside0 (h + q = p ∧ q < n ∧ h < n ∧ q = p - h) := ⟨by have := HJN.out; have := HH.out; have := HB.out; have := HIJ.out; have := HM.out; have := HLO.out.2; omega⟩
      have HQW : Aside0 (IntKind.i64.wrap ((p : Int) - (h : Int)) = (q : Int)) := ⟨by rw [i64_w]; have h1 := HQ.out; have h2 := HM.out; have h3 := HB.out; exact w_sub p h q h1.1 (by clear hsw hsm; omega)⟩
      obtain ⟨x, hx⟩ : ∃ x, x = D.getD (o + q) 0 := ⟨_, rfl⟩
      obtain ⟨y, hy⟩ : ∃ y, y = D.getD (o + h) 0 := ⟨_, rfl⟩
      have HXY := Aside0.mk (And.intro hx hy)
      have HXB : Aside0 (o + q < D.length ∧ o + h < D.length) := ⟨by have := HJN.out; have := HQ.out; omega⟩
      have a0 : ((0 : Int) ≤ (q : Int)) = True := eq_true (by omega)
      have a1 : ((q : Int) < (n : Int)) = True := eq_true (by have := HQ.out; omega)
      have a2 : (q < n) = True := eq_true (by have := HQ.out; omega)
      clear hx hy hq
      clear hlt hs hh
      go_wp2_with fail
      rw [HHD.out]
      try rw [hsw]
      clear hsw hsm hc1 hc1n
      by_cases hc : cmpf x y < 0
      · have HCT : Aside0 ((cmpf x y < 0) = True) := ⟨eq_true hc⟩
        clear hc
        refine wp_region_steps 14 rfl rfl (by kernel_rfl) (fun LL a wx => ∃ z : Nat → Value, Aside0 (a = { tmps := List.toArray (.slice (some ad) n c :: .int .i64 (ia : Int) :: .int .i64 (im : Int) :: .int .i64 (ib : Int) :: .func (.func fc) #[] caps :: undef :: undef :: undef :: undef :: undef :: undef :: undef :: undef :: undef :: undef :: undef :: undef :: undef :: .int .i64 (mid : Int) :: .int .i64 (nn : Int) :: .int .i64 (i : Int) :: .int .i64 (j : Int) :: .int .i64 (p : Int) :: .int .i64 (h : Int) :: undef :: .int .i64 (im : Int) :: .int .i64 (ia : Int) :: .int .i64 (l : Int) :: .bool false :: undef :: undef :: undef :: undef :: undef :: undef :: undef :: undef :: undef :: undef :: undef :: undef :: undef :: undef :: undef :: undef :: undef :: undef :: undef :: undef :: undef :: undef :: undef :: undef :: undef :: undef :: undef :: undef :: undef :: undef :: undef :: undef :: undef :: undef :: undef :: undef :: undef :: undef :: undef :: undef :: undef :: undef :: undef :: undef :: undef :: undef :: undef :: undef :: .int .i64 (ib : Int) :: .int .i64 (im : Int) :: .int .i64 (r : Int) :: .bool false :: undef :: undef :: undef :: undef :: undef :: undef :: undef :: undef :: undef :: undef :: undef :: undef :: undef :: undef :: undef :: undef :: undef :: undef :: undef :: undef :: undef :: undef :: undef :: undef :: undef :: undef :: undef :: undef :: undef :: undef :: undef :: undef :: undef :: undef :: undef :: undef :: undef :: undef :: undef :: undef :: undef :: undef :: undef :: undef :: undef :: undef :: undef :: undef :: .int .i64 (ia : Int) :: .int .i64 (ib : Int) :: .int .i64 (s0 : Int) :: .int .u64 (s0 : Int) :: .int .u64 (mid : Int) :: .int .i64 (mid : Int) :: .int .i64 (mid : Int) :: .int .i64 (im : Int) :: .int .i64 (nn : Int) :: .int .i64 (im : Int) :: .int .i64 (mid : Int) :: .bool false :: undef :: undef :: undef :: undef :: .int .i64 (ia : Int) :: .int .i64 (im : Int) :: .int .i64 (nn : Int) :: .int .i64 (p : Int) :: .int .i64 (i : Int) :: .int .i64 (j : Int) :: .bool true :: .int .i64 (i : Int) :: .int .i64 (j : Int) :: .int .i64 (s : Int) :: .int .u64 (s : Int) :: .int .u64 (h : Int) :: .int .i64 (h : Int) :: z 158 :: z 159 :: z 160 :: z 161 :: z 162 :: z 163 :: z 164 :: z 165 :: z 166 :: z 167 :: z 168 :: z 169 :: z 170 :: z 171 :: u172 :: u173 :: u174 :: undef :: undef :: undef :: undef :: undef :: undef :: undef :: undef :: undef :: undef :: undef :: undef :: undef :: undef :: undef :: undef :: undef :: undef :: undef :: undef :: undef :: undef :: undef :: undef :: undef :: undef :: undef :: undef :: undef :: undef :: undef :: undef :: undef :: undef :: undef :: undef :: undef :: undef :: undef :: undef :: undef :: undef :: undef :: undef :: undef :: []), defers := [] } ∧ Tab LL z [(0, 158, .func (.func fc) #[] caps), (1, 159, .slice (some ad) n c), (2, 160, .int .i64 (p : Int)), (3, 161, .int .i64 (h : Int)), (4, 162, .int .i64 (q : Int)), (5, 163, .pointer (some (ad.add q))), (6, 164, .int .i32 x), (7, 165, .slice (some ad) n c), (8, 166, .int .i64 (h : Int)), (9, 167, .pointer (some (ad.add h))), (10, 168, .int .i32 y), (11, 169, .int .i64 (cmpf x y)), (12, 170, .bool true), (13, 171, .bool false)] ∧ Aside0 (Below wr.heap.size wr wx))) ?_ ?_ ?_
        · exact ⟨(put1 (put1 (put1 (put1 (put1 (put1 (put1 (put1 (put1 (put1 (put1 (put1 (put1 (put1 (fun _ => undef) 158 u158) 159 u159) 160 u160) 161 u161) 162 u162) 163 u163) 164 u164) 165 u165) 166 u166) 167 u167) 168 u168) 169 u169) 170 u170) 171 u171), ⟨rfl, Tab.start 14 rfl rfl, ⟨below_drew (Below.refl _ _)⟩⟩⟩
        · refine Steps.cons ?_ (Steps.cons ?_ (Steps.cons ?_ (Steps.cons ?_ (Steps.cons ?_ (Steps.cons ?_ (Steps.cons ?_ (Steps.cons ?_ (Steps.cons ?_ (Steps.cons ?_ (Steps.cons ?_ (Steps.cons ?_ (Steps.cons ?_ (Steps.cons ?_ (Steps.nil))))))))))))))
          · intro LL a wx hI hLk hd K' hK
            obtain ⟨z, hI⟩ := hI
            obtain rfl := hI.out.1
            rw [if_pos (by rfl)]
            go_simp
            exact hK.out _ _ ⟨(put1 z 158 (.func (.func fc) #[] caps)), ⟨rfl, hI.out.2.1.upd 0 rfl rfl rfl rfl, hI.out.2.2⟩⟩
          · intro LL a wx hI hLk hd K' hK
            obtain ⟨z, hI⟩ := hI
            obtain rfl := hI.out.1
            rw [if_pos (by rfl)]
            go_simp
            exact hK.out _ _ ⟨(put1 z 159 (.slice (some ad) n c)), ⟨rfl, hI.out.2.1.upd 1 rfl rfl rfl rfl, hI.out.2.2⟩⟩
          · intro LL a wx hI hLk hd K' hK
            obtain ⟨z, hI⟩ := hI
            obtain rfl := hI.out.1
            rw [if_pos (by rfl)]
            go_simp
            exact hK.out _ _ ⟨(put1 z 160 (.int .i64 (p : Int))), ⟨rfl, hI.out.2.1.upd 2 rfl rfl rfl rfl, hI.out.2.2⟩⟩
          · intro LL a wx hI hLk hd K' hK
            obtain ⟨z, hI⟩ := hI
            obtain rfl := hI.out.1
            rw [if_pos (by rfl)]
            go_simp
            exact hK.out _ _ ⟨(put1 z 161 (.int .i64 (h : Int))), ⟨rfl, hI.out.2.1.upd 3 rfl rfl rfl rfl, hI.out.2.2⟩⟩
          · intro LL a wx hI hLk hd K' hK
            obtain ⟨z, hI⟩ := hI
            obtain rfl := hI.out.1
            have e2 := hI.out.2.1.at 2 rfl (hd 2 rfl)
            have e3 := hI.out.2.1.at 3 rfl (hd 3 rfl)
            have hw := HQW.out
            rw [if_pos (by rfl)]
            go_simp
            exact hK.out _ _ ⟨(put1 (put1 (put1 z 160 (.int .i64 (p : Int))) 161 (.int .i64 (h : Int))) 162 (.int .i64 (q : Int))), ⟨rfl, ((hI.out.2.1.same (s := 160) (v := .int .i64 (p : Int)) e2).same (s := 161) (v := .int .i64 (h : Int)) e3).upd 4 rfl rfl rfl rfl, hI.out.2.2⟩⟩
          · intro LL a wx hI hLk hd K' hK
            obtain ⟨z, hI⟩ := hI
            obtain rfl := hI.out.1
            have e1 := hI.out.2.1.at 1 rfl (hd 1 rfl)
            have e4 := hI.out.2.1.at 4 rfl (hd 4 rfl)
            rw [if_pos (by rfl)]
            go_simp
            exact hK.out _ _ ⟨(put1 (put1 (put1 z 159 (.slice (some ad) n c)) 162 (.int .i64 (q : Int))) 163 (.pointer (some (ad.add q)))), ⟨rfl, ((hI.out.2.1.same (s := 159) (v := .slice (some ad) n c) e1).same (s := 162) (v := .int .i64 (q : Int)) e4).upd 5 rfl rfl rfl rfl, hI.out.2.2⟩⟩
          · intro LL a wx hI hLk hd K' hK
            obtain ⟨z, hI⟩ := hI
            obtain rfl := hI.out.1
            have e5 := hI.out.2.1.at 5 rfl (hd 5 rfl)
            have hb := hI.out.2.2
            have hq := HAJ.out.below hb.out
            have ck := hq.cell HAD.out q (by have := HXB.out; omega)
            rw [← HXY.out.1] at ck
            rw [if_pos (by rfl)]
            go_simp
            exact hK.out _ _ ⟨(put1 (put1 z 163 (.pointer (some (ad.add q)))) 164 (.int .i32 x)), ⟨rfl, (hI.out.2.1.same (s := 163) (v := .pointer (some (ad.add q))) e5).upd 6 rfl rfl rfl rfl, hI.out.2.2⟩⟩
          · intro LL a wx hI hLk hd K' hK
            obtain ⟨z, hI⟩ := hI
            obtain rfl := hI.out.1
            rw [if_pos (by rfl)]
            go_simp
            exact hK.out _ _ ⟨(put1 z 165 (.slice (some ad) n c)), ⟨rfl, hI.out.2.1.upd 7 rfl rfl rfl rfl, hI.out.2.2⟩⟩
          · intro LL a wx hI hLk hd K' hK
            obtain ⟨z, hI⟩ := hI
            obtain rfl := hI.out.1
            rw [if_pos (by rfl)]
            go_simp
            exact hK.out _ _ ⟨(put1 z 166 (.int .i64 (h : Int))), ⟨rfl, hI.out.2.1.upd 8 rfl rfl rfl rfl, hI.out.2.2⟩⟩
          · intro LL a wx hI hLk hd K' hK
            obtain ⟨z, hI⟩ := hI
            obtain rfl := hI.out.1
            have e7 := hI.out.2.1.at 7 rfl (hd 7 rfl)
            have e8 := hI.out.2.1.at 8 rfl (hd 8 rfl)
            rw [if_pos (by rfl)]
            go_simp
            exact hK.out _ _ ⟨(put1 (put1 (put1 z 165 (.slice (some ad) n c)) 166 (.int .i64 (h : Int))) 167 (.pointer (some (ad.add h)))), ⟨rfl, ((hI.out.2.1.same (s := 165) (v := .slice (some ad) n c) e7).same (s := 166) (v := .int .i64 (h : Int)) e8).upd 9 rfl rfl rfl rfl, hI.out.2.2⟩⟩
          · intro LL a wx hI hLk hd K' hK
            obtain ⟨z, hI⟩ := hI
            obtain rfl := hI.out.1
            have e9 := hI.out.2.1.at 9 rfl (hd 9 rfl)
            have hb := hI.out.2.2
            have hq := HAJ.out.below hb.out
            have ck := hq.cell HAD.out h (by have := HXB.out; omega)
            rw [← HXY.out.2] at ck
            rw [if_pos (by rfl)]
            go_simp
            exact hK.out _ _ ⟨(put1 (put1 z 167 (.pointer (some (ad.add h)))) 168 (.int .i32 y)), ⟨rfl, (hI.out.2.1.same (s := 167) (v := .pointer (some (ad.add h))) e9).upd 10 rfl rfl rfl rfl, hI.out.2.2⟩⟩
          · intro LL a wx hI hLk hd K' hK
            obtain ⟨z, hI⟩ := hI
            obtain rfl := hI.out.1
            have e0 := hI.out.2.1.at 0 rfl (hd 0 rfl)
            have e6 := hI.out.2.1.at 6 rfl (hd 6 rfl)
            have e10 := hI.out.2.1.at 10 rfl (hd 10 rfl)
            have hb := hI.out.2.2
            rw [if_pos (by rfl)]
            go_simp
            refine (HCC.out x y wx ((HW0.out.trans HOJ.out).trans (On.of_below hb.out))).mono ?_
            rintro e w' ⟨rfl, hb1⟩
            exact hK.out _ _ ⟨(put1 (put1 (put1 (put1 z 158 (.func (.func fc) #[] caps)) 164 (.int .i32 x)) 168 (.int .i32 y)) 169 (.int .i64 (cmpf x y))), ⟨rfl, (((hI.out.2.1.same (s := 158) (v := .func (.func fc) #[] caps) e0).same (s := 164) (v := .int .i32 x) e6).same (s := 168) (v := .int .i32 y) e10).upd 11 rfl rfl rfl rfl, ⟨below_step hb.out hb1⟩⟩⟩
          · intro LL a wx hI hLk hd K' hK
            obtain ⟨z, hI⟩ := hI
            obtain rfl := hI.out.1
            have e11 := hI.out.2.1.at 11 rfl (hd 11 rfl)
            have hw := HCT.out
            rw [if_pos (by rfl)]
            go_simp
            exact hK.out _ _ ⟨(put1 (put1 z 169 (.int .i64 (cmpf x y))) 170 (.bool true)), ⟨rfl, (hI.out.2.1.same (s := 169) (v := .int .i64 (cmpf x y)) e11).upd 12 rfl rfl rfl rfl, hI.out.2.2⟩⟩
          · intro LL a wx hI hLk hd K' hK
            obtain ⟨z, hI⟩ := hI
            obtain rfl := hI.out.1
            have e12 := hI.out.2.1.at 12 rfl (hd 12 rfl)
            rw [if_pos (by rfl)]
            go_simp
            exact hK.out _ _ ⟨(put1 (put1 z 170 (.bool true)) 171 (.bool false)), ⟨rfl, (hI.out.2.1.same (s := 170) (v := .bool true) e12).upd 13 rfl rfl rfl rfl, hI.out.2.2⟩⟩
        · intro LL a wc hall hI
          obtain ⟨z, hI⟩ := hI
          obtain rfl := hI.out.1
          have hb := hI.out.2.2
          have e13 := hI.out.2.1.at 13 rfl (hall 13 (by decide))
          rw [e13]
          have HBC := hb
          clear hI hb e13 hall
          have HAK := Aside0.mk (HAJ.out.below HBC.out)
          have HOK := Aside0.mk (HOJ.out.trans (On.of_below HBC.out))
          clear HAJ HOJ
          go_wp2_with fail
          first
            | (refine ⟨⟨i, h, rfl, rfl, ⟨HBS.out.down HH.out.1 HH.out.2 (by have h := of_eq_true HCT.out; rw [HXY.out.1, HXY.out.2, HQ.out.2.2.2] at h; exact Int.not_le.2 h)⟩, HAK, HOK⟩, ?_⟩; simp only [intOf]; have := HH.out; omega)
            | (refine ⟨?_, ?_⟩; · (refine ⟨_, _, _, _, _, _, _, _, _, _, _, _, _, _, _, _, _, _, _, _, _, _, _, _, _, _, _, _, _, _, _, _, _, _, _, _, _, _, _, _, _, _, _, _, _, _, _, _, _, _, _, _, _, _, _, _, _, _, _, _, _, _, _, _, _, _, _, _, _, _, _, _, _, _, _, _, _, _, _, _, _, _, _, _, _, _, _, _, _, _, _, _, _, _, _, _, _, _, _, ?_, rfl⟩; exact ⟨i, h, rfl, rfl, ⟨HBS.out.down HH.out.1 HH.out.2 (by have h := of_eq_true HCT.out; rw [HXY.out.1, HXY.out.2, HQ.out.2.2.2] at h; exact Int.not_le.2 h)⟩, HAK, HOK⟩); · (simp only [intOf]; have := HH.out; omega))
      · have HCF : Aside0 ((cmpf x y < 0) = False) := ⟨eq_false hc⟩
        clear hc
        refine wp_region_steps 14 rfl rfl (by kernel_rfl) (fun LL a wx => ∃ z : Nat → Value, Aside0 (a = { tmps := List.toArray (.slice (some ad) n c :: .int .i64 (ia : Int) :: .int .i64 (im : Int) :: .int .i64 (ib : Int) :: .func (.func fc) #[] caps :: undef :: undef :: undef :: undef :: undef :: undef :: undef :: undef :: undef :: undef :: undef :: undef :: undef :: .int .i64 (mid : Int) :: .int .i64 (nn : Int) :: .int .i64 (i : Int) :: .int .i64 (j : Int) :: .int .i64 (p : Int) :: .int .i64 (h : Int) :: undef :: .int .i64 (im : Int) :: .int .i64 (ia : Int) :: .int .i64 (l : Int) :: .bool false :: undef :: undef :: undef :: undef :: undef :: undef :: undef :: undef :: undef :: undef :: undef :: undef :: undef :: undef :: undef :: undef :: undef :: undef :: undef :: undef :: undef :: undef :: undef :: undef :: undef :: undef :: undef :: undef :: undef :: undef :: undef :: undef :: undef :: undef :: undef :: undef :: undef :: undef :: undef :: undef :: undef :: undef :: undef :: undef :: undef :: undef :: undef :: undef :: .int .i64 (ib : Int) :: .int .i64 (im : Int) :: .int .i64 (r : Int) :: .bool false :: undef :: undef :: undef :: undef :: undef :: undef :: undef :: undef :: undef :: undef :: undef :: undef :: undef :: undef :: undef :: undef :: undef :: undef :: undef :: undef :: undef :: undef :: undef :: undef :: undef :: undef :: undef :: undef :: undef :: undef :: undef :: undef :: undef :: undef :: undef :: undef :: undef :: undef :: undef :: undef :: undef :: undef :: undef :: undef :: undef :: undef :: undef :: undef :: .int .i64 (ia : Int) :: .int .i64 (ib : Int) :: .int .i64 (s0 : Int) :: .int .u64 (s0 : Int) :: .int .u64 (mid : Int) :: .int .i64 (mid : Int) :: .int .i64 (mid : Int) :: .int .i64 (im : Int) :: .int .i64 (nn : Int) :: .int .i64 (im : Int) :: .int .i64 (mid : Int) :: .bool false :: undef :: undef :: undef :: undef :: .int .i64 (ia : Int) :: .int .i64 (im : Int) :: .int .i64 (nn : Int) :: .int .i64 (p : Int) :: .int .i64 (i : Int) :: .int .i64 (j : Int) :: .bool true :: .int .i64 (i : Int) :: .int .i64 (j : Int) :: .int .i64 (s : Int) :: .int .u64 (s : Int) :: .int .u64 (h : Int) :: .int .i64 (h : Int) :: z 158 :: z 159 :: z 160 :: z 161 :: z 162 :: z 163 :: z 164 :: z 165 :: z 166 :: z 167 :: z 168 :: z 169 :: z 170 :: z 171 :: u172 :: u173 :: u174 :: undef :: undef :: undef :: undef :: undef :: undef :: undef :: undef :: undef :: undef :: undef :: undef :: undef :: undef :: undef :: undef :: undef :: undef :: undef :: undef :: undef :: undef :: undef :: undef :: undef :: undef :: undef :: undef :: undef :: undef :: undef :: undef :: undef :: undef :: undef :: undef :: undef :: undef :: undef :: undef :: undef :: undef :: undef :: undef :: undef :: []), defers := [] } ∧ Tab LL z [(0, 158, .func (.func fc) #[] caps), (1, 159, .slice (some ad) n c), (2, 160, .int .i64 (p : Int)), (3, 161, .int .i64 (h : Int)), (4, 162, .int .i64 (q : Int)), (5, 163, .pointer (some (ad.add q))), (6, 164, .int .i32 x), (7, 165, .slice (some ad) n c), (8, 166, .int .i64 (h : Int)), (9, 167, .pointer (some (ad.add h))), (10, 168, .int .i32 y), (11, 169, .int .i64 (cmpf x y)), (12, 170, .bool false), (13, 171, .bool true)] ∧ Aside0 (Below wr.heap.size wr wx))) ?_ ?_ ?_
        · exact ⟨(put1 (put1 (put1 (put1 (put1 (put1 (put1 (put1 (put1 (put1 (put1 (put1 (put1 (put1 (fun _ => undef) 158 u158) 159 u159) 160 u160) 161 u161) 162 u162) 163 u163) 164 u164) 165 u165) 166 u166) 167 u167) 168 u168) 169 u169) 170 u170) 171 u171), ⟨rfl, Tab.start 14 rfl rfl, ⟨below_drew (Below.refl _ _)⟩⟩⟩
        · refine Steps.cons ?_ (Steps.cons ?_ (Steps.cons ?_ (Steps.cons ?_ (Steps.cons ?_ (Steps.cons ?_ (Steps.cons ?_ (Steps.cons ?_ (Steps.cons ?_ (Steps.cons ?_ (Steps.cons ?_ (Steps.cons ?_ (Steps.cons ?_ (Steps.cons ?_ (Steps.nil))))))))))))))
          · intro LL a wx hI hLk hd K' hK
            obtain ⟨z, hI⟩ := hI
            obtain rfl := hI.out.1
            rw [if_pos (by rfl)]
            go_simp
            exact hK.out _ _ ⟨(put1 z 158 (.func (.func fc) #[] caps)), ⟨rfl, hI.out.2.1.upd 0 rfl rfl rfl rfl, hI.out.2.2⟩⟩
          · intro LL a wx hI hLk hd K' hK
            obtain ⟨z, hI⟩ := hI
            obtain rfl := hI.out.1
            rw [if_pos (by rfl)]
            go_simp
            exact hK.out _ _ ⟨(put1 z 159 (.slice (some ad) n c)), ⟨rfl, hI.out.2.1.upd 1 rfl rfl rfl rfl, hI.out.2.2⟩⟩
          · intro LL a wx hI hLk hd K' hK
            obtain ⟨z, hI⟩ := hI
            obtain rfl := hI.out.1
            rw [if_pos (by rfl)]
            go_simp
            exact hK.out _ _ ⟨(put1 z 160 (.int .i64 (p : Int))), ⟨rfl, hI.out.2.1.upd 2 rfl rfl rfl rfl, hI.out.2.2⟩⟩
          · intro LL a wx hI hLk hd K' hK
            obtain ⟨z, hI⟩ := hI
            obtain rfl := hI.out.1
            rw [if_pos (by rfl)]
            go_simp
            exact hK.out _ _ ⟨(put1 z 161 (.int .i64 (h : Int))), ⟨rfl, hI.out.2.1.upd 3 rfl rfl rfl rfl, hI.out.2.2⟩⟩
          · intro LL a wx hI hLk hd K' hK
            obtain ⟨z, hI⟩ := hI
            obtain rfl := hI.out.1
            have e2 := hI.out.2.1.at 2 rfl (hd 2 rfl)
            have e3 := hI.out.2.1.at 3 rfl (hd 3 rfl)
            have hw := HQW.out
            rw [if_pos (by rfl)]
            go_simp
            exact hK.out _ _ ⟨(put1 (put1 (put1 z 160 (.int .i64 (p : Int))) 161 (.int .i64 (h : Int))) 162 (.int .i64 (q : Int))), ⟨rfl, ((hI.out.2.1.same (s := 160) (v := .int .i64 (p : Int)) e2).same (s := 161) (v := .int .i64 (h : Int)) e3).upd 4 rfl rfl rfl rfl, hI.out.2.2⟩⟩
          · intro LL a wx hI hLk hd K' hK
            obtain ⟨z, hI⟩ := hI
            obtain rfl := hI.out.1
            have e1 := hI.out.2.1.at 1 rfl (hd 1 rfl)
            have e4 := hI.out.2.1.at 4 rfl (hd 4 rfl)
            rw [if_pos (by rfl)]
            go_simp
            exact hK.out _ _ ⟨(put1 (put1 (put1 z 159 (.slice (some ad) n c)) 162 (.int .i64 (q : Int))) 163 (.pointer (some (ad.add q)))), ⟨rfl, ((hI.out.2.1.same (s := 159) (v := .slice (some ad) n c) e1).same (s := 162) (v := .int .i64 (q : Int)) e4).upd 5 rfl rfl rfl rfl, hI.out.2.2⟩⟩
          · intro LL a wx hI hLk hd K' hK
            obtain ⟨z, hI⟩ := hI
            obtain rfl := hI.out.1
            have e5 := hI.out.2.1.at 5 rfl (hd 5 rfl)
            have hb := hI.out.2.2
            have hq := HAJ.out.below hb.out
            have ck := hq.cell HAD.out q (by have := HXB.out; omega)
            rw [← HXY.out.1] at ck
            rw [if_pos (by rfl)]
            go_simp
            exact hK.out _ _ ⟨(put1 (put1 z 163 (.pointer (some (ad.add q)))) 164 (.int .i32 x)), ⟨rfl, (hI.out.2.1.same (s := 163) (v := .pointer (some (ad.add q))) e5).upd 6 rfl rfl rfl rfl, hI.out.2.2⟩⟩
          · intro LL a wx hI hLk hd K' hK
            obtain ⟨z, hI⟩ := hI
            obtain rfl := hI.out.1
            rw [if_pos (by rfl)]
            go_simp
            exact hK.out _ _ ⟨(put1 z 165 (.slice (some ad) n c)), ⟨rfl, hI.out.2.1.upd 7 rfl rfl rfl rfl, hI.out.2.2⟩⟩
          · intro LL a wx hI hLk hd K' hK
            obtain ⟨z, hI⟩ := hI
            obtain rfl := hI.out.1
            rw [if_pos (by rfl)]
            go_simp
            exact hK.out _ _ ⟨(put1 z 166 (.int .i64 (h : Int))), ⟨rfl, hI.out.2.1.upd 8 rfl rfl rfl rfl, hI.out.2.2⟩⟩
          · intro LL a wx hI hLk hd K' hK
            obtain ⟨z, hI⟩ := hI
            obtain rfl := hI.out.1
            have e7 := hI.out.2.1.at 7 rfl (hd 7 rfl)
            have e8 := hI.out.2.1.at 8 rfl (hd 8 rfl)
            rw [if_pos (by rfl)]
            go_simp
            exact hK.out _ _ ⟨(put1 (put1 (put1 z 165 (.slice (some ad) n c)) 166 (.int .i64 (h : Int))) 167 (.pointer (some (ad.add h)))), ⟨rfl, ((hI.out.2.1.same (s := 165) (v := .slice (some ad) n c) e7).same (s := 166) (v := .int .i64 (h : Int)) e8).upd 9 rfl rfl rfl rfl, hI.out.2.2⟩⟩
          · intro LL a wx hI hLk hd K' hK
            obtain ⟨z, hI⟩ := hI
            obtain rfl := hI.out.1
            have e9 := hI.out.2.1.at 9 rfl (hd 9 rfl)
            have hb := hI.out.2.2
            have hq := HAJ.out.below hb.out
            have ck := hq.cell HAD.out h (by have := HXB.out; omega)
            rw [← HXY.out.2] at ck
            rw [if_pos (by rfl)]
            go_simp
            exact hK.out _ _ ⟨(put1 (put1 z 167 (.pointer (some (ad.add h)))) 168 (.int .i32 y)), ⟨rfl, (hI.out.2.1.same (s := 167) (v := .pointer (some (ad.add h))) e9).upd 10 rfl rfl rfl rfl, hI.out.2.2⟩⟩
          · intro LL a wx hI hLk hd K' hK
            obtain ⟨z, hI⟩ := hI
            obtain rfl := hI.out.1
            have e0 := hI.out.2.1.at 0 rfl (hd 0 rfl)
            have e6 := hI.out.2.1.at 6 rfl (hd 6 rfl)
            have e10 := hI.out.2.1.at 10 rfl (hd 10 rfl)
            have hb := hI.out.2.2
            rw [if_pos (by rfl)]
            go_simp
            refine (HCC.out x y wx ((HW0.out.trans HOJ.out).trans (On.of_below hb.out))).mono ?_
            rintro e w' ⟨rfl, hb1⟩
            exact hK.out _ _ ⟨(put1 (put1 (put1 (put1 z 158 (.func (.func fc) #[] caps)) 164 (.int .i32 x)) 168 (.int .i32 y)) 169 (.int .i64 (cmpf x y))), ⟨rfl, (((hI.out.2.1.same (s := 158) (v := .func (.func fc) #[] caps) e0).same (s := 164) (v := .int .i32 x) e6).same (s := 168) (v := .int .i32 y) e10).upd 11 rfl rfl rfl rfl, ⟨below_step hb.out hb1⟩⟩⟩
          · intro LL a wx hI hLk hd K' hK
            obtain ⟨z, hI⟩ := hI
            obtain rfl := hI.out.1
            have e11 := hI.out.2.1.at 11 rfl (hd 11 rfl)
            have hw := HCF.out
            rw [if_pos (by rfl)]
            go_simp
            exact hK.out _ _ ⟨(put1 (put1 z 169 (.int .i64 (cmpf x y))) 170 (.bool false)), ⟨rfl, (hI.out.2.1.same (s := 169) (v := .int .i64 (cmpf x y)) e11).upd 12 rfl rfl rfl rfl, hI.out.2.2⟩⟩
          · intro LL a wx hI hLk hd K' hK
            obtain ⟨z, hI⟩ := hI
            obtain rfl := hI.out.1
            have e12 := hI.out.2.1.at 12 rfl (hd 12 rfl)
            rw [if_pos (by rfl)]
            go_simp
            exact hK.out _ _ ⟨(put1 (put1 z 170 (.bool false)) 171 (.bool true)), ⟨rfl, (hI.out.2.1.same (s := 170) (v := .bool false) e12).upd 13 rfl rfl rfl rfl, hI.out.2.2⟩⟩
        · intro LL a wc hall hI
          obtain ⟨z, hI⟩ := hI
          obtain rfl := hI.out.1
          have hb := hI.out.2.2
          have e13 := hI.out.2.1.at 13 rfl (hall 13 (by decide))
          rw [e13]
          have HBC := hb
          clear hI hb e13 hall
          have HAK := Aside0.mk (HAJ.out.below HBC.out)
          have HOK := Aside0.mk (HOJ.out.trans (On.of_below HBC.out))
          clear HAJ HOJ
          go_wp2_with fail
          first
            | (refine ⟨⟨h + 1, j, by rw [HHW.out], rfl, ⟨HBS.out.up HH.out.1 HH.out.2 (by have h := of_eq_false HCF.out; rw [HXY.out.1, HXY.out.2, HQ.out.2.2.2] at h; exact Int.not_lt.1 h)⟩, HAK, HOK⟩, ?_⟩; rw [HHW.out]; simp only [intOf]; have := HH.out; omega)
            | (refine ⟨?_, ?_⟩; · (refine ⟨_, _, _, _, _, _, _, _, _, _, _, _, _, _, _, _, _, _, _, _, _, _, _, _, _, _, _, _, _, _, _, _, _, _, _, _, _, _, _, _, _, _, _, _, _, _, _, _, _, _, _, _, _, _, _, _, _, _, _, _, _, _, _, _, _, _, _, _, _, _, _, _, _, _, _, _, _, _, _, _, _, _, _, _, _, _, _, _, _, _, _, _, _, _, _, _, _, _, _, ?_, rfl⟩; exact ⟨h + 1, j, by rw [HHW.out], rfl, ⟨HBS.out.up HH.out.1 HH.out.2 (by have h := of_eq_false HCF.out; rw [HXY.out.1, HXY.out.2, HQ.out.2.2.2] at h; exact Int.not_lt.1 h)⟩, HAK, HOK⟩); · (show (intOf (.int .i64 (j : Int))).toNat - (intOf (.int .i64 (wrap64 ((h : Int) + 1)))).toNat < (intOf (.int .i64 (j : Int))).toNat - (intOf (.int .i64 (i : Int))).toNat; rw [HHW.out]; simp only [intOf]; have := HH.out; omega))
    · have hc1 : ((i : Int) < (j : Int)) = False := eq_false (by omega)
      have hc1n : (i < j) = False := eq_false hlt
      obtain rfl : i = j := by have := HIJ.out; omega
      clear hlt
      obtain ⟨e, he⟩ : ∃ e : Nat, e = nn - i := ⟨_, rfl⟩
      have hCUT := gen_cut (k := k) (T := fun h => 0 ≤ cmpf (D.getD (o + (p - h)) 0) (D.getD (o + h) 0)) (P := P) (L := L) (R := R) (Q := Q) HS.out.1 HS.out.2 HB.out.1 HB.out.2.1 HB.out.2.2.1 (Nat.lt_trans Nat.zero_lt_one HB.out.2.2.2.2.2.2.1) (Nat.lt_trans Nat.zero_lt_one HB.out.2.2.2.2.2.2.2.1) HM.out.1 HM.out.2.1 HLO.out.1 (fun c _ _ => by rw [← HD.out, ← Int.not_lt, HK.out, show nn - 1 - c = p - c by have := HM.out.2.2.1; omega]) HBS.out he
      have HE := Aside0.mk hCUT.1
      have HX := Aside0.mk hCUT.2
      have hew := w_sub nn i e (by have := HIJ.out; have := HLO.out.2; have := HE.out; omega) (by have := HM.out; have := HB.out; omega)
      clear hCUT he
      have HLN := Aside0.mk (gen_lens L R ia im ib i e mid HB.out.2.1 HB.out.2.2.1 HE.out)
      have HBN : Aside0 (e ≤ n ∧ mid ≤ n ∧ ib ≤ n ∧ o + n ≤ D.length ∧ n ≤ 1152921504606846975) := ⟨by have := HB.out; have := HE.out; omega⟩
      have HMI : Aside0 (ia < mid ∧ mid < ib) := ⟨⟨HM.out.2.2.2.1, HM.out.2.2.2.2.1⟩⟩
      have HEW := Aside0.mk hew
      clear hew
      go_wp2_with fail
      refine HKL.out _ _ ?_
      exact tail1 XX g o n c ad fc caps k w0 w ia im ib P L R Q N mid nn i e D HAD HD HW0 HB HS HMI HE HX HLN HBN HIH _ ⟨fun ts w' hM => by go_end0; exact ⟨rfl, hM⟩⟩ HEW _ HAJ HOJ
end Go.Proofs.YtdmahdgcfaieoaaW.PrintSort

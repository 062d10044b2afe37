/- The stable sort of package slices, the merge (gensort.py). No condition. -/
import Derived.Test.YtdmahdgcfaieoaaWSort2
import Derived.Test.YtdmahdgcfaieoaaWSymP
namespace Go.Proofs.YtdmahdgcfaieoaaW.PrintSort
open Go Go.RowKit Go.Proofs.YtdmahdgcfaieoaaW.PrintWords Go.Proofs.YtdmahdgcfaieoaaW.PrintLast Go.Proofs.YtdmahdgcfaieoaaW.PrintMore Go.Proofs.YtdmahdgcfaieoaaW.PrintReg Go.Proofs.YtdmahdgcfaieoaaW.PrintTree
set_option linter.unusedVariables false
set_option linter.unusedSimpArgs false
set_option maxHeartbeats 4000000 in
set_option maxRecDepth 100000 in
theorem symright_calls (XX : List Value) (g o n c : Nat) (ad : Addr) (had : ad = ⟨g, o, none⟩) (fc : Nat) (caps : Array Value) (hfc : ∀ args W, (callFunc fc args).run Try.prog W = .ok (.enter fc args) W) (cmpf : Int → Int → Int) (k : Int → Int) (hk : ∀ x y, cmpf x y < 0 ↔ k x < k y) (w0 : World) (HC : ∀ (x y : Int) (W : World), On (· = g) w0 W → Calls Try.prog fc (#[.int .i32 x, .int .i32 y] ++ caps) W fun e w' => e = .returned (.int .i64 (cmpf x y)) ∧ Below W.heap.size W w')
    (ia im ib : Nat) (y0 : Int) (P L Q : List Int) (w : World) (hA : Arr XX w g (P ++ L ++ [y0] ++ Q)) (hw0 : On (· = g) w0 w) (hP : P.length = o + ia) (hL : ia + L.length = im) (hR : im + 1 = ib) (hne : L.length ≠ 1) (hS : Srt k L) (hb : ib ≤ n) (hn : o + n ≤ (P ++ L ++ [y0] ++ Q).length) (hN : n ≤ 1152921504606846975) :
    Calls Try.prog 40 #[.slice (some ad) n c, .int .i64 (ia : Int), .int .i64 (im : Int), .int .i64 (ib : Int), .func (.func fc) #[] caps] w fun e w' => e = .returned (.tuple #[]) ∧ ∃ M, Arr XX w' g (P ++ M ++ Q) ∧ St k (L ++ [y0]) M ∧ On (· = g) w w' := by
  obtain ⟨D, hD⟩ : ∃ D, D = P ++ L ++ [y0] ++ Q := ⟨_, rfl⟩
  rw [← hD] at hA hn
  have HA := Aside0.mk hA
  have HD := Aside0.mk hD
  have HAD := Aside0.mk had
  have HCC := Aside0.mk HC
  have HK := Aside0.mk hk
  have HW0 := Aside0.mk hw0
  have HB := Aside0.mk (And.intro hP (And.intro hL (And.intro hR (And.intro hb (And.intro hn hN)))))
  have HS := Aside0.mk hS
  obtain ⟨l, hl⟩ : ∃ l, l = L.length := ⟨_, rfl⟩
  have hw1 : wrap64 ((im : Int) - (ia : Int)) = (l : Int) := by unfold wrap64; omega
  have hw2 : wrap64 ((ib : Int) - (im : Int)) = 1 := by unfold wrap64; omega
  have c1 : ((l : Int) == 1) = false := by rw [beq_eq_false_iff_ne]; omega
  have c1e : ((l : Int) = 1) = False := eq_false (by omega)
  have c1n : (l = 1) = False := eq_false (by omega)
  have HX0 : Aside0 (y0 = D.getD (o + im) 0) := ⟨by
    rw [hD, show o + im = P.length + L.length + 0 by omega, at_behind P L [y0] Q 0 (by simp)]; rfl⟩
  have HT : Aside0 (∀ s, s < L.length → (0 ≤ cmpf y0 (D.getD (o + (ia + s)) 0) ↔ k (L.getD s 0) ≤ k y0)) := ⟨fun s hs => by
    rw [← Int.not_lt, ← Int.not_lt, hk, hD, show o + (ia + s) = P.length + s by omega, at_ahead P L [y0] Q s hs]⟩
  clear hA hD had HC hk hw0 hP hL hR hS hb hn hN hl hne
  go_enter Try.func40, Try.ntmps40
  go_wp2_with fail
  try rw [hw1]
  try rw [hw2]
  clear hw1 hw2 c1 c1e c1n
  go_loopw [14, 15] (fun vi vj wr => ∃ i j : Nat, vi = .int .i64 (i : Int) ∧ vj = .int .i64 (j : Int) ∧ Aside0 (Bis (fun h => 0 ≤ cmpf y0 (D.getD (o + h) 0)) ia im i j) ∧ Aside0 (Arr XX wr g D) ∧ Aside0 (On (· = g) w wr)) (fun vi vj _ => (intOf vj).toNat - (intOf vi).toNat)
  case atStart => exact ⟨ia, im, rfl, rfl, ⟨Bis.start (by have := HB.out; omega)⟩, HA, ⟨On.refl _ _⟩⟩
  case round =>
    obtain ⟨i, j, rfl, rfl, HBS, HAJ, HOJ⟩ := hrel
    have HIJ : Aside0 (ia ≤ i ∧ i ≤ j ∧ j ≤ im) := ⟨HBS.out.1, HBS.out.2.1, HBS.out.2.2.1⟩
    have HJN : Aside0 (j ≤ n ∧ o + n ≤ D.length ∧ n ≤ 1152921504606846975) := ⟨by have := HB.out; have := HIJ.out; omega⟩
    by_cases hlt : i < j
    · have hc1 : ((i : Int) < (j : Int)) = True := eq_true (by omega)
      have hc1n : (i < j) = True := eq_true hlt
      obtain ⟨s, hs⟩ : ∃ s : Nat, s = i + j := ⟨_, rfl⟩
      obtain ⟨h, hh⟩ : ∃ h : Nat, h = s / 2 := ⟨_, rfl⟩
      have hsw : wrap64 ((i : Int) + (j : Int)) = (s : Int) := by have := HJN.out; unfold wrap64; omega
      have hsm : (s : Int) % 18446744073709551616 = (s : Int) := by have := HJN.out; omega
      have HHD : Aside0 ((s : Int) / 2 = (h : Int)) := ⟨by omega⟩
      have HH : Aside0 (i ≤ h ∧ h < j) := ⟨by omega⟩
      have HHW : Aside0 (wrap64 ((h : Int) + 1) = ((h + 1 : Nat) : Int)) := ⟨by rw [← i64_w]; have := HJN.out; have := HH.out; exact w64n _ _ (by omega) (by omega)⟩
      have h0 : ((0 : Int) ≤ (h : Int)) = True := eq_true (by omega)
      have h1 : ((h : Int) < (n : Int)) = True := eq_true (by have := HJN.out; have := HH.out; omega)
      have h2 : (h < n) = True := eq_true (by have := HJN.out; have := HH.out; omega)
      obtain ⟨x, hx⟩ : ∃ x, x = D.getD (o + im) 0 := ⟨_, rfl⟩
      obtain ⟨y, hy⟩ : ∃ y, y = D.getD (o + h) 0 := ⟨_, rfl⟩
      have HXY := Aside0.mk (And.intro hx hy)
      have HXB : Aside0 (o + im < D.length ∧ o + h < D.length) := ⟨by have := HJN.out; have := HH.out; have := HB.out; have := HIJ.out; omega⟩
      have HYX : Aside0 (x = y0) := ⟨by rw [hx, HX0.out]⟩
      have a0 : ((0 : Int) ≤ (im : Int)) = True := eq_true (by omega)
      have a1 : ((im : Int) < (n : Int)) = True := eq_true (by have := HJN.out; have := HB.out; have := HIJ.out; omega)
      have a2 : (im < n) = True := eq_true (by have := HJN.out; have := HB.out; have := HIJ.out; omega)
      clear hx hy
      clear hlt hs hh
      go_wp2_with fail
      rw [HHD.out]
      try rw [hsw]
      clear hsw hsm hc1 hc1n
      by_cases hc : cmpf x y < 0
      · have HCT : Aside0 ((cmpf x y < 0) = True) := ⟨eq_true hc⟩
        clear hc
        refine wp_region_steps 12 rfl rfl (by kernel_rfl) (fun LL a wx => ∃ z : Nat → Value, Aside0 (a = { tmps := List.toArray (.slice (some ad) n c :: .int .i64 (ia : Int) :: .int .i64 (im : Int) :: .int .i64 (ib : Int) :: .func (.func fc) #[] caps :: undef :: undef :: undef :: undef :: undef :: undef :: undef :: undef :: undef :: .int .i64 (i : Int) :: .int .i64 (j : Int) :: .int .i64 (h : Int) :: undef :: undef :: undef :: undef :: undef :: undef :: undef :: undef :: .int .i64 (im : Int) :: .int .i64 (ia : Int) :: .int .i64 (l : Int) :: .bool false :: undef :: undef :: undef :: undef :: undef :: undef :: undef :: undef :: undef :: undef :: undef :: undef :: undef :: undef :: undef :: undef :: undef :: undef :: undef :: undef :: undef :: undef :: undef :: undef :: undef :: undef :: undef :: undef :: undef :: undef :: undef :: undef :: undef :: undef :: undef :: undef :: undef :: undef :: undef :: undef :: undef :: undef :: undef :: undef :: undef :: undef :: undef :: undef :: .int .i64 (ib : Int) :: .int .i64 (im : Int) :: .int .i64 1 :: .bool true :: .int .i64 (ia : Int) :: .int .i64 (im : Int) :: .int .i64 (i : Int) :: .int .i64 (j : Int) :: .bool true :: .int .i64 (i : Int) :: .int .i64 (j : Int) :: .int .i64 (s : Int) :: .int .u64 (s : Int) :: .int .u64 (h : Int) :: .int .i64 (h : Int) :: z 92 :: z 93 :: z 94 :: z 95 :: z 96 :: z 97 :: z 98 :: z 99 :: z 100 :: z 101 :: z 102 :: z 103 :: u104 :: u105 :: u106 :: undef :: undef :: undef :: undef :: undef :: undef :: undef :: undef :: undef :: undef :: undef :: undef :: undef :: undef :: undef :: undef :: undef :: undef :: undef :: undef :: undef :: undef :: undef :: undef :: undef :: undef :: undef :: undef :: undef :: undef :: undef :: undef :: undef :: undef :: undef :: undef :: undef :: undef :: undef :: undef :: undef :: undef :: undef :: undef :: undef :: undef :: undef :: undef :: undef :: undef :: undef :: undef :: undef :: undef :: undef :: undef :: undef :: undef :: undef :: undef :: undef :: undef :: undef :: undef :: undef :: undef :: undef :: undef :: undef :: undef :: undef :: undef :: undef :: undef :: undef :: undef :: undef :: undef :: undef :: undef :: undef :: undef :: undef :: undef :: undef :: undef :: undef :: undef :: undef :: undef :: undef :: undef :: undef :: undef :: undef :: undef :: undef :: undef :: undef :: undef :: undef :: undef :: undef :: undef :: undef :: undef :: undef :: undef :: undef :: undef :: undef :: undef :: undef :: []), defers := [] } ∧ Tab LL z [(0, 92, .func (.func fc) #[] caps), (1, 93, .slice (some ad) n c), (2, 94, .int .i64 (im : Int)), (3, 95, .pointer (some (ad.add im))), (4, 96, .int .i32 x), (5, 97, .slice (some ad) n c), (6, 98, .int .i64 (h : Int)), (7, 99, .pointer (some (ad.add h))), (8, 100, .int .i32 y), (9, 101, .int .i64 (cmpf x y)), (10, 102, .bool true), (11, 103, .bool false)] ∧ Aside0 (Below wr.heap.size wr wx))) ?_ ?_ ?_
        · exact ⟨(put1 (put1 (put1 (put1 (put1 (put1 (put1 (put1 (put1 (put1 (put1 (put1 (fun _ => undef) 92 u92) 93 u93) 94 u94) 95 u95) 96 u96) 97 u97) 98 u98) 99 u99) 100 u100) 101 u101) 102 u102) 103 u103), ⟨rfl, Tab.start 12 rfl rfl, ⟨below_drew (Below.refl _ _)⟩⟩⟩
        · refine Steps.cons ?_ (Steps.cons ?_ (Steps.cons ?_ (Steps.cons ?_ (Steps.cons ?_ (Steps.cons ?_ (Steps.cons ?_ (Steps.cons ?_ (Steps.cons ?_ (Steps.cons ?_ (Steps.cons ?_ (Steps.cons ?_ (Steps.nil))))))))))))
          · intro LL a wx hI hLk hd K' hK
            obtain ⟨z, hI⟩ := hI
            obtain rfl := hI.out.1
            rw [if_pos (by rfl)]
            go_simp
            exact hK.out _ _ ⟨(put1 z 92 (.func (.func fc) #[] caps)), ⟨rfl, hI.out.2.1.upd 0 rfl rfl rfl rfl, hI.out.2.2⟩⟩
          · intro LL a wx hI hLk hd K' hK
            obtain ⟨z, hI⟩ := hI
            obtain rfl := hI.out.1
            rw [if_pos (by rfl)]
            go_simp
            exact hK.out _ _ ⟨(put1 z 93 (.slice (some ad) n c)), ⟨rfl, hI.out.2.1.upd 1 rfl rfl rfl rfl, hI.out.2.2⟩⟩
          · intro LL a wx hI hLk hd K' hK
            obtain ⟨z, hI⟩ := hI
            obtain rfl := hI.out.1
            rw [if_pos (by rfl)]
            go_simp
            exact hK.out _ _ ⟨(put1 z 94 (.int .i64 (im : Int))), ⟨rfl, hI.out.2.1.upd 2 rfl rfl rfl rfl, hI.out.2.2⟩⟩
          · intro LL a wx hI hLk hd K' hK
            obtain ⟨z, hI⟩ := hI
            obtain rfl := hI.out.1
            have e1 := hI.out.2.1.at 1 rfl (hd 1 rfl)
            have e2 := hI.out.2.1.at 2 rfl (hd 2 rfl)
            rw [if_pos (by rfl)]
            go_simp
            exact hK.out _ _ ⟨(put1 (put1 (put1 z 93 (.slice (some ad) n c)) 94 (.int .i64 (im : Int))) 95 (.pointer (some (ad.add im)))), ⟨rfl, ((hI.out.2.1.same (s := 93) (v := .slice (some ad) n c) e1).same (s := 94) (v := .int .i64 (im : Int)) e2).upd 3 rfl rfl rfl rfl, hI.out.2.2⟩⟩
          · intro LL a wx hI hLk hd K' hK
            obtain ⟨z, hI⟩ := hI
            obtain rfl := hI.out.1
            have e3 := hI.out.2.1.at 3 rfl (hd 3 rfl)
            have hb := hI.out.2.2
            have hq := HAJ.out.below hb.out
            have ck := hq.cell HAD.out im (by have := HXB.out; omega)
            rw [← HXY.out.1] at ck
            rw [if_pos (by rfl)]
            go_simp
            exact hK.out _ _ ⟨(put1 (put1 z 95 (.pointer (some (ad.add im)))) 96 (.int .i32 x)), ⟨rfl, (hI.out.2.1.same (s := 95) (v := .pointer (some (ad.add im))) e3).upd 4 rfl rfl rfl rfl, hI.out.2.2⟩⟩
          · intro LL a wx hI hLk hd K' hK
            obtain ⟨z, hI⟩ := hI
            obtain rfl := hI.out.1
            rw [if_pos (by rfl)]
            go_simp
            exact hK.out _ _ ⟨(put1 z 97 (.slice (some ad) n c)), ⟨rfl, hI.out.2.1.upd 5 rfl rfl rfl rfl, hI.out.2.2⟩⟩
          · intro LL a wx hI hLk hd K' hK
            obtain ⟨z, hI⟩ := hI
            obtain rfl := hI.out.1
            rw [if_pos (by rfl)]
            go_simp
            exact hK.out _ _ ⟨(put1 z 98 (.int .i64 (h : Int))), ⟨rfl, hI.out.2.1.upd 6 rfl rfl rfl rfl, hI.out.2.2⟩⟩
          · intro LL a wx hI hLk hd K' hK
            obtain ⟨z, hI⟩ := hI
            obtain rfl := hI.out.1
            have e5 := hI.out.2.1.at 5 rfl (hd 5 rfl)
            have e6 := hI.out.2.1.at 6 rfl (hd 6 rfl)
            rw [if_pos (by rfl)]
            go_simp
            exact hK.out _ _ ⟨(put1 (put1 (put1 z 97 (.slice (some ad) n c)) 98 (.int .i64 (h : Int))) 99 (.pointer (some (ad.add h)))), ⟨rfl, ((hI.out.2.1.same (s := 97) (v := .slice (some ad) n c) e5).same (s := 98) (v := .int .i64 (h : Int)) e6).upd 7 rfl rfl rfl rfl, hI.out.2.2⟩⟩
          · intro LL a wx hI hLk hd K' hK
            obtain ⟨z, hI⟩ := hI
            obtain rfl := hI.out.1
            have e7 := hI.out.2.1.at 7 rfl (hd 7 rfl)
            have hb := hI.out.2.2
            have hq := HAJ.out.below hb.out
            have ck := hq.cell HAD.out h (by have := HXB.out; omega)
            rw [← HXY.out.2] at ck
            rw [if_pos (by rfl)]
            go_simp
            exact hK.out _ _ ⟨(put1 (put1 z 99 (.pointer (some (ad.add h)))) 100 (.int .i32 y)), ⟨rfl, (hI.out.2.1.same (s := 99) (v := .pointer (some (ad.add h))) e7).upd 8 rfl rfl rfl rfl, hI.out.2.2⟩⟩
          · intro LL a wx hI hLk hd K' hK
            obtain ⟨z, hI⟩ := hI
            obtain rfl := hI.out.1
            have e0 := hI.out.2.1.at 0 rfl (hd 0 rfl)
            have e4 := hI.out.2.1.at 4 rfl (hd 4 rfl)
            have e8 := hI.out.2.1.at 8 rfl (hd 8 rfl)
            have hb := hI.out.2.2
            rw [if_pos (by rfl)]
            go_simp
            refine (HCC.out x y wx ((HW0.out.trans HOJ.out).trans (On.of_below hb.out))).mono ?_
            rintro e w' ⟨rfl, hb1⟩
            exact hK.out _ _ ⟨(put1 (put1 (put1 (put1 z 92 (.func (.func fc) #[] caps)) 96 (.int .i32 x)) 100 (.int .i32 y)) 101 (.int .i64 (cmpf x y))), ⟨rfl, (((hI.out.2.1.same (s := 92) (v := .func (.func fc) #[] caps) e0).same (s := 96) (v := .int .i32 x) e4).same (s := 100) (v := .int .i32 y) e8).upd 9 rfl rfl rfl rfl, ⟨below_step hb.out hb1⟩⟩⟩
          · intro LL a wx hI hLk hd K' hK
            obtain ⟨z, hI⟩ := hI
            obtain rfl := hI.out.1
            have e9 := hI.out.2.1.at 9 rfl (hd 9 rfl)
            have hw := HCT.out
            rw [if_pos (by rfl)]
            go_simp
            exact hK.out _ _ ⟨(put1 (put1 z 101 (.int .i64 (cmpf x y))) 102 (.bool true)), ⟨rfl, (hI.out.2.1.same (s := 101) (v := .int .i64 (cmpf x y)) e9).upd 10 rfl rfl rfl rfl, hI.out.2.2⟩⟩
          · intro LL a wx hI hLk hd K' hK
            obtain ⟨z, hI⟩ := hI
            obtain rfl := hI.out.1
            have e10 := hI.out.2.1.at 10 rfl (hd 10 rfl)
            rw [if_pos (by rfl)]
            go_simp
            exact hK.out _ _ ⟨(put1 (put1 z 102 (.bool true)) 103 (.bool false)), ⟨rfl, (hI.out.2.1.same (s := 102) (v := .bool true) e10).upd 11 rfl rfl rfl rfl, hI.out.2.2⟩⟩
        · intro LL a wc hall hI
          obtain ⟨z, hI⟩ := hI
          obtain rfl := hI.out.1
          have hb := hI.out.2.2
          have e11 := hI.out.2.1.at 11 rfl (hall 11 (by decide))
          rw [e11]
          have HBC := hb
          clear hI hb e11 hall
          have HAK := Aside0.mk (HAJ.out.below HBC.out)
          have HOK := Aside0.mk (HOJ.out.trans (On.of_below HBC.out))
          clear HAJ HOJ
          go_wp2_with fail
          first
            | (refine ⟨⟨i, h, rfl, rfl, ⟨HBS.out.down HH.out.1 HH.out.2 (by have h := of_eq_true HCT.out; rw [HXY.out.2, HYX.out] at h; exact Int.not_le.2 h)⟩, HAK, HOK⟩, ?_⟩; simp only [intOf]; have := HH.out; omega)
            | (refine ⟨?_, ?_⟩; · (refine ⟨_, _, _, _, _, _, _, _, _, _, _, _, _, _, _, _, _, _, _, _, _, _, _, _, _, _, _, _, _, _, _, _, _, _, _, _, _, _, _, _, _, _, _, _, _, _, _, _, _, _, _, _, _, _, _, _, _, _, _, _, _, _, _, _, _, _, _, _, _, _, _, _, _, _, _, _, _, _, _, _, _, _, _, _, _, _, _, _, _, _, _, _, _, _, _, _, _, _, _, ?_, rfl⟩; exact ⟨i, h, rfl, rfl, ⟨HBS.out.down HH.out.1 HH.out.2 (by have h := of_eq_true HCT.out; rw [HXY.out.2, HYX.out] at h; exact Int.not_le.2 h)⟩, HAK, HOK⟩); · (simp only [intOf]; have := HH.out; omega))
      · have HCF : Aside0 ((cmpf x y < 0) = False) := ⟨eq_false hc⟩
        clear hc
        refine wp_region_steps 12 rfl rfl (by kernel_rfl) (fun LL a wx => ∃ z : Nat → Value, Aside0 (a = { tmps := List.toArray (.slice (some ad) n c :: .int .i64 (ia : Int) :: .int .i64 (im : Int) :: .int .i64 (ib : Int) :: .func (.func fc) #[] caps :: undef :: undef :: undef :: undef :: undef :: undef :: undef :: undef :: undef :: .int .i64 (i : Int) :: .int .i64 (j : Int) :: .int .i64 (h : Int) :: undef :: undef :: undef :: undef :: undef :: undef :: undef :: undef :: .int .i64 (im : Int) :: .int .i64 (ia : Int) :: .int .i64 (l : Int) :: .bool false :: undef :: undef :: undef :: undef :: undef :: undef :: undef :: undef :: undef :: undef :: undef :: undef :: undef :: undef :: undef :: undef :: undef :: undef :: undef :: undef :: undef :: undef :: undef :: undef :: undef :: undef :: undef :: undef :: undef :: undef :: undef :: undef :: undef :: undef :: undef :: undef :: undef :: undef :: undef :: undef :: undef :: undef :: undef :: undef :: undef :: undef :: undef :: undef :: .int .i64 (ib : Int) :: .int .i64 (im : Int) :: .int .i64 1 :: .bool true :: .int .i64 (ia : Int) :: .int .i64 (im : Int) :: .int .i64 (i : Int) :: .int .i64 (j : Int) :: .bool true :: .int .i64 (i : Int) :: .int .i64 (j : Int) :: .int .i64 (s : Int) :: .int .u64 (s : Int) :: .int .u64 (h : Int) :: .int .i64 (h : Int) :: z 92 :: z 93 :: z 94 :: z 95 :: z 96 :: z 97 :: z 98 :: z 99 :: z 100 :: z 101 :: z 102 :: z 103 :: u104 :: u105 :: u106 :: undef :: undef :: undef :: undef :: undef :: undef :: undef :: undef :: undef :: undef :: undef :: undef :: undef :: undef :: undef :: undef :: undef :: undef :: undef :: undef :: undef :: undef :: undef :: undef :: undef :: undef :: undef :: undef :: undef :: undef :: undef :: undef :: undef :: undef :: undef :: undef :: undef :: undef :: undef :: undef :: undef :: undef :: undef :: undef :: undef :: undef :: undef :: undef :: undef :: undef :: undef :: undef :: undef :: undef :: undef :: undef :: undef :: undef :: undef :: undef :: undef :: undef :: undef :: undef :: undef :: undef :: undef :: undef :: undef :: undef :: undef :: undef :: undef :: undef :: undef :: undef :: undef :: undef :: undef :: undef :: undef :: undef :: undef :: undef :: undef :: undef :: undef :: undef :: undef :: undef :: undef :: undef :: undef :: undef :: undef :: undef :: undef :: undef :: undef :: undef :: undef :: undef :: undef :: undef :: undef :: undef :: undef :: undef :: undef :: undef :: undef :: undef :: undef :: []), defers := [] } ∧ Tab LL z [(0, 92, .func (.func fc) #[] caps), (1, 93, .slice (some ad) n c), (2, 94, .int .i64 (im : Int)), (3, 95, .pointer (some (ad.add im))), (4, 96, .int .i32 x), (5, 97, .slice (some ad) n c), (6, 98, .int .i64 (h : Int)), (7, 99, .pointer (some (ad.add h))), (8, 100, .int .i32 y), (9, 101, .int .i64 (cmpf x y)), (10, 102, .bool false), (11, 103, .bool true)] ∧ Aside0 (Below wr.heap.size wr wx))) ?_ ?_ ?_
        · exact ⟨(put1 (put1 (put1 (put1 (put1 (put1 (put1 (put1 (put1 (put1 (put1 (put1 (fun _ => undef) 92 u92) 93 u93) 94 u94) 95 u95) 96 u96) 97 u97) 98 u98) 99 u99) 100 u100) 101 u101) 102 u102) 103 u103), ⟨rfl, Tab.start 12 rfl rfl, ⟨below_drew (Below.refl _ _)⟩⟩⟩
        · refine Steps.cons ?_ (Steps.cons ?_ (Steps.cons ?_ (Steps.cons ?_ (Steps.cons ?_ (Steps.cons ?_ (Steps.cons ?_ (Steps.cons ?_ (Steps.cons ?_ (Steps.cons ?_ (Steps.cons ?_ (Steps.cons ?_ (Steps.nil))))))))))))
          · intro LL a wx hI hLk hd K' hK
            obtain ⟨z, hI⟩ := hI
            obtain rfl := hI.out.1
            rw [if_pos (by rfl)]
            go_simp
            exact hK.out _ _ ⟨(put1 z 92 (.func (.func fc) #[] caps)), ⟨rfl, hI.out.2.1.upd 0 rfl rfl rfl rfl, hI.out.2.2⟩⟩
          · intro LL a wx hI hLk hd K' hK
            obtain ⟨z, hI⟩ := hI
            obtain rfl := hI.out.1
            rw [if_pos (by rfl)]
            go_simp
            exact hK.out _ _ ⟨(put1 z 93 (.slice (some ad) n c)), ⟨rfl, hI.out.2.1.upd 1 rfl rfl rfl rfl, hI.out.2.2⟩⟩
          · intro LL a wx hI hLk hd K' hK
            obtain ⟨z, hI⟩ := hI
            obtain rfl := hI.out.1
            rw [if_pos (by rfl)]
            go_simp
            exact hK.out _ _ ⟨(put1 z 94 (.int .i64 (im : Int))), ⟨rfl, hI.out.2.1.upd 2 rfl rfl rfl rfl, hI.out.2.2⟩⟩
          · intro LL a wx hI hLk hd K' hK
            obtain ⟨z, hI⟩ := hI
            obtain rfl := hI.out.1
            have e1 := hI.out.2.1.at 1 rfl (hd 1 rfl)
            have e2 := hI.out.2.1.at 2 rfl (hd 2 rfl)
            rw [if_pos (by rfl)]
            go_simp
            exact hK.out _ _ ⟨(put1 (put1 (put1 z 93 (.slice (some ad) n c)) 94 (.int .i64 (im : Int))) 95 (.pointer (some (ad.add im)))), ⟨rfl, ((hI.out.2.1.same (s := 93) (v := .slice (some ad) n c) e1).same (s := 94) (v := .int .i64 (im : Int)) e2).upd 3 rfl rfl rfl rfl, hI.out.2.2⟩⟩
          · intro LL a wx hI hLk hd K' hK
            obtain ⟨z, hI⟩ := hI
            obtain rfl := hI.out.1
            have e3 := hI.out.2.1.at 3 rfl (hd 3 rfl)
            have hb := hI.out.2.2
            have hq := HAJ.out.below hb.out
            have ck := hq.cell HAD.out im (by have := HXB.out; omega)
            rw [← HXY.out.1] at ck
            rw [if_pos (by rfl)]
            go_simp
            exact hK.out _ _ ⟨(put1 (put1 z 95 (.pointer (some (ad.add im)))) 96 (.int .i32 x)), ⟨rfl, (hI.out.2.1.same (s := 95) (v := .pointer (some (ad.add im))) e3).upd 4 rfl rfl rfl rfl, hI.out.2.2⟩⟩
          · intro LL a wx hI hLk hd K' hK
            obtain ⟨z, hI⟩ := hI
            obtain rfl := hI.out.1
            rw [if_pos (by rfl)]
            go_simp
            exact hK.out _ _ ⟨(put1 z 97 (.slice (some ad) n c)), ⟨rfl, hI.out.2.1.upd 5 rfl rfl rfl rfl, hI.out.2.2⟩⟩
          · intro LL a wx hI hLk hd K' hK
            obtain ⟨z, hI⟩ := hI
            obtain rfl := hI.out.1
            rw [if_pos (by rfl)]
            go_simp
            exact hK.out _ _ ⟨(put1 z 98 (.int .i64 (h : Int))), ⟨rfl, hI.out.2.1.upd 6 rfl rfl rfl rfl, hI.out.2.2⟩⟩
          · intro LL a wx hI hLk hd K' hK
            obtain ⟨z, hI⟩ := hI
            obtain rfl := hI.out.1
            have e5 := hI.out.2.1.at 5 rfl (hd 5 rfl)
            have e6 := hI.out.2.1.at 6 rfl (hd 6 rfl)
            rw [if_pos (by rfl)]
            go_simp
            exact hK.out _ _ ⟨(put1 (put1 (put1 z 97 (.slice (some ad) n c)) 98 (.int .i64 (h : Int))) 99 (.pointer (some (ad.add h)))), ⟨rfl, ((hI.out.2.1.same (s := 97) (v := .slice (some ad) n c) e5).same (s := 98) (v := .int .i64 (h : Int)) e6).upd 7 rfl rfl rfl rfl, hI.out.2.2⟩⟩
          · intro LL a wx hI hLk hd K' hK
            obtain ⟨z, hI⟩ := hI
            obtain rfl := hI.out.1
            have e7 := hI.out.2.1.at 7 rfl (hd 7 rfl)
            have hb := hI.out.2.2
            have hq := HAJ.out.below hb.out
            have ck := hq.cell HAD.out h (by have := HXB.out; omega)
            rw [← HXY.out.2] at ck
            rw [if_pos (by rfl)]
            go_simp
            exact hK.out _ _ ⟨(put1 (put1 z 99 (.pointer (some (ad.add h)))) 100 (.int .i32 y)), ⟨rfl, (hI.out.2.1.same (s := 99) (v := .pointer (some (ad.add h))) e7).upd 8 rfl rfl rfl rfl, hI.out.2.2⟩⟩
          · intro LL a wx hI hLk hd K' hK
            obtain ⟨z, hI⟩ := hI
            obtain rfl := hI.out.1
            have e0 := hI.out.2.1.at 0 rfl (hd 0 rfl)
            have e4 := hI.out.2.1.at 4 rfl (hd 4 rfl)
            have e8 := hI.out.2.1.at 8 rfl (hd 8 rfl)
            have hb := hI.out.2.2
            rw [if_pos (by rfl)]
            go_simp
            refine (HCC.out x y wx ((HW0.out.trans HOJ.out).trans (On.of_below hb.out))).mono ?_
            rintro e w' ⟨rfl, hb1⟩
            exact hK.out _ _ ⟨(put1 (put1 (put1 (put1 z 92 (.func (.func fc) #[] caps)) 96 (.int .i32 x)) 100 (.int .i32 y)) 101 (.int .i64 (cmpf x y))), ⟨rfl, (((hI.out.2.1.same (s := 92) (v := .func (.func fc) #[] caps) e0).same (s := 96) (v := .int .i32 x) e4).same (s := 100) (v := .int .i32 y) e8).upd 9 rfl rfl rfl rfl, ⟨below_step hb.out hb1⟩⟩⟩
          · intro LL a wx hI hLk hd K' hK
            obtain ⟨z, hI⟩ := hI
            obtain rfl := hI.out.1
            have e9 := hI.out.2.1.at 9 rfl (hd 9 rfl)
            have hw := HCF.out
            rw [if_pos (by rfl)]
            go_simp
            exact hK.out _ _ ⟨(put1 (put1 z 101 (.int .i64 (cmpf x y))) 102 (.bool false)), ⟨rfl, (hI.out.2.1.same (s := 101) (v := .int .i64 (cmpf x y)) e9).upd 10 rfl rfl rfl rfl, hI.out.2.2⟩⟩
          · intro LL a wx hI hLk hd K' hK
            obtain ⟨z, hI⟩ := hI
            obtain rfl := hI.out.1
            have e10 := hI.out.2.1.at 10 rfl (hd 10 rfl)
            rw [if_pos (by rfl)]
            go_simp
            exact hK.out _ _ ⟨(put1 (put1 z 102 (.bool false)) 103 (.bool true)), ⟨rfl, (hI.out.2.1.same (s := 102) (v := .bool false) e10).upd 11 rfl rfl rfl rfl, hI.out.2.2⟩⟩
        · intro LL a wc hall hI
          obtain ⟨z, hI⟩ := hI
          obtain rfl := hI.out.1
          have hb := hI.out.2.2
          have e11 := hI.out.2.1.at 11 rfl (hall 11 (by decide))
          rw [e11]
          have HBC := hb
          clear hI hb e11 hall
          have HAK := Aside0.mk (HAJ.out.below HBC.out)
          have HOK := Aside0.mk (HOJ.out.trans (On.of_below HBC.out))
          clear HAJ HOJ
          go_wp2_with fail
          first
            | (refine ⟨⟨h + 1, j, by rw [HHW.out], rfl, ⟨HBS.out.up HH.out.1 HH.out.2 (by have h := of_eq_false HCF.out; rw [HXY.out.2, HYX.out] at h; exact Int.not_lt.1 h)⟩, HAK, HOK⟩, ?_⟩; rw [HHW.out]; simp only [intOf]; have := HH.out; omega)
            | (refine ⟨?_, ?_⟩; · (refine ⟨_, _, _, _, _, _, _, _, _, _, _, _, _, _, _, _, _, _, _, _, _, _, _, _, _, _, _, _, _, _, _, _, _, _, _, _, _, _, _, _, _, _, _, _, _, _, _, _, _, _, _, _, _, _, _, _, _, _, _, _, _, _, _, _, _, _, _, _, _, _, _, _, _, _, _, _, _, _, _, _, _, _, _, _, _, _, _, _, _, _, _, _, _, _, _, _, _, _, _, ?_, rfl⟩; exact ⟨h + 1, j, by rw [HHW.out], rfl, ⟨HBS.out.up HH.out.1 HH.out.2 (by have h := of_eq_false HCF.out; rw [HXY.out.2, HYX.out] at h; exact Int.not_lt.1 h)⟩, HAK, HOK⟩); · (show (intOf (.int .i64 (j : Int))).toNat - (intOf (.int .i64 (wrap64 ((h : Int) + 1)))).toNat < (intOf (.int .i64 (j : Int))).toNat - (intOf (.int .i64 (i : Int))).toNat; rw [HHW.out]; simp only [intOf]; have := HH.out; omega))
    · have hc1 : ((i : Int) < (j : Int)) = False := eq_false (by omega)
      have hc1n : (i < j) = False := eq_false hlt
      obtain rfl : i = j := by have := HIJ.out; omega
      clear hlt
      have HST : Aside0 (St k (L ++ [y0]) (L.take (i - ia) ++ y0 :: L.drop (i - ia))) := ⟨right_done (T := fun h => 0 ≤ cmpf y0 (D.getD (o + h) 0)) HS.out (fun s hs => by rw [Int.not_lt]; exact HT.out s hs) (by have h := HBS.out; rw [show im = ia + L.length by have := HB.out; omega] at h; exact h)⟩
      go_wp2_with fail
      go_loopw [17] (fun vk wq => ∃ t : Nat, vk = .int .i64 ((ia + t : Nat) : Int) ∧ i - ia ≤ t ∧ t ≤ L.length ∧ Aside0 (Arr XX wq g (P ++ L.take t ++ y0 :: L.drop t ++ Q)) ∧ Aside0 (On (· = g) w wq)) (fun vk _ => (intOf vk).toNat)
      case atStart => exact ⟨L.length, by rw [HB.out.2.1], by have := HB.out; have := HIJ.out; omega, Nat.le_refl _, ⟨by rw [List.take_length, List.drop_length]; have h := HAJ.out; rw [HD.out] at h; simpa using h⟩, HOJ⟩
      case round =>
        clear HAJ HOJ
        obtain ⟨t, rfl, ht, ht3, HAJ, HOJ⟩ := hrel
        obtain ⟨q, hq⟩ : ∃ q : Nat, q = ia + t := ⟨_, rfl⟩
        rw [← hq]
        by_cases hlt : i - ia < t
        · have hc2 : ((i : Int) < (q : Int)) = True := eq_true (by have := HB.out; have := HIJ.out; omega)
          have hc2n : (i < q) = True := eq_true (by have := HB.out; have := HIJ.out; omega)
          obtain ⟨t', rfl⟩ : ∃ t', t = t' + 1 := ⟨t - 1, by omega⟩
          obtain ⟨E, hE⟩ : ∃ E, E = P ++ L.take (t' + 1) ++ y0 :: L.drop (t' + 1) ++ Q := ⟨_, rfl⟩
          rw [← hE] at HAJ
          have hEl : E.length = D.length := by rw [hE, HD.out]; simp only [List.length_append, List.length_cons, List.length_nil, List.length_take, List.length_drop]; omega
          obtain ⟨q1, hq1⟩ : ∃ q1 : Nat, q1 = q - 1 := ⟨_, rfl⟩
          have HQ : Aside0 (q = ia + t' + 1 ∧ q1 + 1 = q ∧ i - ia ≤ t' ∧ t' < L.length ∧ q < n) := ⟨by have := HB.out; have := HIJ.out; have := HJN.out; omega⟩
          have HQW : Aside0 (IntKind.i64.wrap ((q : Int) - 1) = (q1 : Int)) := ⟨by have := HJN.out; have := HQ.out; exact w64n _ _ (by omega) (by omega)⟩
          have HQW2 : Aside0 (wrap64 ((q : Int) - 1) = (q1 : Int)) := ⟨by rw [← i64_w]; exact HQW.out⟩
          obtain ⟨x, hx⟩ : ∃ x, x = E.getD (o + q) 0 := ⟨_, rfl⟩
          obtain ⟨y, hy⟩ : ∃ y, y = E.getD (o + q1) 0 := ⟨_, rfl⟩
          have HXY := Aside0.mk (And.intro hx hy)
          have HBK : Aside0 (o + q < E.length ∧ o + q1 < E.length) := ⟨by rw [hEl]; have := HB.out; have := HQ.out; omega⟩
          have HNX : Aside0 (swap E (o + q) (o + q1) = P ++ L.take t' ++ y0 :: L.drop t' ++ Q) := ⟨by rw [hE, ← down_step P L Q y0 t' HQ.out.2.2.2.1]; congr 1 <;> (have := HB.out; have := HQ.out; omega)⟩
          have j0 : ((0 : Int) ≤ (q : Int)) = True := eq_true (by omega)
          have j1 : ((q : Int) < (n : Int)) = True := eq_true (by have := HQ.out; omega)
          have j2 : (q < n) = True := eq_true (by have := HQ.out; omega)
          have q0 : ((0 : Int) ≤ (q1 : Int)) = True := eq_true (by omega)
          have q3 : ((q1 : Int) < (n : Int)) = True := eq_true (by have := HQ.out; omega)
          have q2 : (q1 < n) = True := eq_true (by have := HQ.out; omega)
          clear hq hlt ht ht3 hE hEl hq1 hx hy hc1 hc1n
          go_wp2_with fail
          clear hc2 hc2n
          refine wp_region_steps 18 rfl rfl (by kernel_rfl) (fun LL a wx => ∃ z2 : Nat → Value, Aside0 (a = { tmps := List.toArray (.slice (some ad) n c :: .int .i64 (ia : Int) :: .int .i64 (im : Int) :: .int .i64 (ib : Int) :: .func (.func fc) #[] caps :: undef :: undef :: undef :: undef :: undef :: undef :: undef :: undef :: undef :: .int .i64 (i : Int) :: .int .i64 (i : Int) :: u16 :: .int .i64 (q : Int) :: undef :: undef :: undef :: undef :: undef :: undef :: undef :: .int .i64 (im : Int) :: .int .i64 (ia : Int) :: .int .i64 (l : Int) :: .bool false :: undef :: undef :: undef :: undef :: undef :: undef :: undef :: undef :: undef :: undef :: undef :: undef :: undef :: undef :: undef :: undef :: undef :: undef :: undef :: undef :: undef :: undef :: undef :: undef :: undef :: undef :: undef :: undef :: undef :: undef :: undef :: undef :: undef :: undef :: undef :: undef :: undef :: undef :: undef :: undef :: undef :: undef :: undef :: undef :: undef :: undef :: undef :: undef :: .int .i64 (ib : Int) :: .int .i64 (im : Int) :: .int .i64 1 :: .bool true :: .int .i64 (ia : Int) :: .int .i64 (im : Int) :: .int .i64 (i : Int) :: .int .i64 (i : Int) :: .bool false :: u86 :: u87 :: u88 :: u89 :: u90 :: u91 :: u92 :: u93 :: u94 :: u95 :: u96 :: u97 :: u98 :: u99 :: u100 :: u101 :: u102 :: u103 :: u104 :: u105 :: u106 :: .int .i64 (im : Int) :: .int .i64 (q : Int) :: .int .i64 (i : Int) :: .bool true :: u111 :: u112 :: z2 113 :: z2 114 :: z2 115 :: z2 116 :: z2 117 :: z2 118 :: z2 119 :: z2 120 :: z2 121 :: z2 122 :: z2 123 :: z2 124 :: z2 125 :: z2 126 :: z2 127 :: z2 128 :: undef :: undef :: undef :: undef :: undef :: undef :: undef :: undef :: undef :: undef :: undef :: undef :: undef :: undef :: undef :: undef :: undef :: undef :: undef :: undef :: undef :: undef :: undef :: undef :: undef :: undef :: undef :: undef :: undef :: undef :: undef :: undef :: undef :: undef :: undef :: undef :: undef :: undef :: undef :: undef :: undef :: undef :: undef :: undef :: undef :: undef :: undef :: undef :: undef :: undef :: undef :: undef :: undef :: undef :: undef :: undef :: undef :: undef :: undef :: undef :: undef :: undef :: undef :: undef :: undef :: undef :: undef :: undef :: undef :: undef :: undef :: undef :: undef :: undef :: undef :: undef :: undef :: undef :: undef :: undef :: undef :: undef :: undef :: undef :: undef :: undef :: undef :: undef :: undef :: undef :: undef :: []), defers := [] } ∧ Tab LL z2 [(0, 113, .slice (some ad) n c), (1, 114, .int .i64 (q : Int)), (2, 115, .slice (some ad) n c), (3, 116, .int .i64 (q : Int)), (4, 117, .int .i64 (q1 : Int)), (5, 118, .slice (some ad) n c), (6, 119, .int .i64 (q : Int)), (7, 120, .int .i64 (q1 : Int)), (8, 121, .pointer (some (ad.add q1))), (9, 122, .int .i32 y), (10, 123, .slice (some ad) n c), (11, 124, .int .i64 (q : Int)), (12, 125, .pointer (some (ad.add q))), (13, 126, .int .i32 x), (14, 127, .pointer (some (ad.add q))), (16, 128, .pointer (some (ad.add q1)))] ∧ Aside0 (Arr XX wx g (bif LL 17 then ((E.set (o + q) y).set (o + q1) x) else bif LL 15 then (E.set (o + q) y) else E)) ∧ Aside0 (On (· = g) wr wx) ∧ Aside0 ((LL 15 = true → LL 9 = true ∧ LL 13 = true) ∧ (LL 17 = true → LL 15 = true)))) ?_ ?_ ?_
          · exact ⟨(put1 (put1 (put1 (put1 (put1 (put1 (put1 (put1 (put1 (put1 (put1 (put1 (put1 (put1 (put1 (put1 (fun _ => undef) 113 u113) 114 u114) 115 u115) 116 u116) 117 u117) 118 u118) 119 u119) 120 u120) 121 u121) 122 u122) 123 u123) 124 u124) 125 u125) 126 u126) 127 u127) 128 u128), ⟨rfl, Tab.start 18 rfl rfl, ⟨HAJ.out.below (below_drew (Below.refl _ _))⟩, ⟨On.of_below (below_drew (Below.refl _ _))⟩, ⟨⟨fun h => absurd h (by decide), fun h => absurd h (by decide)⟩⟩⟩⟩
          · refine Steps.cons ?_ (Steps.cons ?_ (Steps.cons ?_ (Steps.cons ?_ (Steps.cons ?_ (Steps.cons ?_ (Steps.cons ?_ (Steps.cons ?_ (Steps.cons ?_ (Steps.cons ?_ (Steps.cons ?_ (Steps.cons ?_ (Steps.cons ?_ (Steps.cons ?_ (Steps.cons ?_ (Steps.cons ?_ (Steps.cons ?_ (Steps.cons ?_ (Steps.nil))))))))))))))))))
            · intro LL a wx hI hLk hd K' hK
              obtain ⟨z2, hI⟩ := hI
              obtain rfl := hI.out.1
              rw [if_pos (by rfl)]
              go_simp
              exact hK.out _ _ ⟨(put1 z2 113 (.slice (some ad) n c)), ⟨rfl, hI.out.2.1.upd 0 rfl rfl rfl rfl, hI.out.2.2.1, hI.out.2.2.2.1, hI.out.2.2.2.2⟩⟩
            · intro LL a wx hI hLk hd K' hK
              obtain ⟨z2, hI⟩ := hI
              obtain rfl := hI.out.1
              rw [if_pos (by rfl)]
              go_simp
              exact hK.out _ _ ⟨(put1 z2 114 (.int .i64 (q : Int))), ⟨rfl, hI.out.2.1.upd 1 rfl rfl rfl rfl, hI.out.2.2.1, hI.out.2.2.2.1, hI.out.2.2.2.2⟩⟩
            · intro LL a wx hI hLk hd K' hK
              obtain ⟨z2, hI⟩ := hI
              obtain rfl := hI.out.1
              rw [if_pos (by rfl)]
              go_simp
              exact hK.out _ _ ⟨(put1 z2 115 (.slice (some ad) n c)), ⟨rfl, hI.out.2.1.upd 2 rfl rfl rfl rfl, hI.out.2.2.1, hI.out.2.2.2.1, hI.out.2.2.2.2⟩⟩
            · intro LL a wx hI hLk hd K' hK
              obtain ⟨z2, hI⟩ := hI
              obtain rfl := hI.out.1
              rw [if_pos (by rfl)]
              go_simp
              exact hK.out _ _ ⟨(put1 z2 116 (.int .i64 (q : Int))), ⟨rfl, hI.out.2.1.upd 3 rfl rfl rfl rfl, hI.out.2.2.1, hI.out.2.2.2.1, hI.out.2.2.2.2⟩⟩
            · intro LL a wx hI hLk hd K' hK
              obtain ⟨z2, hI⟩ := hI
              obtain rfl := hI.out.1
              have e3 := hI.out.2.1.at 3 rfl (hd 3 rfl)
              have hw := HQW.out
              rw [if_pos (by rfl)]
              go_simp
              exact hK.out _ _ ⟨(put1 (put1 z2 116 (.int .i64 (q : Int))) 117 (.int .i64 (q1 : Int))), ⟨rfl, (hI.out.2.1.same (s := 116) (v := .int .i64 (q : Int)) e3).upd 4 rfl rfl rfl rfl, hI.out.2.2.1, hI.out.2.2.2.1, hI.out.2.2.2.2⟩⟩
            · intro LL a wx hI hLk hd K' hK
              obtain ⟨z2, hI⟩ := hI
              obtain rfl := hI.out.1
              rw [if_pos (by rfl)]
              go_simp
              exact hK.out _ _ ⟨(put1 z2 118 (.slice (some ad) n c)), ⟨rfl, hI.out.2.1.upd 5 rfl rfl rfl rfl, hI.out.2.2.1, hI.out.2.2.2.1, hI.out.2.2.2.2⟩⟩
            · intro LL a wx hI hLk hd K' hK
              obtain ⟨z2, hI⟩ := hI
              obtain rfl := hI.out.1
              rw [if_pos (by rfl)]
              go_simp
              exact hK.out _ _ ⟨(put1 z2 119 (.int .i64 (q : Int))), ⟨rfl, hI.out.2.1.upd 6 rfl rfl rfl rfl, hI.out.2.2.1, hI.out.2.2.2.1, hI.out.2.2.2.2⟩⟩
            · intro LL a wx hI hLk hd K' hK
              obtain ⟨z2, hI⟩ := hI
              obtain rfl := hI.out.1
              have e6 := hI.out.2.1.at 6 rfl (hd 6 rfl)
              have hw := HQW.out
              rw [if_pos (by rfl)]
              go_simp
              exact hK.out _ _ ⟨(put1 (put1 z2 119 (.int .i64 (q : Int))) 120 (.int .i64 (q1 : Int))), ⟨rfl, (hI.out.2.1.same (s := 119) (v := .int .i64 (q : Int)) e6).upd 7 rfl rfl rfl rfl, hI.out.2.2.1, hI.out.2.2.2.1, hI.out.2.2.2.2⟩⟩
            · intro LL a wx hI hLk hd K' hK
              obtain ⟨z2, hI⟩ := hI
              obtain rfl := hI.out.1
              have e5 := hI.out.2.1.at 5 rfl (hd 5 rfl)
              have e7 := hI.out.2.1.at 7 rfl (hd 7 rfl)
              rw [if_pos (by rfl)]
              go_simp
              exact hK.out _ _ ⟨(put1 (put1 (put1 z2 118 (.slice (some ad) n c)) 120 (.int .i64 (q1 : Int))) 121 (.pointer (some (ad.add q1)))), ⟨rfl, ((hI.out.2.1.same (s := 118) (v := .slice (some ad) n c) e5).same (s := 120) (v := .int .i64 (q1 : Int)) e7).upd 8 rfl rfl rfl rfl, hI.out.2.2.1, hI.out.2.2.2.1, hI.out.2.2.2.2⟩⟩
            · intro LL a wx hI hLk hd K' hK
              obtain ⟨z2, hI⟩ := hI
              obtain rfl := hI.out.1
              have e8 := hI.out.2.1.at 8 rfl (hd 8 rfl)
              have hA := hI.out.2.2.1
              have hz := hI.out.2.2.2.2
              have f15 := flag_off (fun h => (hz.out.1 h).1) hLk
              have f17 := flag_off (fun h => (hz.out.1 (hz.out.2 h)).1) hLk
              have hq : Arr XX wx g E := by have h := hA.out; rw [f17, f15] at h; exact h
              have ck := hq.cell HAD.out q1 (by have := HBK.out; omega)
              rw [← HXY.out.2] at ck
              rw [if_pos (by rfl)]
              go_simp
              exact hK.out _ _ ⟨(put1 (put1 z2 121 (.pointer (some (ad.add q1)))) 122 (.int .i32 y)), ⟨rfl, (hI.out.2.1.same (s := 121) (v := .pointer (some (ad.add q1))) e8).upd 9 rfl rfl rfl rfl, hI.out.2.2.1, hI.out.2.2.2.1, ⟨⟨fun h => ⟨rfl, (hz.out.1 h).2⟩, hz.out.2⟩⟩⟩⟩
            · intro LL a wx hI hLk hd K' hK
              obtain ⟨z2, hI⟩ := hI
              obtain rfl := hI.out.1
              rw [if_pos (by rfl)]
              go_simp
              exact hK.out _ _ ⟨(put1 z2 123 (.slice (some ad) n c)), ⟨rfl, hI.out.2.1.upd 10 rfl rfl rfl rfl, hI.out.2.2.1, hI.out.2.2.2.1, hI.out.2.2.2.2⟩⟩
            · intro LL a wx hI hLk hd K' hK
              obtain ⟨z2, hI⟩ := hI
              obtain rfl := hI.out.1
              rw [if_pos (by rfl)]
              go_simp
              exact hK.out _ _ ⟨(put1 z2 124 (.int .i64 (q : Int))), ⟨rfl, hI.out.2.1.upd 11 rfl rfl rfl rfl, hI.out.2.2.1, hI.out.2.2.2.1, hI.out.2.2.2.2⟩⟩
            · intro LL a wx hI hLk hd K' hK
              obtain ⟨z2, hI⟩ := hI
              obtain rfl := hI.out.1
              have e10 := hI.out.2.1.at 10 rfl (hd 10 rfl)
              have e11 := hI.out.2.1.at 11 rfl (hd 11 rfl)
              rw [if_pos (by rfl)]
              go_simp
              exact hK.out _ _ ⟨(put1 (put1 (put1 z2 123 (.slice (some ad) n c)) 124 (.int .i64 (q : Int))) 125 (.pointer (some (ad.add q)))), ⟨rfl, ((hI.out.2.1.same (s := 123) (v := .slice (some ad) n c) e10).same (s := 124) (v := .int .i64 (q : Int)) e11).upd 12 rfl rfl rfl rfl, hI.out.2.2.1, hI.out.2.2.2.1, hI.out.2.2.2.2⟩⟩
            · intro LL a wx hI hLk hd K' hK
              obtain ⟨z2, hI⟩ := hI
              obtain rfl := hI.out.1
              have e12 := hI.out.2.1.at 12 rfl (hd 12 rfl)
              have hA := hI.out.2.2.1
              have hz := hI.out.2.2.2.2
              have f15 := flag_off (fun h => (hz.out.1 h).2) hLk
              have f17 := flag_off (fun h => (hz.out.1 (hz.out.2 h)).2) hLk
              have hq : Arr XX wx g E := by have h := hA.out; rw [f17, f15] at h; exact h
              have ck := hq.cell HAD.out q (by have := HBK.out; omega)
              rw [← HXY.out.1] at ck
              rw [if_pos (by rfl)]
              go_simp
              exact hK.out _ _ ⟨(put1 (put1 z2 125 (.pointer (some (ad.add q)))) 126 (.int .i32 x)), ⟨rfl, (hI.out.2.1.same (s := 125) (v := .pointer (some (ad.add q))) e12).upd 13 rfl rfl rfl rfl, hI.out.2.2.1, hI.out.2.2.2.1, ⟨⟨fun h => ⟨(hz.out.1 h).1, rfl⟩, hz.out.2⟩⟩⟩⟩
            · intro LL a wx hI hLk hd K' hK
              obtain ⟨z2, hI⟩ := hI
              obtain rfl := hI.out.1
              have e0 := hI.out.2.1.at 0 rfl (hd 0 rfl)
              have e1 := hI.out.2.1.at 1 rfl (hd 1 rfl)
              rw [if_pos (by rfl)]
              go_simp
              exact hK.out _ _ ⟨(put1 (put1 (put1 z2 113 (.slice (some ad) n c)) 114 (.int .i64 (q : Int))) 127 (.pointer (some (ad.add q)))), ⟨rfl, ((hI.out.2.1.same (s := 113) (v := .slice (some ad) n c) e0).same (s := 114) (v := .int .i64 (q : Int)) e1).upd 14 rfl rfl rfl rfl, hI.out.2.2.1, hI.out.2.2.2.1, hI.out.2.2.2.2⟩⟩
            · intro LL a wx hI hLk hd K' hK
              obtain ⟨z2, hI⟩ := hI
              obtain rfl := hI.out.1
              have e14 := hI.out.2.1.at 14 rfl (hd 14 rfl)
              have e9 := hI.out.2.1.at 9 rfl (hd 9 rfl)
              have hA := hI.out.2.2.1
              have ho := hI.out.2.2.2.1
              have hz := hI.out.2.2.2.2
              have f17 := flag_off (fun h => hz.out.2 h) hLk
              have hq : Arr XX wx g E := by have h := hA.out; rw [f17, hLk] at h; exact h
              have ck := hq.cell HAD.out q (by have := HBK.out; omega)
              have fz := hq.frozen HAD.out q
              rw [if_pos (by rfl)]
              go_simp
              exact hK.out _ _ ⟨(put1 (put1 z2 127 (.pointer (some (ad.add q)))) 122 (.int .i32 y)), ⟨rfl, ((hI.out.2.1.same (s := 127) (v := .pointer (some (ad.add q))) e14).same (s := 122) (v := .int .i32 y) e9).none 15 rfl, ⟨(show Arr XX _ g (bif LL 17 then _ else (E.set (o + q) y)) by rw [f17]; exact (hq.set HAD.out q y (by have := HBK.out; omega)).1)⟩, ⟨ho.out.trans (hq.set HAD.out q y (by have := HBK.out; omega)).2⟩, ⟨⟨fun _ => ⟨hd 9 rfl, hd 13 rfl⟩, fun _ => rfl⟩⟩⟩⟩
            · intro LL a wx hI hLk hd K' hK
              obtain ⟨z2, hI⟩ := hI
              obtain rfl := hI.out.1
              have e2 := hI.out.2.1.at 2 rfl (hd 2 rfl)
              have e4 := hI.out.2.1.at 4 rfl (hd 4 rfl)
              rw [if_pos (by rfl)]
              go_simp
              exact hK.out _ _ ⟨(put1 (put1 (put1 z2 115 (.slice (some ad) n c)) 117 (.int .i64 (q1 : Int))) 128 (.pointer (some (ad.add q1)))), ⟨rfl, ((hI.out.2.1.same (s := 115) (v := .slice (some ad) n c) e2).same (s := 117) (v := .int .i64 (q1 : Int)) e4).upd 15 rfl rfl rfl rfl, hI.out.2.2.1, hI.out.2.2.2.1, hI.out.2.2.2.2⟩⟩
            · intro LL a wx hI hLk hd K' hK
              obtain ⟨z2, hI⟩ := hI
              obtain rfl := hI.out.1
              have e16 := hI.out.2.1.at 15 rfl (hd 16 rfl)
              have e13 := hI.out.2.1.at 13 rfl (hd 13 rfl)
              have hA := hI.out.2.2.1
              have ho := hI.out.2.2.2.1
              have hz := hI.out.2.2.2.2
              have hq : Arr XX wx g (E.set (o + q) y) := by have h := hA.out; rw [hLk, hd 15 rfl] at h; exact h
              have ck := hq.cell HAD.out q1 (by rw [List.length_set]; have := HBK.out; omega)
              have fz := hq.frozen HAD.out q1
              rw [if_pos (by rfl)]
              go_simp
              exact hK.out _ _ ⟨(put1 (put1 z2 128 (.pointer (some (ad.add q1)))) 126 (.int .i32 x)), ⟨rfl, ((hI.out.2.1.same (s := 128) (v := .pointer (some (ad.add q1))) e16).same (s := 126) (v := .int .i32 x) e13).none 17 rfl, ⟨(hq.set HAD.out q1 x (by rw [List.length_set]; have := HBK.out; omega)).1⟩, ⟨ho.out.trans (hq.set HAD.out q1 x (by rw [List.length_set]; have := HBK.out; omega)).2⟩, ⟨⟨hz.out.1, fun _ => hd 15 rfl⟩⟩⟩⟩
          · intro LL a wd hall hI
            obtain ⟨z2, hI⟩ := hI
            obtain rfl := hI.out.1
            have hA := hI.out.2.2.1
            have ho := hI.out.2.2.2.1
            have hz := hI.out.2.2.2.2
            have HA9 : Aside0 (Arr XX wd g (swap E (o + q) (o + q1))) := ⟨by rw [swap, ← HXY.out.1, ← HXY.out.2]; have h := hA.out; rw [hall 17 (by decide)] at h; exact h⟩
            have HO9 := ho
            clear hI hA ho hz hall
            have HA10 : Aside0 (Arr XX wd g (P ++ L.take t' ++ y0 :: L.drop t' ++ Q)) := ⟨by rw [← HNX.out]; exact HA9.out⟩
            have HO10 := Aside0.mk (HOJ.out.trans HO9.out)
            go_wp2_with fail
            first
              | (refine ⟨⟨t', by rw [HQW2.out, show q1 = ia + t' by have := HQ.out; omega], HQ.out.2.2.1, Nat.le_of_lt HQ.out.2.2.2.1, HA10, HO10⟩, ?_⟩; rw [HQW2.out]; simp only [intOf]; have := HQ.out; omega)
              | (refine ⟨?_, ?_⟩; · (refine ⟨_, _, _, _, _, _, _, _, _, _, _, _, _, _, _, _, _, _, _, _, _, _, _, _, _, _, _, _, _, _, _, _, _, _, _, _, _, _, _, _, _, _, _, _, _, _, _, _, _, _, _, _, _, _, _, _, _, _, _, _, _, _, _, _, _, _, _, _, _, _, _, _, _, _, _, _, _, _, _, _, _, _, _, _, _, _, _, _, _, _, _, _, _, _, _, _, _, _, _, ?_, rfl⟩; exact ⟨t', by rw [HQW2.out, show q1 = ia + t' by have := HQ.out; omega], HQ.out.2.2.1, Nat.le_of_lt HQ.out.2.2.2.1, HA10, HO10⟩); · (show (intOf (.int .i64 (wrap64 ((q : Int) - 1)))).toNat < (intOf (.int .i64 (q : Int))).toNat; rw [HQW2.out]; simp only [intOf]; have := HQ.out; omega))
        · have hc2 : ((i : Int) < (q : Int)) = False := eq_false (by have := HB.out; have := HIJ.out; omega)
          have hc2n : (i < q) = False := eq_false (by have := HB.out; have := HIJ.out; omega)
          obtain rfl : t = i - ia := by omega
          clear hlt ht ht3 hq
          go_wp2
          refine bodyPost_ret (results_none rfl _ _ _) rfl ?_
          exact ⟨rfl, _, by have h := HAJ.out; rw [List.append_assoc P] at h; exact h, HST.out, HOJ.out⟩
end Go.Proofs.YtdmahdgcfaieoaaW.PrintSort

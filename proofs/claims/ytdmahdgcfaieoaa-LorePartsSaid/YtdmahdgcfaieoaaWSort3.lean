/- The stable sort of package slices, the merge (gensort.py). No condition. -/
import Derived.Test.YtdmahdgcfaieoaaWSort2
import Derived.Test.YtdmahdgcfaieoaaWSymP
namespace Go.Proofs.YtdmahdgcfaieoaaW.PrintSort
open Go Go.RowKit Go.Proofs.YtdmahdgcfaieoaaW.PrintWords Go.Proofs.YtdmahdgcfaieoaaW.PrintLast Go.Proofs.YtdmahdgcfaieoaaW.PrintMore Go.Proofs.YtdmahdgcfaieoaaW.PrintReg Go.Proofs.YtdmahdgcfaieoaaW.PrintTree
set_option linter.unusedVariables false
set_option linter.unusedSimpArgs false
set_option maxHeartbeats 4000000 in
set_option maxRecDepth 100000 in
theorem symleft_calls (XX : List Value) (g o n c : Nat) (ad : Addr) (had : ad = ⟨g, o, none⟩) (fc : Nat) (caps : Array Value) (hfc : ∀ args W, (callFunc fc args).run Try.prog W = .ok (.enter fc args) W) (cmpf : Int → Int → Int) (k : Int → Int) (hk : ∀ x y, cmpf x y < 0 ↔ k x < k y) (w0 : World) (HC : ∀ (x y : Int) (W : World), On (· = g) w0 W → Calls Try.prog fc (#[.int .i32 x, .int .i32 y] ++ caps) W fun e w' => e = .returned (.int .i64 (cmpf x y)) ∧ Below W.heap.size W w')
    (ia im ib : Nat) (x0 : Int) (P R Q : List Int) (w : World) (hA : Arr XX w g (P ++ [x0] ++ R ++ Q)) (hw0 : On (· = g) w0 w) (hP : P.length = o + ia) (hL : ia + 1 = im) (hR : im + R.length = ib) (hS : Srt k R) (hb : ib ≤ n) (hn : o + n ≤ (P ++ [x0] ++ R ++ Q).length) (hN : n ≤ 1152921504606846975) :
    Calls Try.prog 40 #[.slice (some ad) n c, .int .i64 (ia : Int), .int .i64 (im : Int), .int .i64 (ib : Int), .func (.func fc) #[] caps] w fun e w' => e = .returned (.tuple #[]) ∧ ∃ M, Arr XX w' g (P ++ M ++ Q) ∧ St k ([x0] ++ R) M ∧ On (· = g) w w' := by
  obtain ⟨D, hD⟩ : ∃ D, D = P ++ [x0] ++ R ++ Q := ⟨_, rfl⟩
  rw [← hD] at hA hn
  have HA := Aside0.mk hA
  have HD := Aside0.mk hD
  have HAD := Aside0.mk had
  have HCC := Aside0.mk HC
  have HK := Aside0.mk hk
  have HW0 := Aside0.mk hw0
  have HB := Aside0.mk (And.intro hP (And.intro hL (And.intro hR (And.intro hb (And.intro hn hN)))))
  have HS := Aside0.mk hS
  have hw1 : wrap64 ((im : Int) - (ia : Int)) = 1 := by unfold wrap64; omega
  have HX0 : Aside0 (x0 = D.getD (o + ia) 0) := ⟨by rw [hD, ← hP]; simp [List.getD_eq_getElem?_getD]⟩
  have HT : Aside0 (∀ s, s < R.length → (cmpf (D.getD (o + (im + s)) 0) x0 < 0 ↔ k (R.getD s 0) < k x0)) := ⟨fun s hs => by
    rw [hk, hD]
    have := at_behind P [x0] R Q s hs
    rw [List.length_singleton, show P.length + 1 + s = o + (im + s) by omega] at this
    rw [this]⟩
  clear hA hD had HC hk hw0 hP hL hR hS hb hn hN
  go_enter Try.func40, Try.ntmps40
  go_wp2_with fail
  rw [hw1]
  clear hw1
  go_loopw [10, 11] (fun vi vj wr => ∃ i j : Nat, vi = .int .i64 (i : Int) ∧ vj = .int .i64 (j : Int) ∧ Aside0 (Bis (fun h => cmpf (D.getD (o + h) 0) x0 < 0) im ib i j) ∧ Aside0 (Arr XX wr g D) ∧ Aside0 (On (· = g) w wr)) (fun vi vj _ => (intOf vj).toNat - (intOf vi).toNat)
  case atStart => exact ⟨im, ib, rfl, rfl, ⟨Bis.start (by have := HB.out; omega)⟩, HA, ⟨On.refl _ _⟩⟩
  case round =>
    obtain ⟨i, j, rfl, rfl, HBS, HAJ, HOJ⟩ := hrel
    have HIJ : Aside0 (im ≤ i ∧ i ≤ j ∧ j ≤ ib) := ⟨HBS.out.1, HBS.out.2.1, HBS.out.2.2.1⟩
    have HJN : Aside0 (j ≤ n ∧ o + n ≤ D.length ∧ n ≤ 1152921504606846975) := ⟨by have := HB.out; have := HIJ.out; omega⟩
    by_cases hlt : i < j
    · have hc1 : ((i : Int) < (j : Int)) = True := eq_true (by omega)
      have hc1n : (i < j) = True := eq_true hlt
      obtain ⟨s, hs⟩ : ∃ s : Nat, s = i + j := ⟨_, rfl⟩
      obtain ⟨h, hh⟩ : ∃ h : Nat, h = s / 2 := ⟨_, rfl⟩
      have hsw : wrap64 ((i : Int) + (j : Int)) = (s : Int) := by have := HJN.out; unfold wrap64; omega
      have hsm : (s : Int) % 18446744073709551616 = (s : Int) := by have := HJN.out; omega
      have HHD : Aside0 ((s : Int) / 2 = (h : Int)) := ⟨by omega⟩
      have HH : Aside0 (i ≤ h ∧ h < j) := ⟨by omega⟩
      have HHW : Aside0 (wrap64 ((h : Int) + 1) = ((h + 1 : Nat) : Int)) := ⟨by rw [← i64_w]; have := HJN.out; have := HH.out; exact w64n _ _ (by omega) (by omega)⟩
      have h0 : ((0 : Int) ≤ (h : Int)) = True := eq_true (by omega)
      have h1 : ((h : Int) < (n : Int)) = True := eq_true (by have := HJN.out; have := HH.out; omega)
      have h2 : (h < n) = True := eq_true (by have := HJN.out; have := HH.out; omega)
      obtain ⟨x, hx⟩ : ∃ x, x = D.getD (o + h) 0 := ⟨_, rfl⟩
      obtain ⟨y, hy⟩ : ∃ y, y = D.getD (o + ia) 0 := ⟨_, rfl⟩
      have HXY := Aside0.mk (And.intro hx hy)
      have HXB : Aside0 (o + h < D.length ∧ o + ia < D.length) := ⟨by have := HJN.out; have := HH.out; have := HB.out; have := HIJ.out; omega⟩
      have HYX : Aside0 (y = x0) := ⟨by rw [hy, HX0.out]⟩
      have a0 : ((0 : Int) ≤ (ia : Int)) = True := eq_true (by omega)
      have a1 : ((ia : Int) < (n : Int)) = True := eq_true (by have := HJN.out; have := HB.out; have := HIJ.out; omega)
      have a2 : (ia < n) = True := eq_true (by have := HJN.out; have := HB.out; have := HIJ.out; omega)
      clear hx hy
      clear hlt hs hh
      go_wp2_with fail
      rw [HHD.out]
      try rw [hsw]
      clear hsw hsm hc1 hc1n
      by_cases hc : cmpf x y < 0
      · have HCT : Aside0 ((cmpf x y < 0) = True) := ⟨eq_true hc⟩
        clear hc
        refine wp_region_steps 11 rfl rfl (by kernel_rfl) (fun LL a wx => ∃ z : Nat → Value, Aside0 (a = { tmps := List.toArray (.slice (some ad) n c :: .int .i64 (ia : Int) :: .int .i64 (im : Int) :: .int .i64 (ib : Int) :: .func (.func fc) #[] caps :: undef :: undef :: undef :: undef :: undef :: .int .i64 (i : Int) :: .int .i64 (j : Int) :: .int .i64 (h : Int) :: undef :: undef :: undef :: undef :: undef :: undef :: undef :: undef :: undef :: undef :: undef :: undef :: .int .i64 (im : Int) :: .int .i64 (ia : Int) :: .int .i64 1 :: .bool true :: .int .i64 (im : Int) :: .int .i64 (ib : Int) :: .int .i64 (i : Int) :: .int .i64 (j : Int) :: .bool true :: .int .i64 (i : Int) :: .int .i64 (j : Int) :: .int .i64 (s : Int) :: .int .u64 (s : Int) :: .int .u64 (h : Int) :: .int .i64 (h : Int) :: z 40 :: z 41 :: z 42 :: z 43 :: z 44 :: z 45 :: z 46 :: z 47 :: z 48 :: z 49 :: z 50 :: u51 :: u52 :: u53 :: undef :: undef :: undef :: undef :: undef :: undef :: undef :: undef :: undef :: undef :: undef :: undef :: undef :: undef :: undef :: undef :: undef :: undef :: undef :: undef :: undef :: undef :: undef :: undef :: undef :: undef :: undef :: undef :: undef :: undef :: undef :: undef :: undef :: undef :: undef :: undef :: undef :: undef :: undef :: undef :: undef :: undef :: undef :: undef :: undef :: undef :: undef :: undef :: undef :: undef :: undef :: undef :: undef :: undef :: undef :: undef :: undef :: undef :: undef :: undef :: undef :: undef :: undef :: undef :: undef :: undef :: undef :: undef :: undef :: undef :: undef :: undef :: undef :: undef :: undef :: undef :: undef :: undef :: undef :: undef :: undef :: undef :: undef :: undef :: undef :: undef :: undef :: undef :: undef :: undef :: undef :: undef :: undef :: undef :: undef :: undef :: undef :: undef :: undef :: undef :: undef :: undef :: undef :: undef :: undef :: undef :: undef :: undef :: undef :: undef :: undef :: undef :: undef :: undef :: undef :: undef :: undef :: undef :: undef :: undef :: undef :: undef :: undef :: undef :: undef :: undef :: undef :: undef :: undef :: undef :: undef :: undef :: undef :: undef :: undef :: undef :: undef :: undef :: undef :: undef :: undef :: undef :: undef :: undef :: undef :: undef :: undef :: undef :: undef :: undef :: undef :: undef :: undef :: undef :: undef :: undef :: undef :: undef :: undef :: undef :: undef :: undef :: undef :: undef :: undef :: undef :: []), defers := [] } ∧ Tab LL z [(0, 40, .func (.func fc) #[] caps), (1, 41, .slice (some ad) n c), (2, 42, .int .i64 (h : Int)), (3, 43, .pointer (some (ad.add h))), (4, 44, .int .i32 x), (5, 45, .slice (some ad) n c), (6, 46, .int .i64 (ia : Int)), (7, 47, .pointer (some (ad.add ia))), (8, 48, .int .i32 y), (9, 49, .int .i64 (cmpf x y)), (10, 50, .bool true)] ∧ Aside0 (Below wr.heap.size wr wx))) ?_ ?_ ?_
        · exact ⟨(put1 (put1 (put1 (put1 (put1 (put1 (put1 (put1 (put1 (put1 (put1 (fun _ => undef) 40 u40) 41 u41) 42 u42) 43 u43) 44 u44) 45 u45) 46 u46) 47 u47) 48 u48) 49 u49) 50 u50), ⟨rfl, Tab.start 11 rfl rfl, ⟨below_drew (Below.refl _ _)⟩⟩⟩
        · refine Steps.cons ?_ (Steps.cons ?_ (Steps.cons ?_ (Steps.cons ?_ (Steps.cons ?_ (Steps.cons ?_ (Steps.cons ?_ (Steps.cons ?_ (Steps.cons ?_ (Steps.cons ?_ (Steps.cons ?_ (Steps.nil)))))))))))
          · intro LL a wx hI hLk hd K' hK
            obtain ⟨z, hI⟩ := hI
            obtain rfl := hI.out.1
            rw [if_pos (by rfl)]
            go_simp
            exact hK.out _ _ ⟨(put1 z 40 (.func (.func fc) #[] caps)), ⟨rfl, hI.out.2.1.upd 0 rfl rfl rfl rfl, hI.out.2.2⟩⟩
          · intro LL a wx hI hLk hd K' hK
            obtain ⟨z, hI⟩ := hI
            obtain rfl := hI.out.1
            rw [if_pos (by rfl)]
            go_simp
            exact hK.out _ _ ⟨(put1 z 41 (.slice (some ad) n c)), ⟨rfl, hI.out.2.1.upd 1 rfl rfl rfl rfl, hI.out.2.2⟩⟩
          · intro LL a wx hI hLk hd K' hK
            obtain ⟨z, hI⟩ := hI
            obtain rfl := hI.out.1
            rw [if_pos (by rfl)]
            go_simp
            exact hK.out _ _ ⟨(put1 z 42 (.int .i64 (h : Int))), ⟨rfl, hI.out.2.1.upd 2 rfl rfl rfl rfl, hI.out.2.2⟩⟩
          · intro LL a wx hI hLk hd K' hK
            obtain ⟨z, hI⟩ := hI
            obtain rfl := hI.out.1
            have e1 := hI.out.2.1.at 1 rfl (hd 1 rfl)
            have e2 := hI.out.2.1.at 2 rfl (hd 2 rfl)
            rw [if_pos (by rfl)]
            go_simp
            exact hK.out _ _ ⟨(put1 (put1 (put1 z 41 (.slice (some ad) n c)) 42 (.int .i64 (h : Int))) 43 (.pointer (some (ad.add h)))), ⟨rfl, ((hI.out.2.1.same (s := 41) (v := .slice (some ad) n c) e1).same (s := 42) (v := .int .i64 (h : Int)) e2).upd 3 rfl rfl rfl rfl, hI.out.2.2⟩⟩
          · intro LL a wx hI hLk hd K' hK
            obtain ⟨z, hI⟩ := hI
            obtain rfl := hI.out.1
            have e3 := hI.out.2.1.at 3 rfl (hd 3 rfl)
            have hb := hI.out.2.2
            have hq := HAJ.out.below hb.out
            have ck := hq.cell HAD.out h (by have := HXB.out; omega)
            rw [← HXY.out.1] at ck
            rw [if_pos (by rfl)]
            go_simp
            exact hK.out _ _ ⟨(put1 (put1 z 43 (.pointer (some (ad.add h)))) 44 (.int .i32 x)), ⟨rfl, (hI.out.2.1.same (s := 43) (v := .pointer (some (ad.add h))) e3).upd 4 rfl rfl rfl rfl, hI.out.2.2⟩⟩
          · intro LL a wx hI hLk hd K' hK
            obtain ⟨z, hI⟩ := hI
            obtain rfl := hI.out.1
            rw [if_pos (by rfl)]
            go_simp
            exact hK.out _ _ ⟨(put1 z 45 (.slice (some ad) n c)), ⟨rfl, hI.out.2.1.upd 5 rfl rfl rfl rfl, hI.out.2.2⟩⟩
          · intro LL a wx hI hLk hd K' hK
            obtain ⟨z, hI⟩ := hI
            obtain rfl := hI.out.1
            rw [if_pos (by rfl)]
            go_simp
            exact hK.out _ _ ⟨(put1 z 46 (.int .i64 (ia : Int))), ⟨rfl, hI.out.2.1.upd 6 rfl rfl rfl rfl, hI.out.2.2⟩⟩
          · intro LL a wx hI hLk hd K' hK
            obtain ⟨z, hI⟩ := hI
            obtain rfl := hI.out.1
            have e5 := hI.out.2.1.at 5 rfl (hd 5 rfl)
            have e6 := hI.out.2.1.at 6 rfl (hd 6 rfl)
            rw [if_pos (by rfl)]
            go_simp
            exact hK.out _ _ ⟨(put1 (put1 (put1 z 45 (.slice (some ad) n c)) 46 (.int .i64 (ia : Int))) 47 (.pointer (some (ad.add ia)))), ⟨rfl, ((hI.out.2.1.same (s := 45) (v := .slice (some ad) n c) e5).same (s := 46) (v := .int .i64 (ia : Int)) e6).upd 7 rfl rfl rfl rfl, hI.out.2.2⟩⟩
          · intro LL a wx hI hLk hd K' hK
            obtain ⟨z, hI⟩ := hI
            obtain rfl := hI.out.1
            have e7 := hI.out.2.1.at 7 rfl (hd 7 rfl)
            have hb := hI.out.2.2
            have hq := HAJ.out.below hb.out
            have ck := hq.cell HAD.out ia (by have := HXB.out; omega)
            rw [← HXY.out.2] at ck
            rw [if_pos (by rfl)]
            go_simp
            exact hK.out _ _ ⟨(put1 (put1 z 47 (.pointer (some (ad.add ia)))) 48 (.int .i32 y)), ⟨rfl, (hI.out.2.1.same (s := 47) (v := .pointer (some (ad.add ia))) e7).upd 8 rfl rfl rfl rfl, hI.out.2.2⟩⟩
          · intro LL a wx hI hLk hd K' hK
            obtain ⟨z, hI⟩ := hI
            obtain rfl := hI.out.1
            have e0 := hI.out.2.1.at 0 rfl (hd 0 rfl)
            have e4 := hI.out.2.1.at 4 rfl (hd 4 rfl)
            have e8 := hI.out.2.1.at 8 rfl (hd 8 rfl)
            have hb := hI.out.2.2
            rw [if_pos (by rfl)]
            go_simp
            refine (HCC.out x y wx ((HW0.out.trans HOJ.out).trans (On.of_below hb.out))).mono ?_
            rintro e w' ⟨rfl, hb1⟩
            exact hK.out _ _ ⟨(put1 (put1 (put1 (put1 z 40 (.func (.func fc) #[] caps)) 44 (.int .i32 x)) 48 (.int .i32 y)) 49 (.int .i64 (cmpf x y))), ⟨rfl, (((hI.out.2.1.same (s := 40) (v := .func (.func fc) #[] caps) e0).same (s := 44) (v := .int .i32 x) e4).same (s := 48) (v := .int .i32 y) e8).upd 9 rfl rfl rfl rfl, ⟨below_step hb.out hb1⟩⟩⟩
          · intro LL a wx hI hLk hd K' hK
            obtain ⟨z, hI⟩ := hI
            obtain rfl := hI.out.1
            have e9 := hI.out.2.1.at 9 rfl (hd 9 rfl)
            have hw := HCT.out
            rw [if_pos (by rfl)]
            go_simp
            exact hK.out _ _ ⟨(put1 (put1 z 49 (.int .i64 (cmpf x y))) 50 (.bool true)), ⟨rfl, (hI.out.2.1.same (s := 49) (v := .int .i64 (cmpf x y)) e9).upd 10 rfl rfl rfl rfl, hI.out.2.2⟩⟩
        · intro LL a wc hall hI
          obtain ⟨z, hI⟩ := hI
          obtain rfl := hI.out.1
          have hb := hI.out.2.2
          have e10 := hI.out.2.1.at 10 rfl (hall 10 (by decide))
          rw [e10]
          have HBC := hb
          clear hI hb e10 hall
          have HAK := Aside0.mk (HAJ.out.below HBC.out)
          have HOK := Aside0.mk (HOJ.out.trans (On.of_below HBC.out))
          clear HAJ HOJ
          go_wp2_with fail
          first
            | (refine ⟨⟨h + 1, j, by rw [HHW.out], rfl, ⟨HBS.out.up HH.out.1 HH.out.2 (by have h := of_eq_true HCT.out; rw [HXY.out.1, HYX.out] at h; exact h)⟩, HAK, HOK⟩, ?_⟩; rw [HHW.out]; simp only [intOf]; have := HH.out; omega)
            | (refine ⟨?_, ?_⟩; · (refine ⟨_, _, _, _, _, _, _, _, _, _, _, _, _, _, _, _, _, _, _, _, _, _, _, _, _, _, _, _, _, _, _, _, _, _, _, _, _, _, _, _, _, _, _, _, _, _, _, _, _, _, _, _, _, _, _, _, _, _, _, _, _, _, _, _, _, _, _, _, _, _, _, _, _, _, _, _, _, _, _, _, _, _, _, _, _, _, _, _, _, _, _, _, _, _, _, _, _, _, _, ?_, rfl⟩; exact ⟨h + 1, j, by rw [HHW.out], rfl, ⟨HBS.out.up HH.out.1 HH.out.2 (by have h := of_eq_true HCT.out; rw [HXY.out.1, HYX.out] at h; exact h)⟩, HAK, HOK⟩); · (show (intOf (.int .i64 (j : Int))).toNat - (intOf (.int .i64 (wrap64 ((h : Int) + 1)))).toNat < (intOf (.int .i64 (j : Int))).toNat - (intOf (.int .i64 (i : Int))).toNat; rw [HHW.out]; simp only [intOf]; have := HH.out; omega))
      · have HCF : Aside0 ((cmpf x y < 0) = False) := ⟨eq_false hc⟩
        clear hc
        refine wp_region_steps 11 rfl rfl (by kernel_rfl) (fun LL a wx => ∃ z : Nat → Value, Aside0 (a = { tmps := List.toArray (.slice (some ad) n c :: .int .i64 (ia : Int) :: .int .i64 (im : Int) :: .int .i64 (ib : Int) :: .func (.func fc) #[] caps :: undef :: undef :: undef :: undef :: undef :: .int .i64 (i : Int) :: .int .i64 (j : Int) :: .int .i64 (h : Int) :: undef :: undef :: undef :: undef :: undef :: undef :: undef :: undef :: undef :: undef :: undef :: undef :: .int .i64 (im : Int) :: .int .i64 (ia : Int) :: .int .i64 1 :: .bool true :: .int .i64 (im : Int) :: .int .i64 (ib : Int) :: .int .i64 (i : Int) :: .int .i64 (j : Int) :: .bool true :: .int .i64 (i : Int) :: .int .i64 (j : Int) :: .int .i64 (s : Int) :: .int .u64 (s : Int) :: .int .u64 (h : Int) :: .int .i64 (h : Int) :: z 40 :: z 41 :: z 42 :: z 43 :: z 44 :: z 45 :: z 46 :: z 47 :: z 48 :: z 49 :: z 50 :: u51 :: u52 :: u53 :: undef :: undef :: undef :: undef :: undef :: undef :: undef :: undef :: undef :: undef :: undef :: undef :: undef :: undef :: undef :: undef :: undef :: undef :: undef :: undef :: undef :: undef :: undef :: undef :: undef :: undef :: undef :: undef :: undef :: undef :: undef :: undef :: undef :: undef :: undef :: undef :: undef :: undef :: undef :: undef :: undef :: undef :: undef :: undef :: undef :: undef :: undef :: undef :: undef :: undef :: undef :: undef :: undef :: undef :: undef :: undef :: undef :: undef :: undef :: undef :: undef :: undef :: undef :: undef :: undef :: undef :: undef :: undef :: undef :: undef :: undef :: undef :: undef :: undef :: undef :: undef :: undef :: undef :: undef :: undef :: undef :: undef :: undef :: undef :: undef :: undef :: undef :: undef :: undef :: undef :: undef :: undef :: undef :: undef :: undef :: undef :: undef :: undef :: undef :: undef :: undef :: undef :: undef :: undef :: undef :: undef :: undef :: undef :: undef :: undef :: undef :: undef :: undef :: undef :: undef :: undef :: undef :: undef :: undef :: undef :: undef :: undef :: undef :: undef :: undef :: undef :: undef :: undef :: undef :: undef :: undef :: undef :: undef :: undef :: undef :: undef :: undef :: undef :: undef :: undef :: undef :: undef :: undef :: undef :: undef :: undef :: undef :: undef :: undef :: undef :: undef :: undef :: undef :: undef :: undef :: undef :: undef :: undef :: undef :: undef :: undef :: undef :: undef :: undef :: undef :: undef :: []), defers := [] } ∧ Tab LL z [(0, 40, .func (.func fc) #[] caps), (1, 41, .slice (some ad) n c), (2, 42, .int .i64 (h : Int)), (3, 43, .pointer (some (ad.add h))), (4, 44, .int .i32 x), (5, 45, .slice (some ad) n c), (6, 46, .int .i64 (ia : Int)), (7, 47, .pointer (some (ad.add ia))), (8, 48, .int .i32 y), (9, 49, .int .i64 (cmpf x y)), (10, 50, .bool false)] ∧ Aside0 (Below wr.heap.size wr wx))) ?_ ?_ ?_
        · exact ⟨(put1 (put1 (put1 (put1 (put1 (put1 (put1 (put1 (put1 (put1 (put1 (fun _ => undef) 40 u40) 41 u41) 42 u42) 43 u43) 44 u44) 45 u45) 46 u46) 47 u47) 48 u48) 49 u49) 50 u50), ⟨rfl, Tab.start 11 rfl rfl, ⟨below_drew (Below.refl _ _)⟩⟩⟩
        · refine Steps.cons ?_ (Steps.cons ?_ (Steps.cons ?_ (Steps.cons ?_ (Steps.cons ?_ (Steps.cons ?_ (Steps.cons ?_ (Steps.cons ?_ (Steps.cons ?_ (Steps.cons ?_ (Steps.cons ?_ (Steps.nil)))))))))))
          · intro LL a wx hI hLk hd K' hK
            obtain ⟨z, hI⟩ := hI
            obtain rfl := hI.out.1
            rw [if_pos (by rfl)]
            go_simp
            exact hK.out _ _ ⟨(put1 z 40 (.func (.func fc) #[] caps)), ⟨rfl, hI.out.2.1.upd 0 rfl rfl rfl rfl, hI.out.2.2⟩⟩
          · intro LL a wx hI hLk hd K' hK
            obtain ⟨z, hI⟩ := hI
            obtain rfl := hI.out.1
            rw [if_pos (by rfl)]
            go_simp
            exact hK.out _ _ ⟨(put1 z 41 (.slice (some ad) n c)), ⟨rfl, hI.out.2.1.upd 1 rfl rfl rfl rfl, hI.out.2.2⟩⟩
          · intro LL a wx hI hLk hd K' hK
            obtain ⟨z, hI⟩ := hI
            obtain rfl := hI.out.1
            rw [if_pos (by rfl)]
            go_simp
            exact hK.out _ _ ⟨(put1 z 42 (.int .i64 (h : Int))), ⟨rfl, hI.out.2.1.upd 2 rfl rfl rfl rfl, hI.out.2.2⟩⟩
          · intro LL a wx hI hLk hd K' hK
            obtain ⟨z, hI⟩ := hI
            obtain rfl := hI.out.1
            have e1 := hI.out.2.1.at 1 rfl (hd 1 rfl)
            have e2 := hI.out.2.1.at 2 rfl (hd 2 rfl)
            rw [if_pos (by rfl)]
            go_simp
            exact hK.out _ _ ⟨(put1 (put1 (put1 z 41 (.slice (some ad) n c)) 42 (.int .i64 (h : Int))) 43 (.pointer (some (ad.add h)))), ⟨rfl, ((hI.out.2.1.same (s := 41) (v := .slice (some ad) n c) e1).same (s := 42) (v := .int .i64 (h : Int)) e2).upd 3 rfl rfl rfl rfl, hI.out.2.2⟩⟩
          · intro LL a wx hI hLk hd K' hK
            obtain ⟨z, hI⟩ := hI
            obtain rfl := hI.out.1
            have e3 := hI.out.2.1.at 3 rfl (hd 3 rfl)
            have hb := hI.out.2.2
            have hq := HAJ.out.below hb.out
            have ck := hq.cell HAD.out h (by have := HXB.out; omega)
            rw [← HXY.out.1] at ck
            rw [if_pos (by rfl)]
            go_simp
            exact hK.out _ _ ⟨(put1 (put1 z 43 (.pointer (some (ad.add h)))) 44 (.int .i32 x)), ⟨rfl, (hI.out.2.1.same (s := 43) (v := .pointer (some (ad.add h))) e3).upd 4 rfl rfl rfl rfl, hI.out.2.2⟩⟩
          · intro LL a wx hI hLk hd K' hK
            obtain ⟨z, hI⟩ := hI
            obtain rfl := hI.out.1
            rw [if_pos (by rfl)]
            go_simp
            exact hK.out _ _ ⟨(put1 z 45 (.slice (some ad) n c)), ⟨rfl, hI.out.2.1.upd 5 rfl rfl rfl rfl, hI.out.2.2⟩⟩
          · intro LL a wx hI hLk hd K' hK
            obtain ⟨z, hI⟩ := hI
            obtain rfl := hI.out.1
            rw [if_pos (by rfl)]
            go_simp
            exact hK.out _ _ ⟨(put1 z 46 (.int .i64 (ia : Int))), ⟨rfl, hI.out.2.1.upd 6 rfl rfl rfl rfl, hI.out.2.2⟩⟩
          · intro LL a wx hI hLk hd K' hK
            obtain ⟨z, hI⟩ := hI
            obtain rfl := hI.out.1
            have e5 := hI.out.2.1.at 5 rfl (hd 5 rfl)
            have e6 := hI.out.2.1.at 6 rfl (hd 6 rfl)
            rw [if_pos (by rfl)]
            go_simp
            exact hK.out _ _ ⟨(put1 (put1 (put1 z 45 (.slice (some ad) n c)) 46 (.int .i64 (ia : Int))) 47 (.pointer (some (ad.add ia)))), ⟨rfl, ((hI.out.2.1.same (s := 45) (v := .slice (some ad) n c) e5).same (s := 46) (v := .int .i64 (ia : Int)) e6).upd 7 rfl rfl rfl rfl, hI.out.2.2⟩⟩
          · intro LL a wx hI hLk hd K' hK
            obtain ⟨z, hI⟩ := hI
            obtain rfl := hI.out.1
            have e7 := hI.out.2.1.at 7 rfl (hd 7 rfl)
            have hb := hI.out.2.2
            have hq := HAJ.out.below hb.out
            have ck := hq.cell HAD.out ia (by have := HXB.out; omega)
            rw [← HXY.out.2] at ck
            rw [if_pos (by rfl)]
            go_simp
            exact hK.out _ _ ⟨(put1 (put1 z 47 (.pointer (some (ad.add ia)))) 48 (.int .i32 y)), ⟨rfl, (hI.out.2.1.same (s := 47) (v := .pointer (some (ad.add ia))) e7).upd 8 rfl rfl rfl rfl, hI.out.2.2⟩⟩
          · intro LL a wx hI hLk hd K' hK
            obtain ⟨z, hI⟩ := hI
            obtain rfl := hI.out.1
            have e0 := hI.out.2.1.at 0 rfl (hd 0 rfl)
            have e4 := hI.out.2.1.at 4 rfl (hd 4 rfl)
            have e8 := hI.out.2.1.at 8 rfl (hd 8 rfl)
            have hb := hI.out.2.2
            rw [if_pos (by rfl)]
            go_simp
            refine (HCC.out x y wx ((HW0.out.trans HOJ.out).trans (On.of_below hb.out))).mono ?_
            rintro e w' ⟨rfl, hb1⟩
            exact hK.out _ _ ⟨(put1 (put1 (put1 (put1 z 40 (.func (.func fc) #[] caps)) 44 (.int .i32 x)) 48 (.int .i32 y)) 49 (.int .i64 (cmpf x y))), ⟨rfl, (((hI.out.2.1.same (s := 40) (v := .func (.func fc) #[] caps) e0).same (s := 44) (v := .int .i32 x) e4).same (s := 48) (v := .int .i32 y) e8).upd 9 rfl rfl rfl rfl, ⟨below_step hb.out hb1⟩⟩⟩
          · intro LL a wx hI hLk hd K' hK
            obtain ⟨z, hI⟩ := hI
            obtain rfl := hI.out.1
            have e9 := hI.out.2.1.at 9 rfl (hd 9 rfl)
            have hw := HCF.out
            rw [if_pos (by rfl)]
            go_simp
            exact hK.out _ _ ⟨(put1 (put1 z 49 (.int .i64 (cmpf x y))) 50 (.bool false)), ⟨rfl, (hI.out.2.1.same (s := 49) (v := .int .i64 (cmpf x y)) e9).upd 10 rfl rfl rfl rfl, hI.out.2.2⟩⟩
        · intro LL a wc hall hI
          obtain ⟨z, hI⟩ := hI
          obtain rfl := hI.out.1
          have hb := hI.out.2.2
          have e10 := hI.out.2.1.at 10 rfl (hall 10 (by decide))
          rw [e10]
          have HBC := hb
          clear hI hb e10 hall
          have HAK := Aside0.mk (HAJ.out.below HBC.out)
          have HOK := Aside0.mk (HOJ.out.trans (On.of_below HBC.out))
          clear HAJ HOJ
          go_wp2_with fail
          first
            | (refine ⟨⟨i, h, rfl, rfl, ⟨HBS.out.down HH.out.1 HH.out.2 (by have h := of_eq_false HCF.out; rw [HXY.out.1, HYX.out] at h; exact h)⟩, HAK, HOK⟩, ?_⟩; simp only [intOf]; have := HH.out; omega)
            | (refine ⟨?_, ?_⟩; · (refine ⟨_, _, _, _, _, _, _, _, _, _, _, _, _, _, _, _, _, _, _, _, _, _, _, _, _, _, _, _, _, _, _, _, _, _, _, _, _, _, _, _, _, _, _, _, _, _, _, _, _, _, _, _, _, _, _, _, _, _, _, _, _, _, _, _, _, _, _, _, _, _, _, _, _, _, _, _, _, _, _, _, _, _, _, _, _, _, _, _, _, _, _, _, _, _, _, _, _, _, _, ?_, rfl⟩; exact ⟨i, h, rfl, rfl, ⟨HBS.out.down HH.out.1 HH.out.2 (by have h := of_eq_false HCF.out; rw [HXY.out.1, HYX.out] at h; exact h)⟩, HAK, HOK⟩); · (simp only [intOf]; have := HH.out; omega))
    · have hc1 : ((i : Int) < (j : Int)) = False := eq_false (by omega)
      have hc1n : (i < j) = False := eq_false hlt
      obtain rfl : i = j := by have := HIJ.out; omega
      clear hlt
      have HST : Aside0 (St k ([x0] ++ R) (R.take (i - im) ++ x0 :: R.drop (i - im))) := ⟨left_done (T := fun h => cmpf (D.getD (o + h) 0) x0 < 0) HS.out HT.out (by have h := HBS.out; rw [show ib = im + R.length by have := HB.out; omega] at h; exact h)⟩
      have HIW : Aside0 (wrap64 ((i : Int) - 1) = ((i - 1 : Nat) : Int)) := ⟨by rw [← i64_w]; have := HJN.out; have := HB.out; have := HIJ.out; exact w64n _ _ (by omega) (by omega)⟩
      go_wp2_with fail
      go_loopw [13] (fun vk wq => ∃ t : Nat, vk = .int .i64 ((ia + t : Nat) : Int) ∧ t ≤ i - im ∧ Aside0 (Arr XX wq g (P ++ R.take t ++ x0 :: R.drop t ++ Q)) ∧ Aside0 (On (· = g) w wq)) (fun vk _ => i - (intOf vk).toNat)
      case atStart => exact ⟨0, rfl, Nat.zero_le _, ⟨by rw [List.take_zero, List.drop_zero, List.append_nil]; have h := HAJ.out; rw [HD.out] at h; simpa using h⟩, HOJ⟩
      case round =>
        clear HAJ HOJ
        obtain ⟨t, rfl, ht, HAJ, HOJ⟩ := hrel
        obtain ⟨q, hq⟩ : ∃ q : Nat, q = ia + t := ⟨_, rfl⟩
        obtain ⟨i1, hi1⟩ : ∃ i1 : Nat, i1 = i - 1 := ⟨_, rfl⟩
        have hiw : wrap64 ((i : Int) - 1) = (i1 : Int) := by rw [hi1]; exact HIW.out
        rw [← hq]
        by_cases hlt : t < i - im
        · have hc2 : ((q : Int) < (i1 : Int)) = True := eq_true (by have := HB.out; omega)
          have hc2n : (q < i1) = True := eq_true (by have := HB.out; omega)
          obtain ⟨E, hE⟩ : ∃ E, E = P ++ R.take t ++ x0 :: R.drop t ++ Q := ⟨_, rfl⟩
          rw [← hE] at HAJ
          have hEl : E.length = D.length := by rw [hE, HD.out]; simp only [List.length_append, List.length_cons, List.length_nil, List.length_take, List.length_drop]; omega
          obtain ⟨q1, hq1⟩ : ∃ q1 : Nat, q1 = q + 1 := ⟨_, rfl⟩
          have HQ : Aside0 (q = ia + t ∧ q1 = q + 1 ∧ t < i - im ∧ t < R.length ∧ q1 < n) := ⟨by have := HB.out; have := HIJ.out; have := HJN.out; omega⟩
          have HQW : Aside0 (IntKind.i64.wrap ((q : Int) + 1) = (q1 : Int)) := ⟨by have := HJN.out; have := HQ.out; exact w64n _ _ (by omega) (by omega)⟩
          have HQW2 : Aside0 (wrap64 ((q : Int) + 1) = (q1 : Int)) := ⟨by rw [← i64_w]; exact HQW.out⟩
          obtain ⟨x, hx⟩ : ∃ x, x = E.getD (o + q) 0 := ⟨_, rfl⟩
          obtain ⟨y, hy⟩ : ∃ y, y = E.getD (o + q1) 0 := ⟨_, rfl⟩
          have HXY := Aside0.mk (And.intro hx hy)
          have HBK : Aside0 (o + q < E.length ∧ o + q1 < E.length) := ⟨by rw [hEl]; have := HJN.out; have := HQ.out; omega⟩
          have HNX : Aside0 (swap E (o + q) (o + q1) = P ++ R.take (t + 1) ++ x0 :: R.drop (t + 1) ++ Q) := ⟨by rw [hE, ← up_step P R Q x0 t HQ.out.2.2.2.1]; congr 1 <;> (have := HB.out; have := HQ.out; omega)⟩
          have j0 : ((0 : Int) ≤ (q : Int)) = True := eq_true (by omega)
          have j1 : ((q : Int) < (n : Int)) = True := eq_true (by have := HQ.out; omega)
          have j2 : (q < n) = True := eq_true (by have := HQ.out; omega)
          have q0 : ((0 : Int) ≤ (q1 : Int)) = True := eq_true (by omega)
          have q3 : ((q1 : Int) < (n : Int)) = True := eq_true (by have := HQ.out; omega)
          have q2 : (q1 < n) = True := eq_true (by have := HQ.out; omega)
          clear hq hi1 hlt ht hE hEl hq1 hx hy hc1 hc1n
          go_wp2_with fail
          clear hiw hc2 hc2n
          refine wp_region_steps 18 rfl rfl (by kernel_rfl) (fun LL a wx => ∃ z2 : Nat → Value, Aside0 (a = { tmps := List.toArray (.slice (some ad) n c :: .int .i64 (ia : Int) :: .int .i64 (im : Int) :: .int .i64 (ib : Int) :: .func (.func fc) #[] caps :: undef :: undef :: undef :: undef :: undef :: .int .i64 (i : Int) :: .int .i64 (i : Int) :: u12 :: .int .i64 (q : Int) :: undef :: undef :: undef :: undef :: undef :: undef :: undef :: undef :: undef :: undef :: undef :: .int .i64 (im : Int) :: .int .i64 (ia : Int) :: .int .i64 1 :: .bool true :: .int .i64 (im : Int) :: .int .i64 (ib : Int) :: .int .i64 (i : Int) :: .int .i64 (i : Int) :: .bool false :: u34 :: u35 :: u36 :: u37 :: u38 :: u39 :: u40 :: u41 :: u42 :: u43 :: u44 :: u45 :: u46 :: u47 :: u48 :: u49 :: u50 :: u51 :: u52 :: u53 :: .int .i64 (ia : Int) :: .int .i64 (q : Int) :: .int .i64 (i : Int) :: .int .i64 (wrap64 ((i : Int) - 1)) :: .bool true :: u59 :: u60 :: z2 61 :: z2 62 :: z2 63 :: z2 64 :: z2 65 :: z2 66 :: z2 67 :: z2 68 :: z2 69 :: z2 70 :: z2 71 :: z2 72 :: z2 73 :: z2 74 :: z2 75 :: z2 76 :: undef :: undef :: undef :: undef :: undef :: undef :: undef :: undef :: undef :: undef :: undef :: undef :: undef :: undef :: undef :: undef :: undef :: undef :: undef :: undef :: undef :: undef :: undef :: undef :: undef :: undef :: undef :: undef :: undef :: undef :: undef :: undef :: undef :: undef :: undef :: undef :: undef :: undef :: undef :: undef :: undef :: undef :: undef :: undef :: undef :: undef :: undef :: undef :: undef :: undef :: undef :: undef :: undef :: undef :: undef :: undef :: undef :: undef :: undef :: undef :: undef :: undef :: undef :: undef :: undef :: undef :: undef :: undef :: undef :: undef :: undef :: undef :: undef :: undef :: undef :: undef :: undef :: undef :: undef :: undef :: undef :: undef :: undef :: undef :: undef :: undef :: undef :: undef :: undef :: undef :: undef :: undef :: undef :: undef :: undef :: undef :: undef :: undef :: undef :: undef :: undef :: undef :: undef :: undef :: undef :: undef :: undef :: undef :: undef :: undef :: undef :: undef :: undef :: undef :: undef :: undef :: undef :: undef :: undef :: undef :: undef :: undef :: undef :: undef :: undef :: undef :: undef :: undef :: undef :: undef :: undef :: undef :: undef :: undef :: undef :: undef :: undef :: undef :: undef :: undef :: undef :: undef :: undef :: []), defers := [] } ∧ Tab LL z2 [(0, 61, .slice (some ad) n c), (1, 62, .int .i64 (q : Int)), (2, 63, .slice (some ad) n c), (3, 64, .int .i64 (q : Int)), (4, 65, .int .i64 (q1 : Int)), (5, 66, .slice (some ad) n c), (6, 67, .int .i64 (q : Int)), (7, 68, .int .i64 (q1 : Int)), (8, 69, .pointer (some (ad.add q1))), (9, 70, .int .i32 y), (10, 71, .slice (some ad) n c), (11, 72, .int .i64 (q : Int)), (12, 73, .pointer (some (ad.add q))), (13, 74, .int .i32 x), (14, 75, .pointer (some (ad.add q))), (16, 76, .pointer (some (ad.add q1)))] ∧ Aside0 (Arr XX wx g (bif LL 17 then ((E.set (o + q) y).set (o + q1) x) else bif LL 15 then (E.set (o + q) y) else E)) ∧ Aside0 (On (· = g) wr wx) ∧ Aside0 ((LL 15 = true → LL 9 = true ∧ LL 13 = true) ∧ (LL 17 = true → LL 15 = true)))) ?_ ?_ ?_
          · exact ⟨(put1 (put1 (put1 (put1 (put1 (put1 (put1 (put1 (put1 (put1 (put1 (put1 (put1 (put1 (put1 (put1 (fun _ => undef) 61 u61) 62 u62) 63 u63) 64 u64) 65 u65) 66 u66) 67 u67) 68 u68) 69 u69) 70 u70) 71 u71) 72 u72) 73 u73) 74 u74) 75 u75) 76 u76), ⟨rfl, Tab.start 18 rfl rfl, ⟨HAJ.out.below (below_drew (Below.refl _ _))⟩, ⟨On.of_below (below_drew (Below.refl _ _))⟩, ⟨⟨fun h => absurd h (by decide), fun h => absurd h (by decide)⟩⟩⟩⟩
          · refine Steps.cons ?_ (Steps.cons ?_ (Steps.cons ?_ (Steps.cons ?_ (Steps.cons ?_ (Steps.cons ?_ (Steps.cons ?_ (Steps.cons ?_ (Steps.cons ?_ (Steps.cons ?_ (Steps.cons ?_ (Steps.cons ?_ (Steps.cons ?_ (Steps.cons ?_ (Steps.cons ?_ (Steps.cons ?_ (Steps.cons ?_ (Steps.cons ?_ (Steps.nil))))))))))))))))))
            · intro LL a wx hI hLk hd K' hK
              obtain ⟨z2, hI⟩ := hI
              obtain rfl := hI.out.1
              rw [if_pos (by rfl)]
              go_simp
              exact hK.out _ _ ⟨(put1 z2 61 (.slice (some ad) n c)), ⟨rfl, hI.out.2.1.upd 0 rfl rfl rfl rfl, hI.out.2.2.1, hI.out.2.2.2.1, hI.out.2.2.2.2⟩⟩
            · intro LL a wx hI hLk hd K' hK
              obtain ⟨z2, hI⟩ := hI
              obtain rfl := hI.out.1
              rw [if_pos (by rfl)]
              go_simp
              exact hK.out _ _ ⟨(put1 z2 62 (.int .i64 (q : Int))), ⟨rfl, hI.out.2.1.upd 1 rfl rfl rfl rfl, hI.out.2.2.1, hI.out.2.2.2.1, hI.out.2.2.2.2⟩⟩
            · intro LL a wx hI hLk hd K' hK
              obtain ⟨z2, hI⟩ := hI
              obtain rfl := hI.out.1
              rw [if_pos (by rfl)]
              go_simp
              exact hK.out _ _ ⟨(put1 z2 63 (.slice (some ad) n c)), ⟨rfl, hI.out.2.1.upd 2 rfl rfl rfl rfl, hI.out.2.2.1, hI.out.2.2.2.1, hI.out.2.2.2.2⟩⟩
            · intro LL a wx hI hLk hd K' hK
              obtain ⟨z2, hI⟩ := hI
              obtain rfl := hI.out.1
              rw [if_pos (by rfl)]
              go_simp
              exact hK.out _ _ ⟨(put1 z2 64 (.int .i64 (q : Int))), ⟨rfl, hI.out.2.1.upd 3 rfl rfl rfl rfl, hI.out.2.2.1, hI.out.2.2.2.1, hI.out.2.2.2.2⟩⟩
            · intro LL a wx hI hLk hd K' hK
              obtain ⟨z2, hI⟩ := hI
              obtain rfl := hI.out.1
              have e3 := hI.out.2.1.at 3 rfl (hd 3 rfl)
              have hw := HQW.out
              rw [if_pos (by rfl)]
              go_simp
              exact hK.out _ _ ⟨(put1 (put1 z2 64 (.int .i64 (q : Int))) 65 (.int .i64 (q1 : Int))), ⟨rfl, (hI.out.2.1.same (s := 64) (v := .int .i64 (q : Int)) e3).upd 4 rfl rfl rfl rfl, hI.out.2.2.1, hI.out.2.2.2.1, hI.out.2.2.2.2⟩⟩
            · intro LL a wx hI hLk hd K' hK
              obtain ⟨z2, hI⟩ := hI
              obtain rfl := hI.out.1
              rw [if_pos (by rfl)]
              go_simp
              exact hK.out _ _ ⟨(put1 z2 66 (.slice (some ad) n c)), ⟨rfl, hI.out.2.1.upd 5 rfl rfl rfl rfl, hI.out.2.2.1, hI.out.2.2.2.1, hI.out.2.2.2.2⟩⟩
            · intro LL a wx hI hLk hd K' hK
              obtain ⟨z2, hI⟩ := hI
              obtain rfl := hI.out.1
              rw [if_pos (by rfl)]
              go_simp
              exact hK.out _ _ ⟨(put1 z2 67 (.int .i64 (q : Int))), ⟨rfl, hI.out.2.1.upd 6 rfl rfl rfl rfl, hI.out.2.2.1, hI.out.2.2.2.1, hI.out.2.2.2.2⟩⟩
            · intro LL a wx hI hLk hd K' hK
              obtain ⟨z2, hI⟩ := hI
              obtain rfl := hI.out.1
              have e6 := hI.out.2.1.at 6 rfl (hd 6 rfl)
              have hw := HQW.out
              rw [if_pos (by rfl)]
              go_simp
              exact hK.out _ _ ⟨(put1 (put1 z2 67 (.int .i64 (q : Int))) 68 (.int .i64 (q1 : Int))), ⟨rfl, (hI.out.2.1.same (s := 67) (v := .int .i64 (q : Int)) e6).upd 7 rfl rfl rfl rfl, hI.out.2.2.1, hI.out.2.2.2.1, hI.out.2.2.2.2⟩⟩
            · intro LL a wx hI hLk hd K' hK
              obtain ⟨z2, hI⟩ := hI
              obtain rfl := hI.out.1
              have e5 := hI.out.2.1.at 5 rfl (hd 5 rfl)
              have e7 := hI.out.2.1.at 7 rfl (hd 7 rfl)
              rw [if_pos (by rfl)]
              go_simp
              exact hK.out _ _ ⟨(put1 (put1 (put1 z2 66 (.slice (some ad) n c)) 68 (.int .i64 (q1 : Int))) 69 (.pointer (some (ad.add q1)))), ⟨rfl, ((hI.out.2.1.same (s := 66) (v := .slice (some ad) n c) e5).same (s := 68) (v := .int .i64 (q1 : Int)) e7).upd 8 rfl rfl rfl rfl, hI.out.2.2.1, hI.out.2.2.2.1, hI.out.2.2.2.2⟩⟩
            · intro LL a wx hI hLk hd K' hK
              obtain ⟨z2, hI⟩ := hI
              obtain rfl := hI.out.1
              have e8 := hI.out.2.1.at 8 rfl (hd 8 rfl)
              have hA := hI.out.2.2.1
              have hz := hI.out.2.2.2.2
              have f15 := flag_off (fun h => (hz.out.1 h).1) hLk
              have f17 := flag_off (fun h => (hz.out.1 (hz.out.2 h)).1) hLk
              have hq : Arr XX wx g E := by have h := hA.out; rw [f17, f15] at h; exact h
              have ck := hq.cell HAD.out q1 (by have := HBK.out; omega)
              rw [← HXY.out.2] at ck
              rw [if_pos (by rfl)]
              go_simp
              exact hK.out _ _ ⟨(put1 (put1 z2 69 (.pointer (some (ad.add q1)))) 70 (.int .i32 y)), ⟨rfl, (hI.out.2.1.same (s := 69) (v := .pointer (some (ad.add q1))) e8).upd 9 rfl rfl rfl rfl, hI.out.2.2.1, hI.out.2.2.2.1, ⟨⟨fun h => ⟨rfl, (hz.out.1 h).2⟩, hz.out.2⟩⟩⟩⟩
            · intro LL a wx hI hLk hd K' hK
              obtain ⟨z2, hI⟩ := hI
              obtain rfl := hI.out.1
              rw [if_pos (by rfl)]
              go_simp
              exact hK.out _ _ ⟨(put1 z2 71 (.slice (some ad) n c)), ⟨rfl, hI.out.2.1.upd 10 rfl rfl rfl rfl, hI.out.2.2.1, hI.out.2.2.2.1, hI.out.2.2.2.2⟩⟩
            · intro LL a wx hI hLk hd K' hK
              obtain ⟨z2, hI⟩ := hI
              obtain rfl := hI.out.1
              rw [if_pos (by rfl)]
              go_simp
              exact hK.out _ _ ⟨(put1 z2 72 (.int .i64 (q : Int))), ⟨rfl, hI.out.2.1.upd 11 rfl rfl rfl rfl, hI.out.2.2.1, hI.out.2.2.2.1, hI.out.2.2.2.2⟩⟩
            · intro LL a wx hI hLk hd K' hK
              obtain ⟨z2, hI⟩ := hI
              obtain rfl := hI.out.1
              have e10 := hI.out.2.1.at 10 rfl (hd 10 rfl)
              have e11 := hI.out.2.1.at 11 rfl (hd 11 rfl)
              rw [if_pos (by rfl)]
              go_simp
              exact hK.out _ _ ⟨(put1 (put1 (put1 z2 71 (.slice (some ad) n c)) 72 (.int .i64 (q : Int))) 73 (.pointer (some (ad.add q)))), ⟨rfl, ((hI.out.2.1.same (s := 71) (v := .slice (some ad) n c) e10).same (s := 72) (v := .int .i64 (q : Int)) e11).upd 12 rfl rfl rfl rfl, hI.out.2.2.1, hI.out.2.2.2.1, hI.out.2.2.2.2⟩⟩
            · intro LL a wx hI hLk hd K' hK
              obtain ⟨z2, hI⟩ := hI
              obtain rfl := hI.out.1
              have e12 := hI.out.2.1.at 12 rfl (hd 12 rfl)
              have hA := hI.out.2.2.1
              have hz := hI.out.2.2.2.2
              have f15 := flag_off (fun h => (hz.out.1 h).2) hLk
              have f17 := flag_off (fun h => (hz.out.1 (hz.out.2 h)).2) hLk
              have hq : Arr XX wx g E := by have h := hA.out; rw [f17, f15] at h; exact h
              have ck := hq.cell HAD.out q (by have := HBK.out; omega)
              rw [← HXY.out.1] at ck
              rw [if_pos (by rfl)]
              go_simp
              exact hK.out _ _ ⟨(put1 (put1 z2 73 (.pointer (some (ad.add q)))) 74 (.int .i32 x)), ⟨rfl, (hI.out.2.1.same (s := 73) (v := .pointer (some (ad.add q))) e12).upd 13 rfl rfl rfl rfl, hI.out.2.2.1, hI.out.2.2.2.1, ⟨⟨fun h => ⟨(hz.out.1 h).1, rfl⟩, hz.out.2⟩⟩⟩⟩
            · intro LL a wx hI hLk hd K' hK
              obtain ⟨z2, hI⟩ := hI
              obtain rfl := hI.out.1
              have e0 := hI.out.2.1.at 0 rfl (hd 0 rfl)
              have e1 := hI.out.2.1.at 1 rfl (hd 1 rfl)
              rw [if_pos (by rfl)]
              go_simp
              exact hK.out _ _ ⟨(put1 (put1 (put1 z2 61 (.slice (some ad) n c)) 62 (.int .i64 (q : Int))) 75 (.pointer (some (ad.add q)))), ⟨rfl, ((hI.out.2.1.same (s := 61) (v := .slice (some ad) n c) e0).same (s := 62) (v := .int .i64 (q : Int)) e1).upd 14 rfl rfl rfl rfl, hI.out.2.2.1, hI.out.2.2.2.1, hI.out.2.2.2.2⟩⟩
            · intro LL a wx hI hLk hd K' hK
              obtain ⟨z2, hI⟩ := hI
              obtain rfl := hI.out.1
              have e14 := hI.out.2.1.at 14 rfl (hd 14 rfl)
              have e9 := hI.out.2.1.at 9 rfl (hd 9 rfl)
              have hA := hI.out.2.2.1
              have ho := hI.out.2.2.2.1
              have hz := hI.out.2.2.2.2
              have f17 := flag_off (fun h => hz.out.2 h) hLk
              have hq : Arr XX wx g E := by have h := hA.out; rw [f17, hLk] at h; exact h
              have ck := hq.cell HAD.out q (by have := HBK.out; omega)
              have fz := hq.frozen HAD.out q
              rw [if_pos (by rfl)]
              go_simp
              exact hK.out _ _ ⟨(put1 (put1 z2 75 (.pointer (some (ad.add q)))) 70 (.int .i32 y)), ⟨rfl, ((hI.out.2.1.same (s := 75) (v := .pointer (some (ad.add q))) e14).same (s := 70) (v := .int .i32 y) e9).none 15 rfl, ⟨(show Arr XX _ g (bif LL 17 then _ else (E.set (o + q) y)) by rw [f17]; exact (hq.set HAD.out q y (by have := HBK.out; omega)).1)⟩, ⟨ho.out.trans (hq.set HAD.out q y (by have := HBK.out; omega)).2⟩, ⟨⟨fun _ => ⟨hd 9 rfl, hd 13 rfl⟩, fun _ => rfl⟩⟩⟩⟩
            · intro LL a wx hI hLk hd K' hK
              obtain ⟨z2, hI⟩ := hI
              obtain rfl := hI.out.1
              have e2 := hI.out.2.1.at 2 rfl (hd 2 rfl)
              have e4 := hI.out.2.1.at 4 rfl (hd 4 rfl)
              rw [if_pos (by rfl)]
              go_simp
              exact hK.out _ _ ⟨(put1 (put1 (put1 z2 63 (.slice (some ad) n c)) 65 (.int .i64 (q1 : Int))) 76 (.pointer (some (ad.add q1)))), ⟨rfl, ((hI.out.2.1.same (s := 63) (v := .slice (some ad) n c) e2).same (s := 65) (v := .int .i64 (q1 : Int)) e4).upd 15 rfl rfl rfl rfl, hI.out.2.2.1, hI.out.2.2.2.1, hI.out.2.2.2.2⟩⟩
            · intro LL a wx hI hLk hd K' hK
              obtain ⟨z2, hI⟩ := hI
              obtain rfl := hI.out.1
              have e16 := hI.out.2.1.at 15 rfl (hd 16 rfl)
              have e13 := hI.out.2.1.at 13 rfl (hd 13 rfl)
              have hA := hI.out.2.2.1
              have ho := hI.out.2.2.2.1
              have hz := hI.out.2.2.2.2
              have hq : Arr XX wx g (E.set (o + q) y) := by have h := hA.out; rw [hLk, hd 15 rfl] at h; exact h
              have ck := hq.cell HAD.out q1 (by rw [List.length_set]; have := HBK.out; omega)
              have fz := hq.frozen HAD.out q1
              rw [if_pos (by rfl)]
              go_simp
              exact hK.out _ _ ⟨(put1 (put1 z2 76 (.pointer (some (ad.add q1)))) 74 (.int .i32 x)), ⟨rfl, ((hI.out.2.1.same (s := 76) (v := .pointer (some (ad.add q1))) e16).same (s := 74) (v := .int .i32 x) e13).none 17 rfl, ⟨(hq.set HAD.out q1 x (by rw [List.length_set]; have := HBK.out; omega)).1⟩, ⟨ho.out.trans (hq.set HAD.out q1 x (by rw [List.length_set]; have := HBK.out; omega)).2⟩, ⟨⟨hz.out.1, fun _ => hd 15 rfl⟩⟩⟩⟩
          · intro LL a wd hall hI
            obtain ⟨z2, hI⟩ := hI
            obtain rfl := hI.out.1
            have hA := hI.out.2.2.1
            have ho := hI.out.2.2.2.1
            have hz := hI.out.2.2.2.2
            have HA9 : Aside0 (Arr XX wd g (swap E (o + q) (o + q1))) := ⟨by rw [swap, ← HXY.out.1, ← HXY.out.2]; have h := hA.out; rw [hall 17 (by decide)] at h; exact h⟩
            have HO9 := ho
            clear hI hA ho hz hall
            have HA10 : Aside0 (Arr XX wd g (P ++ R.take (t + 1) ++ x0 :: R.drop (t + 1) ++ Q)) := ⟨by rw [← HNX.out]; exact HA9.out⟩
            have HO10 := Aside0.mk (HOJ.out.trans HO9.out)
            go_wp2_with fail
            first
              | (refine ⟨⟨t + 1, by rw [HQW2.out, HQ.out.2.1, HQ.out.1, Nat.add_assoc], by have := HQ.out; omega, HA10, HO10⟩, ?_⟩; rw [HQW2.out]; simp only [intOf]; have := HQ.out; have := HB.out; have := HIJ.out; omega)
              | (refine ⟨?_, ?_⟩; · (refine ⟨_, _, _, _, _, _, _, _, _, _, _, _, _, _, _, _, _, _, _, _, _, _, _, _, _, _, _, _, _, _, _, _, _, _, _, _, _, _, _, _, _, _, _, _, _, _, _, _, _, _, _, _, _, _, _, _, _, _, _, _, _, _, _, _, _, _, _, _, _, _, _, _, _, _, _, _, _, _, _, _, _, _, _, _, _, _, _, _, _, _, _, _, _, _, _, _, _, _, _, ?_, rfl⟩; exact ⟨t + 1, by rw [HQW2.out, HQ.out.2.1, HQ.out.1, Nat.add_assoc], by have := HQ.out; omega, HA10, HO10⟩); · (show i - (intOf (.int .i64 (wrap64 ((q : Int) + 1)))).toNat < i - (intOf (.int .i64 (q : Int))).toNat; rw [HQW2.out]; simp only [intOf]; have := HQ.out; have := HB.out; have := HIJ.out; omega))
        · have hc2 : ((q : Int) < (i1 : Int)) = False := eq_false (by have := HB.out; omega)
          have hc2n : (q < i1) = False := eq_false (by have := HB.out; omega)
          obtain rfl : t = i - im := by omega
          clear hlt ht hq hi1
          go_wp2
          refine bodyPost_ret (results_none rfl _ _ _) rfl ?_
          exact ⟨rfl, _, by have h := HAJ.out; rw [List.append_assoc P] at h; exact h, HST.out, HOJ.out⟩
end Go.Proofs.YtdmahdgcfaieoaaW.PrintSort

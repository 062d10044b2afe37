/- The stable sort of package slices, further (gensort.py). No condition. -/
import Derived.Test.YtdmahdgcfaieoaaWSort1
namespace Go.Proofs.YtdmahdgcfaieoaaW.PrintSort
open Go Go.RowKit Go.Proofs.YtdmahdgcfaieoaaW.PrintWords Go.Proofs.YtdmahdgcfaieoaaW.PrintLast Go.Proofs.YtdmahdgcfaieoaaW.PrintMore Go.Proofs.YtdmahdgcfaieoaaW.PrintReg Go.Proofs.YtdmahdgcfaieoaaW.PrintTree
set_option linter.unusedVariables false
set_option linter.unusedSimpArgs false
set_option maxHeartbeats 4000000 in
set_option maxRecDepth 100000 in
theorem insort_calls (XX : List Value) (g o n c : Nat) (ad : Addr) (had : ad = ⟨g, o, none⟩) (fc : Nat) (caps : Array Value) (hfc : ∀ args W, (callFunc fc args).run Try.prog W = .ok (.enter fc args) W) (cmpf : Int → Int → Int) (k : Int → Int) (hk : ∀ x y, cmpf x y < 0 ↔ k x < k y) (w0 : World) (HC : ∀ (x y : Int) (W : World), On (· = g) w0 W → Calls Try.prog fc (#[.int .i32 x, .int .i32 y] ++ caps) W fun e w' => e = .returned (.int .i64 (cmpf x y)) ∧ Below W.heap.size W w')
    (ia ib : Nat) (P S Q : List Int) (w : World) (hA : Arr XX w g (P ++ S ++ Q)) (hw0 : On (· = g) w0 w) (hP : P.length = o + ia) (hS : S.length + ia = ib) (hb : ib ≤ n) (hn : o + n ≤ (P ++ S ++ Q).length) (hN : n ≤ 1152921504606846975) :
    Calls Try.prog 39 #[.slice (some ad) n c, .int .i64 (ia : Int), .int .i64 (ib : Int), .func (.func fc) #[] caps] w fun e w' => e = .returned (.tuple #[]) ∧ ∃ S', Arr XX w' g (P ++ S' ++ Q) ∧ St k S S' ∧ On (· = g) w w' := by
  have HA := Aside0.mk hA
  have HB := Aside0.mk (And.intro hP (And.intro hS (And.intro hb (And.intro hn hN))))
  have HAD := Aside0.mk had
  have HCC := Aside0.mk HC
  have HK := Aside0.mk hk
  have HW0 := Aside0.mk hw0
  have hw1 : wrap64 ((ia : Int) + 1) = ((ia + 1 : Nat) : Int) := by rw [← i64_w]; exact w64n _ _ (by omega) (by omega)
  obtain ⟨i1, hi1⟩ : ∃ i1 : Nat, i1 = ia + 1 := ⟨_, rfl⟩
  rw [← hi1] at hw1
  have HI1 := Aside0.mk hi1
  clear hA hP hS hb hn hN had HC hk hw0 hi1
  go_enter Try.func39, Try.ntmps39
  go_wp2_with fail
  try rw [hw1]
  clear hw1
  go_loopw [8] (fun vi wr => ∃ (i : Nat) (M : List Int), vi = .int .i64 (i : Int) ∧ ia + 1 ≤ i ∧ (i ≤ ib ∨ i = ia + 1) ∧ Aside0 (St k (S.take (i - ia)) M) ∧ Aside0 (Arr XX wr g (P ++ M ++ S.drop (i - ia) ++ Q)) ∧ Aside0 (On (· = g) w wr)) (fun vi _ => ib + 1 - (intOf vi).toNat)
  case atStart =>
    refine ⟨i1, S.take 1, rfl, by have := HI1.out; omega, .inr HI1.out, ⟨?_⟩, ⟨?_⟩, ⟨On.refl _ _⟩⟩
    · rw [show i1 - ia = 1 by have := HI1.out; omega]
      refine St.refl ?_
      cases S with
      | nil => exact List.Pairwise.nil
      | cons a S => simp [Srt]
    · rw [show i1 - ia = 1 by have := HI1.out; omega, List.append_assoc P, List.take_append_drop]
      exact HA.out
  case round =>
    obtain ⟨i, M, rfl, hi1, hi2, HSt, HAI, HOI⟩ := hrel
    by_cases hlt : i < ib
    · have hc1 : ((i : Int) < (ib : Int)) = True := eq_true (by omega)
      have hc1n : (i < ib) = True := eq_true hlt
      have HE : Aside0 (i - ia < S.length) := ⟨by have := HB.out; omega⟩
      have HML : Aside0 (M.length = i - ia) := ⟨by rw [HSt.out.len, List.length_take]; have := HE.out; omega⟩
      obtain ⟨x0, hx0⟩ : ∃ x0, x0 = S.getD (i - ia) 0 := ⟨_, rfl⟩
      obtain ⟨T, hT⟩ : ∃ T, T = S.drop (i + 1 - ia) ++ Q := ⟨_, rfl⟩
      have hd : S.drop (i - ia) ++ Q = x0 :: T := by
        rw [drop_cons S (i - ia) HE.out, hT, hx0, show i - ia + 1 = i + 1 - ia by omega]; rfl
      rw [List.append_assoc, hd] at HAI
      have HX0 := Aside0.mk (And.intro hx0 hT)
      have HIL : Aside0 (i < ib ∧ ia + 1 ≤ i) := ⟨hlt, hi1⟩
      have HIW : Aside0 (wrap64 ((i : Int) + 1) = ((i + 1 : Nat) : Int)) := ⟨by rw [← i64_w]; have := HB.out; exact w64n _ _ (by omega) (by omega)⟩
      clear hlt hi1 hi2 hx0 hT hd
      go_wp2_with fail
      go_loopw [9] (fun vj wr => ∃ (j : Nat) (E : List Int), vj = .int .i64 (j : Int) ∧ Aside0 (Ins k P M T x0 (o + j) E) ∧ Aside0 (Arr XX wr g E) ∧ Aside0 (On (· = g) w wr)) (fun vj _ => (intOf vj).toNat)
      case atStart => exact ⟨i, _, rfl, ⟨by have h := Ins.start (k := k) (P := P) (M := M) (T := T) (x := x0); rw [show P.length + M.length = o + i by have := HML.out; have := HB.out; have := HIL.out; omega] at h; exact h⟩, HAI, HOI⟩
      case round =>
        clear HAI HOI
        obtain ⟨j, E, rfl, HIN, HAJ, HOJ⟩ := hrel
        have HIL2 := Aside0.mk HIN.out.len
        have HEL : Aside0 (o + n ≤ E.length) := ⟨by
          have h1 := HIL2.out; have h2 := HB.out.2.2.2.1; have h3 := HB.out
          rw [h1.1, HML.out, HX0.out.2]
          simp only [List.length_append, List.length_drop] at h2 ⊢
          have := HE.out
          omega⟩
        have HJB : Aside0 (ia ≤ j ∧ j ≤ i) := ⟨by have := HIL2.out; have := HB.out; have := HML.out; have := HIL.out; omega⟩
        by_cases hj : ia < j
        · have hj1 : ((ia : Int) < (j : Int)) = True := eq_true (by omega)
          have hj1n : (ia < j) = True := eq_true hj
          obtain ⟨q, hq⟩ : ∃ q : Nat, q = j - 1 := ⟨_, rfl⟩
          have HQW : Aside0 (IntKind.i64.wrap ((j : Int) - 1) = (q : Int)) := ⟨by have := HB.out; have := HJB.out; have := HIL.out; exact w64n _ _ (by omega) (by omega)⟩
          have HQW2 : Aside0 (wrap64 ((j : Int) - 1) = (q : Int)) := ⟨by rw [← i64_w]; exact HQW.out⟩
          have HQJ : Aside0 (q + 1 = j ∧ ia < j ∧ o + q = o + j - 1) := ⟨by omega⟩
          obtain ⟨x, hx⟩ : ∃ x, x = E.getD (o + j) 0 := ⟨_, rfl⟩
          obtain ⟨y, hy⟩ : ∃ y, y = E.getD (o + q) 0 := ⟨_, rfl⟩
          have HXY := Aside0.mk (And.intro hx hy)
          have HXX : Aside0 (x = x0) := ⟨by rw [hx, HIN.out.cur]⟩
          have HBK : Aside0 (o + j < E.length ∧ o + q < E.length) := ⟨by have := HEL.out; have := HB.out; have := HJB.out; have := HIL.out; omega⟩
          have j0 : ((0 : Int) ≤ (j : Int)) = True := eq_true (by omega)
          have j1 : ((j : Int) < (n : Int)) = True := eq_true (by have := HB.out; have := HJB.out; have := HIL.out; omega)
          have j2 : (j < n) = True := eq_true (by have := HB.out; have := HJB.out; have := HIL.out; omega)
          have q0 : ((0 : Int) ≤ (q : Int)) = True := eq_true (by omega)
          have q1 : ((q : Int) < (n : Int)) = True := eq_true (by have := HB.out; have := HJB.out; have := HIL.out; omega)
          have q2 : (q < n) = True := eq_true (by have := HB.out; have := HJB.out; have := HIL.out; omega)
          clear hj hq hx hy
          go_wp2_with fail
          by_cases hc : cmpf x y < 0
          · have HCT : Aside0 ((cmpf x y < 0) = True) := ⟨eq_true hc⟩
            clear hc
            refine wp_region_steps 17 rfl rfl (by kernel_rfl) (fun LL a wx => ∃ z : Nat → Value, Aside0 (a = { tmps := List.toArray (.slice (some ad) n c :: .int .i64 (ia : Int) :: .int .i64 (ib : Int) :: .func (.func fc) #[] caps :: undef :: undef :: undef :: undef :: .int .i64 (i : Int) :: .int .i64 (j : Int) :: .int .i64 (ia : Int) :: .int .i64 (i1 : Int) :: .int .i64 (i : Int) :: .int .i64 (ib : Int) :: .bool true :: u15 :: u16 :: .int .i64 (i : Int) :: z 18 :: z 19 :: z 20 :: z 21 :: z 22 :: z 23 :: z 24 :: z 25 :: z 26 :: z 27 :: z 28 :: z 29 :: z 30 :: z 31 :: z 32 :: z 33 :: z 34 :: u35 :: u36 :: u37 :: u38 :: u39 :: u40 :: u41 :: u42 :: u43 :: u44 :: u45 :: u46 :: u47 :: u48 :: u49 :: u50 :: u51 :: u52 :: []), defers := [] } ∧ Tab LL z [(0, 18, .int .i64 (j : Int)), (1, 19, .int .i64 (ia : Int)), (2, 20, .bool true), (3, 21, .bool true), (4, 22, .func (.func fc) #[] caps), (5, 23, .slice (some ad) n c), (6, 24, .int .i64 (j : Int)), (7, 25, .pointer (some (ad.add j))), (8, 26, .int .i32 x), (9, 27, .slice (some ad) n c), (10, 28, .int .i64 (j : Int)), (11, 29, .int .i64 (q : Int)), (12, 30, .pointer (some (ad.add q))), (13, 31, .int .i32 y), (14, 32, .int .i64 (cmpf x y)), (15, 33, .bool true), (16, 34, .bool true)] ∧ Aside0 (Below wr.heap.size wr wx))) ?_ ?_ ?_
            · exact ⟨(put1 (put1 (put1 (put1 (put1 (put1 (put1 (put1 (put1 (put1 (put1 (put1 (put1 (put1 (put1 (put1 (put1 (fun _ => undef) 18 u18) 19 u19) 20 u20) 21 u21) 22 u22) 23 u23) 24 u24) 25 u25) 26 u26) 27 u27) 28 u28) 29 u29) 30 u30) 31 u31) 32 u32) 33 u33) 34 u34), ⟨rfl, Tab.start 17 rfl rfl, ⟨below_drew (Below.refl _ _)⟩⟩⟩
            · refine Steps.cons ?_ (Steps.cons ?_ (Steps.cons ?_ (Steps.cons ?_ (Steps.cons ?_ (Steps.cons ?_ (Steps.cons ?_ (Steps.cons ?_ (Steps.cons ?_ (Steps.cons ?_ (Steps.cons ?_ (Steps.cons ?_ (Steps.cons ?_ (Steps.cons ?_ (Steps.cons ?_ (Steps.cons ?_ (Steps.cons ?_ (Steps.nil)))))))))))))))))
              · intro LL a wx hI hLk hd K' hK
                obtain ⟨z, hI⟩ := hI
                obtain rfl := hI.out.1
                rw [if_pos (by rfl)]
                go_simp
                exact hK.out _ _ ⟨(put1 z 18 (.int .i64 (j : Int))), ⟨rfl, hI.out.2.1.upd 0 rfl rfl rfl rfl, hI.out.2.2⟩⟩
              · intro LL a wx hI hLk hd K' hK
                obtain ⟨z, hI⟩ := hI
                obtain rfl := hI.out.1
                rw [if_pos (by rfl)]
                go_simp
                exact hK.out _ _ ⟨(put1 z 19 (.int .i64 (ia : Int))), ⟨rfl, hI.out.2.1.upd 1 rfl rfl rfl rfl, hI.out.2.2⟩⟩
              · intro LL a wx hI hLk hd K' hK
                obtain ⟨z, hI⟩ := hI
                obtain rfl := hI.out.1
                have e0 := hI.out.2.1.at 0 rfl (hd 0 rfl)
                have e1 := hI.out.2.1.at 1 rfl (hd 1 rfl)
                rw [if_pos (by rfl)]
                go_simp
                exact hK.out _ _ ⟨(put1 (put1 (put1 z 18 (.int .i64 (j : Int))) 19 (.int .i64 (ia : Int))) 20 (.bool true)), ⟨rfl, ((hI.out.2.1.same (s := 18) (v := .int .i64 (j : Int)) e0).same (s := 19) (v := .int .i64 (ia : Int)) e1).upd 2 rfl rfl rfl rfl, hI.out.2.2⟩⟩
              · intro LL a wx hI hLk hd K' hK
                obtain ⟨z, hI⟩ := hI
                obtain rfl := hI.out.1
                have e2 := hI.out.2.1.at 2 rfl (hd 2 rfl)
                rw [if_pos (by rfl)]
                go_simp
                exact hK.out _ _ ⟨(put1 (put1 z 20 (.bool true)) 21 (.bool true)), ⟨rfl, (hI.out.2.1.same (s := 20) (v := .bool true) e2).upd 3 rfl rfl rfl rfl, hI.out.2.2⟩⟩
              · intro LL a wx hI hLk hd K' hK
                obtain ⟨z, hI⟩ := hI
                obtain rfl := hI.out.1
                have eg := hI.out.2.1.at 3 rfl (hd 3 rfl)
                rw [eg]
                rw [if_pos (by rfl)]
                go_simp
                exact hK.out _ _ ⟨(put1 (put1 z 21 (.bool true)) 22 (.func (.func fc) #[] caps)), ⟨rfl, (hI.out.2.1.same (s := 21) (v := .bool true) eg).upd 4 rfl rfl rfl rfl, hI.out.2.2⟩⟩
              · intro LL a wx hI hLk hd K' hK
                obtain ⟨z, hI⟩ := hI
                obtain rfl := hI.out.1
                have eg := hI.out.2.1.at 3 rfl (hd 3 rfl)
                rw [eg]
                rw [if_pos (by rfl)]
                go_simp
                exact hK.out _ _ ⟨(put1 (put1 z 21 (.bool true)) 23 (.slice (some ad) n c)), ⟨rfl, (hI.out.2.1.same (s := 21) (v := .bool true) eg).upd 5 rfl rfl rfl rfl, hI.out.2.2⟩⟩
              · intro LL a wx hI hLk hd K' hK
                obtain ⟨z, hI⟩ := hI
                obtain rfl := hI.out.1
                have eg := hI.out.2.1.at 3 rfl (hd 3 rfl)
                rw [eg]
                rw [if_pos (by rfl)]
                go_simp
                exact hK.out _ _ ⟨(put1 (put1 z 21 (.bool true)) 24 (.int .i64 (j : Int))), ⟨rfl, (hI.out.2.1.same (s := 21) (v := .bool true) eg).upd 6 rfl rfl rfl rfl, hI.out.2.2⟩⟩
              · intro LL a wx hI hLk hd K' hK
                obtain ⟨z, hI⟩ := hI
                obtain rfl := hI.out.1
                have e5 := hI.out.2.1.at 5 rfl (hd 5 rfl)
                have e6 := hI.out.2.1.at 6 rfl (hd 6 rfl)
                have eg := hI.out.2.1.at 3 rfl (hd 3 rfl)
                rw [eg]
                rw [if_pos (by rfl)]
                go_simp
                exact hK.out _ _ ⟨(put1 (put1 (put1 (put1 z 23 (.slice (some ad) n c)) 24 (.int .i64 (j : Int))) 21 (.bool true)) 25 (.pointer (some (ad.add j)))), ⟨rfl, (((hI.out.2.1.same (s := 23) (v := .slice (some ad) n c) e5).same (s := 24) (v := .int .i64 (j : Int)) e6).same (s := 21) (v := .bool true) eg).upd 7 rfl rfl rfl rfl, hI.out.2.2⟩⟩
              · intro LL a wx hI hLk hd K' hK
                obtain ⟨z, hI⟩ := hI
                obtain rfl := hI.out.1
                have e7 := hI.out.2.1.at 7 rfl (hd 7 rfl)
                have hb := hI.out.2.2
                have hq := HAJ.out.below hb.out
                have ck := hq.cell HAD.out j (by have := HBK.out; omega)
                rw [← HXY.out.1] at ck
                have eg := hI.out.2.1.at 3 rfl (hd 3 rfl)
                rw [eg]
                rw [if_pos (by rfl)]
                go_simp
                exact hK.out _ _ ⟨(put1 (put1 (put1 z 25 (.pointer (some (ad.add j)))) 21 (.bool true)) 26 (.int .i32 x)), ⟨rfl, ((hI.out.2.1.same (s := 25) (v := .pointer (some (ad.add j))) e7).same (s := 21) (v := .bool true) eg).upd 8 rfl rfl rfl rfl, hI.out.2.2⟩⟩
              · intro LL a wx hI hLk hd K' hK
                obtain ⟨z, hI⟩ := hI
                obtain rfl := hI.out.1
                have eg := hI.out.2.1.at 3 rfl (hd 3 rfl)
                rw [eg]
                rw [if_pos (by rfl)]
                go_simp
                exact hK.out _ _ ⟨(put1 (put1 z 21 (.bool true)) 27 (.slice (some ad) n c)), ⟨rfl, (hI.out.2.1.same (s := 21) (v := .bool true) eg).upd 9 rfl rfl rfl rfl, hI.out.2.2⟩⟩
              · intro LL a wx hI hLk hd K' hK
                obtain ⟨z, hI⟩ := hI
                obtain rfl := hI.out.1
                have eg := hI.out.2.1.at 3 rfl (hd 3 rfl)
                rw [eg]
                rw [if_pos (by rfl)]
                go_simp
                exact hK.out _ _ ⟨(put1 (put1 z 21 (.bool true)) 28 (.int .i64 (j : Int))), ⟨rfl, (hI.out.2.1.same (s := 21) (v := .bool true) eg).upd 10 rfl rfl rfl rfl, hI.out.2.2⟩⟩
              · intro LL a wx hI hLk hd K' hK
                obtain ⟨z, hI⟩ := hI
                obtain rfl := hI.out.1
                have e10 := hI.out.2.1.at 10 rfl (hd 10 rfl)
                have hw := HQW.out
                have eg := hI.out.2.1.at 3 rfl (hd 3 rfl)
                rw [eg]
                rw [if_pos (by rfl)]
                go_simp
                exact hK.out _ _ ⟨(put1 (put1 (put1 z 28 (.int .i64 (j : Int))) 21 (.bool true)) 29 (.int .i64 (q : Int))), ⟨rfl, ((hI.out.2.1.same (s := 28) (v := .int .i64 (j : Int)) e10).same (s := 21) (v := .bool true) eg).upd 11 rfl rfl rfl rfl, hI.out.2.2⟩⟩
              · intro LL a wx hI hLk hd K' hK
                obtain ⟨z, hI⟩ := hI
                obtain rfl := hI.out.1
                have e9 := hI.out.2.1.at 9 rfl (hd 9 rfl)
                have e11 := hI.out.2.1.at 11 rfl (hd 11 rfl)
                have eg := hI.out.2.1.at 3 rfl (hd 3 rfl)
                rw [eg]
                rw [if_pos (by rfl)]
                go_simp
                exact hK.out _ _ ⟨(put1 (put1 (put1 (put1 z 27 (.slice (some ad) n c)) 29 (.int .i64 (q : Int))) 21 (.bool true)) 30 (.pointer (some (ad.add q)))), ⟨rfl, (((hI.out.2.1.same (s := 27) (v := .slice (some ad) n c) e9).same (s := 29) (v := .int .i64 (q : Int)) e11).same (s := 21) (v := .bool true) eg).upd 12 rfl rfl rfl rfl, hI.out.2.2⟩⟩
              · intro LL a wx hI hLk hd K' hK
                obtain ⟨z, hI⟩ := hI
                obtain rfl := hI.out.1
                have e12 := hI.out.2.1.at 12 rfl (hd 12 rfl)
                have hb := hI.out.2.2
                have hq := HAJ.out.below hb.out
                have ck := hq.cell HAD.out q (by have := HBK.out; omega)
                rw [← HXY.out.2] at ck
                have eg := hI.out.2.1.at 3 rfl (hd 3 rfl)
                rw [eg]
                rw [if_pos (by rfl)]
                go_simp
                exact hK.out _ _ ⟨(put1 (put1 (put1 z 30 (.pointer (some (ad.add q)))) 21 (.bool true)) 31 (.int .i32 y)), ⟨rfl, ((hI.out.2.1.same (s := 30) (v := .pointer (some (ad.add q))) e12).same (s := 21) (v := .bool true) eg).upd 13 rfl rfl rfl rfl, hI.out.2.2⟩⟩
              · intro LL a wx hI hLk hd K' hK
                obtain ⟨z, hI⟩ := hI
                obtain rfl := hI.out.1
                have e4 := hI.out.2.1.at 4 rfl (hd 4 rfl)
                have e8 := hI.out.2.1.at 8 rfl (hd 8 rfl)
                have e13 := hI.out.2.1.at 13 rfl (hd 13 rfl)
                have hb := hI.out.2.2
                have eg := hI.out.2.1.at 3 rfl (hd 3 rfl)
                rw [eg]
                rw [if_pos (by rfl)]
                go_simp
                refine (HCC.out x y wx ((HW0.out.trans HOJ.out).trans (On.of_below hb.out))).mono ?_
                rintro e w' ⟨rfl, hb1⟩
                exact hK.out _ _ ⟨(put1 (put1 (put1 (put1 (put1 z 22 (.func (.func fc) #[] caps)) 26 (.int .i32 x)) 31 (.int .i32 y)) 21 (.bool true)) 32 (.int .i64 (cmpf x y))), ⟨rfl, ((((hI.out.2.1.same (s := 22) (v := .func (.func fc) #[] caps) e4).same (s := 26) (v := .int .i32 x) e8).same (s := 31) (v := .int .i32 y) e13).same (s := 21) (v := .bool true) eg).upd 14 rfl rfl rfl rfl, ⟨below_step hb.out hb1⟩⟩⟩
              · intro LL a wx hI hLk hd K' hK
                obtain ⟨z, hI⟩ := hI
                obtain rfl := hI.out.1
                have e14 := hI.out.2.1.at 14 rfl (hd 14 rfl)
                have hw := HCT.out
                have eg := hI.out.2.1.at 3 rfl (hd 3 rfl)
                rw [eg]
                rw [if_pos (by rfl)]
                go_simp
                exact hK.out _ _ ⟨(put1 (put1 (put1 z 32 (.int .i64 (cmpf x y))) 21 (.bool true)) 33 (.bool true)), ⟨rfl, ((hI.out.2.1.same (s := 32) (v := .int .i64 (cmpf x y)) e14).same (s := 21) (v := .bool true) eg).upd 15 rfl rfl rfl rfl, hI.out.2.2⟩⟩
              · intro LL a wx hI hLk hd K' hK
                obtain ⟨z, hI⟩ := hI
                obtain rfl := hI.out.1
                have e3 := hI.out.2.1.at 3 rfl (hd 3 rfl)
                have e15 := hI.out.2.1.at 15 rfl (hd 15 rfl)
                rw [if_pos (by rfl)]
                go_simp
                exact hK.out _ _ ⟨(put1 (put1 (put1 z 21 (.bool true)) 33 (.bool true)) 34 (.bool true)), ⟨rfl, ((hI.out.2.1.same (s := 21) (v := .bool true) e3).same (s := 33) (v := .bool true) e15).upd 16 rfl rfl rfl rfl, hI.out.2.2⟩⟩
            · intro LL a wc hall hI
              obtain ⟨z, hI⟩ := hI
              obtain rfl := hI.out.1
              have hb := hI.out.2.2
              have e16 := hI.out.2.1.at 16 rfl (hall 16 (by decide))
              rw [e16]
              have HBC := hb
              clear hI hb e16 hall
              have HAK := Aside0.mk (HAJ.out.below HBC.out)
              have HOK := Aside0.mk (HOJ.out.trans (On.of_below HBC.out))
              clear HAJ HOJ
              have HAJ := HAK
              go_wp2_with fail
              refine wp_region_steps 18 rfl rfl (by kernel_rfl) (fun LL a wx => ∃ z2 : Nat → Value, Aside0 (a = { tmps := List.toArray (.slice (some ad) n c :: .int .i64 (ia : Int) :: .int .i64 (ib : Int) :: .func (.func fc) #[] caps :: undef :: undef :: undef :: undef :: .int .i64 (i : Int) :: .int .i64 (j : Int) :: .int .i64 (ia : Int) :: .int .i64 (i1 : Int) :: .int .i64 (i : Int) :: .int .i64 (ib : Int) :: .bool true :: u15 :: u16 :: .int .i64 (i : Int) :: z 18 :: z 19 :: z 20 :: z 21 :: z 22 :: z 23 :: z 24 :: z 25 :: z 26 :: z 27 :: z 28 :: z 29 :: z 30 :: z 31 :: z 32 :: z 33 :: .bool true :: u35 :: u36 :: z2 37 :: z2 38 :: z2 39 :: z2 40 :: z2 41 :: z2 42 :: z2 43 :: z2 44 :: z2 45 :: z2 46 :: z2 47 :: z2 48 :: z2 49 :: z2 50 :: z2 51 :: z2 52 :: []), defers := [] } ∧ Tab LL z2 [(0, 37, .slice (some ad) n c), (1, 38, .int .i64 (j : Int)), (2, 39, .slice (some ad) n c), (3, 40, .int .i64 (j : Int)), (4, 41, .int .i64 (q : Int)), (5, 42, .slice (some ad) n c), (6, 43, .int .i64 (j : Int)), (7, 44, .int .i64 (q : Int)), (8, 45, .pointer (some (ad.add q))), (9, 46, .int .i32 y), (10, 47, .slice (some ad) n c), (11, 48, .int .i64 (j : Int)), (12, 49, .pointer (some (ad.add j))), (13, 50, .int .i32 x), (14, 51, .pointer (some (ad.add j))), (16, 52, .pointer (some (ad.add q)))] ∧ Aside0 (Arr XX wx g (bif LL 17 then ((E.set (o + j) y).set (o + q) x) else bif LL 15 then (E.set (o + j) y) else E)) ∧ Aside0 (On (· = g) wc wx) ∧ Aside0 ((LL 15 = true → LL 9 = true ∧ LL 13 = true) ∧ (LL 17 = true → LL 15 = true)))) ?_ ?_ ?_
              · exact ⟨(put1 (put1 (put1 (put1 (put1 (put1 (put1 (put1 (put1 (put1 (put1 (put1 (put1 (put1 (put1 (put1 (fun _ => undef) 37 u37) 38 u38) 39 u39) 40 u40) 41 u41) 42 u42) 43 u43) 44 u44) 45 u45) 46 u46) 47 u47) 48 u48) 49 u49) 50 u50) 51 u51) 52 u52), ⟨rfl, Tab.start 18 rfl rfl, ⟨HAJ.out.below (below_drew (Below.refl _ _))⟩, ⟨On.of_below (below_drew (Below.refl _ _))⟩, ⟨⟨fun h => absurd h (by decide), fun h => absurd h (by decide)⟩⟩⟩⟩
              · refine Steps.cons ?_ (Steps.cons ?_ (Steps.cons ?_ (Steps.cons ?_ (Steps.cons ?_ (Steps.cons ?_ (Steps.cons ?_ (Steps.cons ?_ (Steps.cons ?_ (Steps.cons ?_ (Steps.cons ?_ (Steps.cons ?_ (Steps.cons ?_ (Steps.cons ?_ (Steps.cons ?_ (Steps.cons ?_ (Steps.cons ?_ (Steps.cons ?_ (Steps.nil))))))))))))))))))
                · intro LL a wx hI hLk hd K' hK
                  obtain ⟨z2, hI⟩ := hI
                  obtain rfl := hI.out.1
                  rw [if_pos (by rfl)]
                  go_simp
                  exact hK.out _ _ ⟨(put1 z2 37 (.slice (some ad) n c)), ⟨rfl, hI.out.2.1.upd 0 rfl rfl rfl rfl, hI.out.2.2.1, hI.out.2.2.2.1, hI.out.2.2.2.2⟩⟩
                · intro LL a wx hI hLk hd K' hK
                  obtain ⟨z2, hI⟩ := hI
                  obtain rfl := hI.out.1
                  rw [if_pos (by rfl)]
                  go_simp
                  exact hK.out _ _ ⟨(put1 z2 38 (.int .i64 (j : Int))), ⟨rfl, hI.out.2.1.upd 1 rfl rfl rfl rfl, hI.out.2.2.1, hI.out.2.2.2.1, hI.out.2.2.2.2⟩⟩
                · intro LL a wx hI hLk hd K' hK
                  obtain ⟨z2, hI⟩ := hI
                  obtain rfl := hI.out.1
                  rw [if_pos (by rfl)]
                  go_simp
                  exact hK.out _ _ ⟨(put1 z2 39 (.slice (some ad) n c)), ⟨rfl, hI.out.2.1.upd 2 rfl rfl rfl rfl, hI.out.2.2.1, hI.out.2.2.2.1, hI.out.2.2.2.2⟩⟩
                · intro LL a wx hI hLk hd K' hK
                  obtain ⟨z2, hI⟩ := hI
                  obtain rfl := hI.out.1
                  rw [if_pos (by rfl)]
                  go_simp
                  exact hK.out _ _ ⟨(put1 z2 40 (.int .i64 (j : Int))), ⟨rfl, hI.out.2.1.upd 3 rfl rfl rfl rfl, hI.out.2.2.1, hI.out.2.2.2.1, hI.out.2.2.2.2⟩⟩
                · intro LL a wx hI hLk hd K' hK
                  obtain ⟨z2, hI⟩ := hI
                  obtain rfl := hI.out.1
                  have e3 := hI.out.2.1.at 3 rfl (hd 3 rfl)
                  have hw := HQW.out
                  rw [if_pos (by rfl)]
                  go_simp
                  exact hK.out _ _ ⟨(put1 (put1 z2 40 (.int .i64 (j : Int))) 41 (.int .i64 (q : Int))), ⟨rfl, (hI.out.2.1.same (s := 40) (v := .int .i64 (j : Int)) e3).upd 4 rfl rfl rfl rfl, hI.out.2.2.1, hI.out.2.2.2.1, hI.out.2.2.2.2⟩⟩
                · intro LL a wx hI hLk hd K' hK
                  obtain ⟨z2, hI⟩ := hI
                  obtain rfl := hI.out.1
                  rw [if_pos (by rfl)]
                  go_simp
                  exact hK.out _ _ ⟨(put1 z2 42 (.slice (some ad) n c)), ⟨rfl, hI.out.2.1.upd 5 rfl rfl rfl rfl, hI.out.2.2.1, hI.out.2.2.2.1, hI.out.2.2.2.2⟩⟩
                · intro LL a wx hI hLk hd K' hK
                  obtain ⟨z2, hI⟩ := hI
                  obtain rfl := hI.out.1
                  rw [if_pos (by rfl)]
                  go_simp
                  exact hK.out _ _ ⟨(put1 z2 43 (.int .i64 (j : Int))), ⟨rfl, hI.out.2.1.upd 6 rfl rfl rfl rfl, hI.out.2.2.1, hI.out.2.2.2.1, hI.out.2.2.2.2⟩⟩
                · intro LL a wx hI hLk hd K' hK
                  obtain ⟨z2, hI⟩ := hI
                  obtain rfl := hI.out.1
                  have e6 := hI.out.2.1.at 6 rfl (hd 6 rfl)
                  have hw := HQW.out
                  rw [if_pos (by rfl)]
                  go_simp
                  exact hK.out _ _ ⟨(put1 (put1 z2 43 (.int .i64 (j : Int))) 44 (.int .i64 (q : Int))), ⟨rfl, (hI.out.2.1.same (s := 43) (v := .int .i64 (j : Int)) e6).upd 7 rfl rfl rfl rfl, hI.out.2.2.1, hI.out.2.2.2.1, hI.out.2.2.2.2⟩⟩
                · intro LL a wx hI hLk hd K' hK
                  obtain ⟨z2, hI⟩ := hI
                  obtain rfl := hI.out.1
                  have e5 := hI.out.2.1.at 5 rfl (hd 5 rfl)
                  have e7 := hI.out.2.1.at 7 rfl (hd 7 rfl)
                  rw [if_pos (by rfl)]
                  go_simp
                  exact hK.out _ _ ⟨(put1 (put1 (put1 z2 42 (.slice (some ad) n c)) 44 (.int .i64 (q : Int))) 45 (.pointer (some (ad.add q)))), ⟨rfl, ((hI.out.2.1.same (s := 42) (v := .slice (some ad) n c) e5).same (s := 44) (v := .int .i64 (q : Int)) e7).upd 8 rfl rfl rfl rfl, hI.out.2.2.1, hI.out.2.2.2.1, hI.out.2.2.2.2⟩⟩
                · intro LL a wx hI hLk hd K' hK
                  obtain ⟨z2, hI⟩ := hI
                  obtain rfl := hI.out.1
                  have e8 := hI.out.2.1.at 8 rfl (hd 8 rfl)
                  have hA := hI.out.2.2.1
                  have hz := hI.out.2.2.2.2
                  have f15 := flag_off (fun h => (hz.out.1 h).1) hLk
                  have f17 := flag_off (fun h => (hz.out.1 (hz.out.2 h)).1) hLk
                  have hq : Arr XX wx g E := by have h := hA.out; rw [f17, f15] at h; exact h
                  have ck := hq.cell HAD.out q (by have := HBK.out; omega)
                  rw [← HXY.out.2] at ck
                  rw [if_pos (by rfl)]
                  go_simp
                  exact hK.out _ _ ⟨(put1 (put1 z2 45 (.pointer (some (ad.add q)))) 46 (.int .i32 y)), ⟨rfl, (hI.out.2.1.same (s := 45) (v := .pointer (some (ad.add q))) e8).upd 9 rfl rfl rfl rfl, hI.out.2.2.1, hI.out.2.2.2.1, ⟨⟨fun h => ⟨rfl, (hz.out.1 h).2⟩, hz.out.2⟩⟩⟩⟩
                · intro LL a wx hI hLk hd K' hK
                  obtain ⟨z2, hI⟩ := hI
                  obtain rfl := hI.out.1
                  rw [if_pos (by rfl)]
                  go_simp
                  exact hK.out _ _ ⟨(put1 z2 47 (.slice (some ad) n c)), ⟨rfl, hI.out.2.1.upd 10 rfl rfl rfl rfl, hI.out.2.2.1, hI.out.2.2.2.1, hI.out.2.2.2.2⟩⟩
                · intro LL a wx hI hLk hd K' hK
                  obtain ⟨z2, hI⟩ := hI
                  obtain rfl := hI.out.1
                  rw [if_pos (by rfl)]
                  go_simp
                  exact hK.out _ _ ⟨(put1 z2 48 (.int .i64 (j : Int))), ⟨rfl, hI.out.2.1.upd 11 rfl rfl rfl rfl, hI.out.2.2.1, hI.out.2.2.2.1, hI.out.2.2.2.2⟩⟩
                · intro LL a wx hI hLk hd K' hK
                  obtain ⟨z2, hI⟩ := hI
                  obtain rfl := hI.out.1
                  have e10 := hI.out.2.1.at 10 rfl (hd 10 rfl)
                  have e11 := hI.out.2.1.at 11 rfl (hd 11 rfl)
                  rw [if_pos (by rfl)]
                  go_simp
                  exact hK.out _ _ ⟨(put1 (put1 (put1 z2 47 (.slice (some ad) n c)) 48 (.int .i64 (j : Int))) 49 (.pointer (some (ad.add j)))), ⟨rfl, ((hI.out.2.1.same (s := 47) (v := .slice (some ad) n c) e10).same (s := 48) (v := .int .i64 (j : Int)) e11).upd 12 rfl rfl rfl rfl, hI.out.2.2.1, hI.out.2.2.2.1, hI.out.2.2.2.2⟩⟩
                · intro LL a wx hI hLk hd K' hK
                  obtain ⟨z2, hI⟩ := hI
                  obtain rfl := hI.out.1
                  have e12 := hI.out.2.1.at 12 rfl (hd 12 rfl)
                  have hA := hI.out.2.2.1
                  have hz := hI.out.2.2.2.2
                  have f15 := flag_off (fun h => (hz.out.1 h).2) hLk
                  have f17 := flag_off (fun h => (hz.out.1 (hz.out.2 h)).2) hLk
                  have hq : Arr XX wx g E := by have h := hA.out; rw [f17, f15] at h; exact h
                  have ck := hq.cell HAD.out j (by have := HBK.out; omega)
                  rw [← HXY.out.1] at ck
                  rw [if_pos (by rfl)]
                  go_simp
                  exact hK.out _ _ ⟨(put1 (put1 z2 49 (.pointer (some (ad.add j)))) 50 (.int .i32 x)), ⟨rfl, (hI.out.2.1.same (s := 49) (v := .pointer (some (ad.add j))) e12).upd 13 rfl rfl rfl rfl, hI.out.2.2.1, hI.out.2.2.2.1, ⟨⟨fun h => ⟨(hz.out.1 h).1, rfl⟩, hz.out.2⟩⟩⟩⟩
                · intro LL a wx hI hLk hd K' hK
                  obtain ⟨z2, hI⟩ := hI
                  obtain rfl := hI.out.1
                  have e0 := hI.out.2.1.at 0 rfl (hd 0 rfl)
                  have e1 := hI.out.2.1.at 1 rfl (hd 1 rfl)
                  rw [if_pos (by rfl)]
                  go_simp
                  exact hK.out _ _ ⟨(put1 (put1 (put1 z2 37 (.slice (some ad) n c)) 38 (.int .i64 (j : Int))) 51 (.pointer (some (ad.add j)))), ⟨rfl, ((hI.out.2.1.same (s := 37) (v := .slice (some ad) n c) e0).same (s := 38) (v := .int .i64 (j : Int)) e1).upd 14 rfl rfl rfl rfl, hI.out.2.2.1, hI.out.2.2.2.1, hI.out.2.2.2.2⟩⟩
                · intro LL a wx hI hLk hd K' hK
                  obtain ⟨z2, hI⟩ := hI
                  obtain rfl := hI.out.1
                  have e14 := hI.out.2.1.at 14 rfl (hd 14 rfl)
                  have e9 := hI.out.2.1.at 9 rfl (hd 9 rfl)
                  have hA := hI.out.2.2.1
                  have ho := hI.out.2.2.2.1
                  have hz := hI.out.2.2.2.2
                  have f17 := flag_off (fun h => hz.out.2 h) hLk
                  have hq : Arr XX wx g E := by have h := hA.out; rw [f17, hLk] at h; exact h
                  have ck := hq.cell HAD.out j (by have := HBK.out; omega)
                  have fz := hq.frozen HAD.out j
                  rw [if_pos (by rfl)]
                  go_simp
                  exact hK.out _ _ ⟨(put1 (put1 z2 51 (.pointer (some (ad.add j)))) 46 (.int .i32 y)), ⟨rfl, ((hI.out.2.1.same (s := 51) (v := .pointer (some (ad.add j))) e14).same (s := 46) (v := .int .i32 y) e9).none 15 rfl, ⟨(show Arr XX _ g (bif LL 17 then _ else (E.set (o + j) y)) by rw [f17]; exact (hq.set HAD.out j y (by have := HBK.out; omega)).1)⟩, ⟨ho.out.trans (hq.set HAD.out j y (by have := HBK.out; omega)).2⟩, ⟨⟨fun _ => ⟨hd 9 rfl, hd 13 rfl⟩, fun _ => rfl⟩⟩⟩⟩
                · intro LL a wx hI hLk hd K' hK
                  obtain ⟨z2, hI⟩ := hI
                  obtain rfl := hI.out.1
                  have e2 := hI.out.2.1.at 2 rfl (hd 2 rfl)
                  have e4 := hI.out.2.1.at 4 rfl (hd 4 rfl)
                  rw [if_pos (by rfl)]
                  go_simp
                  exact hK.out _ _ ⟨(put1 (put1 (put1 z2 39 (.slice (some ad) n c)) 41 (.int .i64 (q : Int))) 52 (.pointer (some (ad.add q)))), ⟨rfl, ((hI.out.2.1.same (s := 39) (v := .slice (some ad) n c) e2).same (s := 41) (v := .int .i64 (q : Int)) e4).upd 15 rfl rfl rfl rfl, hI.out.2.2.1, hI.out.2.2.2.1, hI.out.2.2.2.2⟩⟩
                · intro LL a wx hI hLk hd K' hK
                  obtain ⟨z2, hI⟩ := hI
                  obtain rfl := hI.out.1
                  have e16 := hI.out.2.1.at 15 rfl (hd 16 rfl)
                  have e13 := hI.out.2.1.at 13 rfl (hd 13 rfl)
                  have hA := hI.out.2.2.1
                  have ho := hI.out.2.2.2.1
                  have hz := hI.out.2.2.2.2
                  have hq : Arr XX wx g (E.set (o + j) y) := by have h := hA.out; rw [hLk, hd 15 rfl] at h; exact h
                  have ck := hq.cell HAD.out q (by rw [List.length_set]; have := HBK.out; omega)
                  have fz := hq.frozen HAD.out q
                  rw [if_pos (by rfl)]
                  go_simp
                  exact hK.out _ _ ⟨(put1 (put1 z2 52 (.pointer (some (ad.add q)))) 50 (.int .i32 x)), ⟨rfl, ((hI.out.2.1.same (s := 52) (v := .pointer (some (ad.add q))) e16).same (s := 50) (v := .int .i32 x) e13).none 17 rfl, ⟨(hq.set HAD.out q x (by rw [List.length_set]; have := HBK.out; omega)).1⟩, ⟨ho.out.trans (hq.set HAD.out q x (by rw [List.length_set]; have := HBK.out; omega)).2⟩, ⟨⟨hz.out.1, fun _ => hd 15 rfl⟩⟩⟩⟩
              · intro LL a wd hall hI
                obtain ⟨z2, hI⟩ := hI
                obtain rfl := hI.out.1
                have hA := hI.out.2.2.1
                have ho := hI.out.2.2.2.1
                have hz := hI.out.2.2.2.2
                have HA9 : Aside0 (Arr XX wd g (swap E (o + j) (o + q))) := ⟨by rw [swap, ← HXY.out.1, ← HXY.out.2]; have h := hA.out; rw [hall 17 (by decide)] at h; exact h⟩
                have HO9 := ho
                clear hI hA ho hz hall
                have HIN9 : Aside0 (Ins k P M T x0 (o + q) (swap E (o + j) (o + q))) := ⟨by rw [HQJ.out.2.2]; refine HIN.out.step (by have := HB.out; have := HQJ.out; omega) ?_; rw [← HQJ.out.2.2, ← HXY.out.2, ← HXX.out]; exact (HK.out x y).1 (of_eq_true HCT.out)⟩
                have HO10 := Aside0.mk (HOK.out.trans HO9.out)
                go_wp2_with fail
                first
                  | (refine ⟨⟨q, _, by rw [HQW2.out], HIN9, HA9, HO10⟩, ?_⟩; rw [HQW2.out]; simp only [intOf]; have := HQJ.out; omega)
                  | (refine ⟨?_, ?_⟩; · (refine ⟨_, _, _, _, _, _, _, _, _, _, _, _, _, _, _, _, _, _, _, _, _, _, _, _, _, _, _, _, _, _, _, _, _, _, _, _, ?_, rfl⟩; exact ⟨q, _, by rw [HQW2.out], HIN9, HA9, HO10⟩); · (show (intOf (.int .i64 (wrap64 ((j : Int) - 1)))).toNat < (intOf (.int .i64 (j : Int))).toNat; rw [HQW2.out]; simp only [intOf]; have := HQJ.out; omega))
          · have HCF : Aside0 ((cmpf x y < 0) = False) := ⟨eq_false hc⟩
            clear hc
            refine wp_region_steps 17 rfl rfl (by kernel_rfl) (fun LL a wx => ∃ z : Nat → Value, Aside0 (a = { tmps := List.toArray (.slice (some ad) n c :: .int .i64 (ia : Int) :: .int .i64 (ib : Int) :: .func (.func fc) #[] caps :: undef :: undef :: undef :: undef :: .int .i64 (i : Int) :: .int .i64 (j : Int) :: .int .i64 (ia : Int) :: .int .i64 (i1 : Int) :: .int .i64 (i : Int) :: .int .i64 (ib : Int) :: .bool true :: u15 :: u16 :: .int .i64 (i : Int) :: z 18 :: z 19 :: z 20 :: z 21 :: z 22 :: z 23 :: z 24 :: z 25 :: z 26 :: z 27 :: z 28 :: z 29 :: z 30 :: z 31 :: z 32 :: z 33 :: z 34 :: u35 :: u36 :: u37 :: u38 :: u39 :: u40 :: u41 :: u42 :: u43 :: u44 :: u45 :: u46 :: u47 :: u48 :: u49 :: u50 :: u51 :: u52 :: []), defers := [] } ∧ Tab LL z [(0, 18, .int .i64 (j : Int)), (1, 19, .int .i64 (ia : Int)), (2, 20, .bool true), (3, 21, .bool true), (4, 22, .func (.func fc) #[] caps), (5, 23, .slice (some ad) n c), (6, 24, .int .i64 (j : Int)), (7, 25, .pointer (some (ad.add j))), (8, 26, .int .i32 x), (9, 27, .slice (some ad) n c), (10, 28, .int .i64 (j : Int)), (11, 29, .int .i64 (q : Int)), (12, 30, .pointer (some (ad.add q))), (13, 31, .int .i32 y), (14, 32, .int .i64 (cmpf x y)), (15, 33, .bool false), (16, 34, .bool false)] ∧ Aside0 (Below wr.heap.size wr wx))) ?_ ?_ ?_
            · exact ⟨(put1 (put1 (put1 (put1 (put1 (put1 (put1 (put1 (put1 (put1 (put1 (put1 (put1 (put1 (put1 (put1 (put1 (fun _ => undef) 18 u18) 19 u19) 20 u20) 21 u21) 22 u22) 23 u23) 24 u24) 25 u25) 26 u26) 27 u27) 28 u28) 29 u29) 30 u30) 31 u31) 32 u32) 33 u33) 34 u34), ⟨rfl, Tab.start 17 rfl rfl, ⟨below_drew (Below.refl _ _)⟩⟩⟩
            · refine Steps.cons ?_ (Steps.cons ?_ (Steps.cons ?_ (Steps.cons ?_ (Steps.cons ?_ (Steps.cons ?_ (Steps.cons ?_ (Steps.cons ?_ (Steps.cons ?_ (Steps.cons ?_ (Steps.cons ?_ (Steps.cons ?_ (Steps.cons ?_ (Steps.cons ?_ (Steps.cons ?_ (Steps.cons ?_ (Steps.cons ?_ (Steps.nil)))))))))))))))))
              · intro LL a wx hI hLk hd K' hK
                obtain ⟨z, hI⟩ := hI
                obtain rfl := hI.out.1
                rw [if_pos (by rfl)]
                go_simp
                exact hK.out _ _ ⟨(put1 z 18 (.int .i64 (j : Int))), ⟨rfl, hI.out.2.1.upd 0 rfl rfl rfl rfl, hI.out.2.2⟩⟩
              · intro LL a wx hI hLk hd K' hK
                obtain ⟨z, hI⟩ := hI
                obtain rfl := hI.out.1
                rw [if_pos (by rfl)]
                go_simp
                exact hK.out _ _ ⟨(put1 z 19 (.int .i64 (ia : Int))), ⟨rfl, hI.out.2.1.upd 1 rfl rfl rfl rfl, hI.out.2.2⟩⟩
              · intro LL a wx hI hLk hd K' hK
                obtain ⟨z, hI⟩ := hI
                obtain rfl := hI.out.1
                have e0 := hI.out.2.1.at 0 rfl (hd 0 rfl)
                have e1 := hI.out.2.1.at 1 rfl (hd 1 rfl)
                rw [if_pos (by rfl)]
                go_simp
                exact hK.out _ _ ⟨(put1 (put1 (put1 z 18 (.int .i64 (j : Int))) 19 (.int .i64 (ia : Int))) 20 (.bool true)), ⟨rfl, ((hI.out.2.1.same (s := 18) (v := .int .i64 (j : Int)) e0).same (s := 19) (v := .int .i64 (ia : Int)) e1).upd 2 rfl rfl rfl rfl, hI.out.2.2⟩⟩
              · intro LL a wx hI hLk hd K' hK
                obtain ⟨z, hI⟩ := hI
                obtain rfl := hI.out.1
                have e2 := hI.out.2.1.at 2 rfl (hd 2 rfl)
                rw [if_pos (by rfl)]
                go_simp
                exact hK.out _ _ ⟨(put1 (put1 z 20 (.bool true)) 21 (.bool true)), ⟨rfl, (hI.out.2.1.same (s := 20) (v := .bool true) e2).upd 3 rfl rfl rfl rfl, hI.out.2.2⟩⟩
              · intro LL a wx hI hLk hd K' hK
                obtain ⟨z, hI⟩ := hI
                obtain rfl := hI.out.1
                have eg := hI.out.2.1.at 3 rfl (hd 3 rfl)
                rw [eg]
                rw [if_pos (by rfl)]
                go_simp
                exact hK.out _ _ ⟨(put1 (put1 z 21 (.bool true)) 22 (.func (.func fc) #[] caps)), ⟨rfl, (hI.out.2.1.same (s := 21) (v := .bool true) eg).upd 4 rfl rfl rfl rfl, hI.out.2.2⟩⟩
              · intro LL a wx hI hLk hd K' hK
                obtain ⟨z, hI⟩ := hI
                obtain rfl := hI.out.1
                have eg := hI.out.2.1.at 3 rfl (hd 3 rfl)
                rw [eg]
                rw [if_pos (by rfl)]
                go_simp
                exact hK.out _ _ ⟨(put1 (put1 z 21 (.bool true)) 23 (.slice (some ad) n c)), ⟨rfl, (hI.out.2.1.same (s := 21) (v := .bool true) eg).upd 5 rfl rfl rfl rfl, hI.out.2.2⟩⟩
              · intro LL a wx hI hLk hd K' hK
                obtain ⟨z, hI⟩ := hI
                obtain rfl := hI.out.1
                have eg := hI.out.2.1.at 3 rfl (hd 3 rfl)
                rw [eg]
                rw [if_pos (by rfl)]
                go_simp
                exact hK.out _ _ ⟨(put1 (put1 z 21 (.bool true)) 24 (.int .i64 (j : Int))), ⟨rfl, (hI.out.2.1.same (s := 21) (v := .bool true) eg).upd 6 rfl rfl rfl rfl, hI.out.2.2⟩⟩
              · intro LL a wx hI hLk hd K' hK
                obtain ⟨z, hI⟩ := hI
                obtain rfl := hI.out.1
                have e5 := hI.out.2.1.at 5 rfl (hd 5 rfl)
                have e6 := hI.out.2.1.at 6 rfl (hd 6 rfl)
                have eg := hI.out.2.1.at 3 rfl (hd 3 rfl)
                rw [eg]
                rw [if_pos (by rfl)]
                go_simp
                exact hK.out _ _ ⟨(put1 (put1 (put1 (put1 z 23 (.slice (some ad) n c)) 24 (.int .i64 (j : Int))) 21 (.bool true)) 25 (.pointer (some (ad.add j)))), ⟨rfl, (((hI.out.2.1.same (s := 23) (v := .slice (some ad) n c) e5).same (s := 24) (v := .int .i64 (j : Int)) e6).same (s := 21) (v := .bool true) eg).upd 7 rfl rfl rfl rfl, hI.out.2.2⟩⟩
              · intro LL a wx hI hLk hd K' hK
                obtain ⟨z, hI⟩ := hI
                obtain rfl := hI.out.1
                have e7 := hI.out.2.1.at 7 rfl (hd 7 rfl)
                have hb := hI.out.2.2
                have hq := HAJ.out.below hb.out
                have ck := hq.cell HAD.out j (by have := HBK.out; omega)
                rw [← HXY.out.1] at ck
                have eg := hI.out.2.1.at 3 rfl (hd 3 rfl)
                rw [eg]
                rw [if_pos (by rfl)]
                go_simp
                exact hK.out _ _ ⟨(put1 (put1 (put1 z 25 (.pointer (some (ad.add j)))) 21 (.bool true)) 26 (.int .i32 x)), ⟨rfl, ((hI.out.2.1.same (s := 25) (v := .pointer (some (ad.add j))) e7).same (s := 21) (v := .bool true) eg).upd 8 rfl rfl rfl rfl, hI.out.2.2⟩⟩
              · intro LL a wx hI hLk hd K' hK
                obtain ⟨z, hI⟩ := hI
                obtain rfl := hI.out.1
                have eg := hI.out.2.1.at 3 rfl (hd 3 rfl)
                rw [eg]
                rw [if_pos (by rfl)]
                go_simp
                exact hK.out _ _ ⟨(put1 (put1 z 21 (.bool true)) 27 (.slice (some ad) n c)), ⟨rfl, (hI.out.2.1.same (s := 21) (v := .bool true) eg).upd 9 rfl rfl rfl rfl, hI.out.2.2⟩⟩
              · intro LL a wx hI hLk hd K' hK
                obtain ⟨z, hI⟩ := hI
                obtain rfl := hI.out.1
                have eg := hI.out.2.1.at 3 rfl (hd 3 rfl)
                rw [eg]
                rw [if_pos (by rfl)]
                go_simp
                exact hK.out _ _ ⟨(put1 (put1 z 21 (.bool true)) 28 (.int .i64 (j : Int))), ⟨rfl, (hI.out.2.1.same (s := 21) (v := .bool true) eg).upd 10 rfl rfl rfl rfl, hI.out.2.2⟩⟩
              · intro LL a wx hI hLk hd K' hK
                obtain ⟨z, hI⟩ := hI
                obtain rfl := hI.out.1
                have e10 := hI.out.2.1.at 10 rfl (hd 10 rfl)
                have hw := HQW.out
                have eg := hI.out.2.1.at 3 rfl (hd 3 rfl)
                rw [eg]
                rw [if_pos (by rfl)]
                go_simp
                exact hK.out _ _ ⟨(put1 (put1 (put1 z 28 (.int .i64 (j : Int))) 21 (.bool true)) 29 (.int .i64 (q : Int))), ⟨rfl, ((hI.out.2.1.same (s := 28) (v := .int .i64 (j : Int)) e10).same (s := 21) (v := .bool true) eg).upd 11 rfl rfl rfl rfl, hI.out.2.2⟩⟩
              · intro LL a wx hI hLk hd K' hK
                obtain ⟨z, hI⟩ := hI
                obtain rfl := hI.out.1
                have e9 := hI.out.2.1.at 9 rfl (hd 9 rfl)
                have e11 := hI.out.2.1.at 11 rfl (hd 11 rfl)
                have eg := hI.out.2.1.at 3 rfl (hd 3 rfl)
                rw [eg]
                rw [if_pos (by rfl)]
                go_simp
                exact hK.out _ _ ⟨(put1 (put1 (put1 (put1 z 27 (.slice (some ad) n c)) 29 (.int .i64 (q : Int))) 21 (.bool true)) 30 (.pointer (some (ad.add q)))), ⟨rfl, (((hI.out.2.1.same (s := 27) (v := .slice (some ad) n c) e9).same (s := 29) (v := .int .i64 (q : Int)) e11).same (s := 21) (v := .bool true) eg).upd 12 rfl rfl rfl rfl, hI.out.2.2⟩⟩
              · intro LL a wx hI hLk hd K' hK
                obtain ⟨z, hI⟩ := hI
                obtain rfl := hI.out.1
                have e12 := hI.out.2.1.at 12 rfl (hd 12 rfl)
                have hb := hI.out.2.2
                have hq := HAJ.out.below hb.out
                have ck := hq.cell HAD.out q (by have := HBK.out; omega)
                rw [← HXY.out.2] at ck
                have eg := hI.out.2.1.at 3 rfl (hd 3 rfl)
                rw [eg]
                rw [if_pos (by rfl)]
                go_simp
                exact hK.out _ _ ⟨(put1 (put1 (put1 z 30 (.pointer (some (ad.add q)))) 21 (.bool true)) 31 (.int .i32 y)), ⟨rfl, ((hI.out.2.1.same (s := 30) (v := .pointer (some (ad.add q))) e12).same (s := 21) (v := .bool true) eg).upd 13 rfl rfl rfl rfl, hI.out.2.2⟩⟩
              · intro LL a wx hI hLk hd K' hK
                obtain ⟨z, hI⟩ := hI
                obtain rfl := hI.out.1
                have e4 := hI.out.2.1.at 4 rfl (hd 4 rfl)
                have e8 := hI.out.2.1.at 8 rfl (hd 8 rfl)
                have e13 := hI.out.2.1.at 13 rfl (hd 13 rfl)
                have hb := hI.out.2.2
                have eg := hI.out.2.1.at 3 rfl (hd 3 rfl)
                rw [eg]
                rw [if_pos (by rfl)]
                go_simp
                refine (HCC.out x y wx ((HW0.out.trans HOJ.out).trans (On.of_below hb.out))).mono ?_
                rintro e w' ⟨rfl, hb1⟩
                exact hK.out _ _ ⟨(put1 (put1 (put1 (put1 (put1 z 22 (.func (.func fc) #[] caps)) 26 (.int .i32 x)) 31 (.int .i32 y)) 21 (.bool true)) 32 (.int .i64 (cmpf x y))), ⟨rfl, ((((hI.out.2.1.same (s := 22) (v := .func (.func fc) #[] caps) e4).same (s := 26) (v := .int .i32 x) e8).same (s := 31) (v := .int .i32 y) e13).same (s := 21) (v := .bool true) eg).upd 14 rfl rfl rfl rfl, ⟨below_step hb.out hb1⟩⟩⟩
              · intro LL a wx hI hLk hd K' hK
                obtain ⟨z, hI⟩ := hI
                obtain rfl := hI.out.1
                have e14 := hI.out.2.1.at 14 rfl (hd 14 rfl)
                have hw := HCF.out
                have eg := hI.out.2.1.at 3 rfl (hd 3 rfl)
                rw [eg]
                rw [if_pos (by rfl)]
                go_simp
                exact hK.out _ _ ⟨(put1 (put1 (put1 z 32 (.int .i64 (cmpf x y))) 21 (.bool true)) 33 (.bool false)), ⟨rfl, ((hI.out.2.1.same (s := 32) (v := .int .i64 (cmpf x y)) e14).same (s := 21) (v := .bool true) eg).upd 15 rfl rfl rfl rfl, hI.out.2.2⟩⟩
              · intro LL a wx hI hLk hd K' hK
                obtain ⟨z, hI⟩ := hI
                obtain rfl := hI.out.1
                have e3 := hI.out.2.1.at 3 rfl (hd 3 rfl)
                have e15 := hI.out.2.1.at 15 rfl (hd 15 rfl)
                rw [if_pos (by rfl)]
                go_simp
                exact hK.out _ _ ⟨(put1 (put1 (put1 z 21 (.bool true)) 33 (.bool false)) 34 (.bool false)), ⟨rfl, ((hI.out.2.1.same (s := 21) (v := .bool true) e3).same (s := 33) (v := .bool false) e15).upd 16 rfl rfl rfl rfl, hI.out.2.2⟩⟩
            · intro LL a wc hall hI
              obtain ⟨z, hI⟩ := hI
              obtain rfl := hI.out.1
              have hb := hI.out.2.2
              have e16 := hI.out.2.1.at 16 rfl (hall 16 (by decide))
              rw [e16]
              have HBC := hb
              clear hI hb e16 hall
              have HAK := Aside0.mk (HAJ.out.below HBC.out)
              have HOK := Aside0.mk (HOJ.out.trans (On.of_below HBC.out))
              obtain ⟨M', hE', hSt'⟩ := HIN.out.done HSt.out.1 (.inr (by rw [← HQJ.out.2.2, ← HXY.out.2, ← HXX.out]; exact fun h => (of_eq_false HCF.out) ((HK.out x y).2 h)))
              have HSN : Aside0 (St k (S.take (i + 1 - ia)) M') := ⟨by rw [show i + 1 - ia = i - ia + 1 by have := HIL.out; omega, take_snoc S (i - ia) HE.out, ← HX0.out.1]; exact St.trans (fun c => by simp only [List.filter_append, HSt.out.2]) hSt'⟩
              have HAN : Aside0 (Arr XX wc g (P ++ M' ++ S.drop (i + 1 - ia) ++ Q)) := ⟨by have h := HAK.out; rw [hE', HX0.out.2] at h; simpa [List.append_assoc] using h⟩
              clear hE' hSt'
              go_wp2_with fail
              first
                | (refine ⟨⟨i + 1, M', by rw [HIW.out], by have := HIL.out; omega, .inl (by have := HIL.out; omega), HSN, HAN, HOK⟩, ?_⟩; rw [HIW.out]; simp only [intOf]; have := HIL.out; omega)
                | (refine ⟨?_, ?_⟩; · (refine ⟨_, _, _, _, _, _, _, _, _, _, _, _, _, _, _, _, _, _, _, _, _, _, _, _, _, _, _, _, _, _, _, _, _, _, _, _, _, _, _, _, _, _, _, _, _, _, _, _, _, _, _, _, _, _, _, _, _, _, _, _, _, _, _, _, _, _, _, _, _, _, _, _, _, _, _, _, _, _, _, _, _, _, _, _, _, _, _, _, _, _, _, _, _, _, _, _, _, _, _, ?_, rfl⟩; exact ⟨i + 1, M', by rw [HIW.out], by have := HIL.out; omega, .inl (by have := HIL.out; omega), HSN, HAN, HOK⟩); · (rw [HIW.out]; simp only [intOf]; have := HIL.out; omega))
        · have hj1 : ((ia : Int) < (j : Int)) = False := eq_false (by omega)
          have hj1n : (ia < j) = False := eq_false hj
          have HJE : Aside0 (j = ia) := ⟨by have := HJB.out; omega⟩
          clear hj
          go_wp2_with fail
          refine wp_region_steps 17 rfl rfl (by kernel_rfl) (fun LL a wx => ∃ z : Nat → Value, Aside0 (a = { tmps := List.toArray (.slice (some ad) n c :: .int .i64 (ia : Int) :: .int .i64 (ib : Int) :: .func (.func fc) #[] caps :: undef :: undef :: undef :: undef :: .int .i64 (i : Int) :: .int .i64 (j : Int) :: .int .i64 (ia : Int) :: .int .i64 (i1 : Int) :: .int .i64 (i : Int) :: .int .i64 (ib : Int) :: .bool true :: u15 :: u16 :: .int .i64 (i : Int) :: z 18 :: z 19 :: z 20 :: z 21 :: z 22 :: z 23 :: z 24 :: z 25 :: z 26 :: z 27 :: z 28 :: z 29 :: z 30 :: z 31 :: z 32 :: z 33 :: z 34 :: u35 :: u36 :: u37 :: u38 :: u39 :: u40 :: u41 :: u42 :: u43 :: u44 :: u45 :: u46 :: u47 :: u48 :: u49 :: u50 :: u51 :: u52 :: []), defers := [] } ∧ Tab LL z [(0, 18, .int .i64 (j : Int)), (1, 19, .int .i64 (ia : Int)), (2, 20, .bool false), (3, 21, .bool false), (4, 22, undef), (5, 23, undef), (6, 24, undef), (7, 25, undef), (8, 26, undef), (9, 27, undef), (10, 28, undef), (11, 29, undef), (12, 30, undef), (13, 31, undef), (14, 32, undef), (15, 33, undef), (16, 34, .bool false)] ∧ Aside0 (Below wr.heap.size wr wx))) ?_ ?_ ?_
          · exact ⟨(put1 (put1 (put1 (put1 (put1 (put1 (put1 (put1 (put1 (put1 (put1 (put1 (put1 (put1 (put1 (put1 (put1 (fun _ => undef) 18 u18) 19 u19) 20 u20) 21 u21) 22 u22) 23 u23) 24 u24) 25 u25) 26 u26) 27 u27) 28 u28) 29 u29) 30 u30) 31 u31) 32 u32) 33 u33) 34 u34), ⟨rfl, Tab.start 17 rfl rfl, ⟨below_drew (Below.refl _ _)⟩⟩⟩
          · refine Steps.cons ?_ (Steps.cons ?_ (Steps.cons ?_ (Steps.cons ?_ (Steps.cons ?_ (Steps.cons ?_ (Steps.cons ?_ (Steps.cons ?_ (Steps.cons ?_ (Steps.cons ?_ (Steps.cons ?_ (Steps.cons ?_ (Steps.cons ?_ (Steps.cons ?_ (Steps.cons ?_ (Steps.cons ?_ (Steps.cons ?_ (Steps.nil)))))))))))))))))
            · intro LL a wx hI hLk hd K' hK
              obtain ⟨z, hI⟩ := hI
              obtain rfl := hI.out.1
              rw [if_pos (by rfl)]
              go_simp
              exact hK.out _ _ ⟨(put1 z 18 (.int .i64 (j : Int))), ⟨rfl, hI.out.2.1.upd 0 rfl rfl rfl rfl, hI.out.2.2⟩⟩
            · intro LL a wx hI hLk hd K' hK
              obtain ⟨z, hI⟩ := hI
              obtain rfl := hI.out.1
              rw [if_pos (by rfl)]
              go_simp
              exact hK.out _ _ ⟨(put1 z 19 (.int .i64 (ia : Int))), ⟨rfl, hI.out.2.1.upd 1 rfl rfl rfl rfl, hI.out.2.2⟩⟩
            · intro LL a wx hI hLk hd K' hK
              obtain ⟨z, hI⟩ := hI
              obtain rfl := hI.out.1
              have e0 := hI.out.2.1.at 0 rfl (hd 0 rfl)
              have e1 := hI.out.2.1.at 1 rfl (hd 1 rfl)
              rw [if_pos (by rfl)]
              go_simp
              exact hK.out _ _ ⟨(put1 (put1 (put1 z 18 (.int .i64 (j : Int))) 19 (.int .i64 (ia : Int))) 20 (.bool false)), ⟨rfl, ((hI.out.2.1.same (s := 18) (v := .int .i64 (j : Int)) e0).same (s := 19) (v := .int .i64 (ia : Int)) e1).upd 2 rfl rfl rfl rfl, hI.out.2.2⟩⟩
            · intro LL a wx hI hLk hd K' hK
              obtain ⟨z, hI⟩ := hI
              obtain rfl := hI.out.1
              have e2 := hI.out.2.1.at 2 rfl (hd 2 rfl)
              rw [if_pos (by rfl)]
              go_simp
              exact hK.out _ _ ⟨(put1 (put1 z 20 (.bool false)) 21 (.bool false)), ⟨rfl, (hI.out.2.1.same (s := 20) (v := .bool false) e2).upd 3 rfl rfl rfl rfl, hI.out.2.2⟩⟩
            · intro LL a wx hI hLk hd K' hK
              obtain ⟨z, hI⟩ := hI
              obtain rfl := hI.out.1
              have eg := hI.out.2.1.at 3 rfl (hd 3 rfl)
              rw [eg]
              refine unwanted (by rfl) ?_
              exact hK.out _ _ ⟨(put1 (put1 z 21 (.bool false)) 22 (undef)), ⟨rfl, (hI.out.2.1.same (s := 21) (v := .bool false) eg).upd 4 rfl rfl rfl rfl, hI.out.2.2⟩⟩
            · intro LL a wx hI hLk hd K' hK
              obtain ⟨z, hI⟩ := hI
              obtain rfl := hI.out.1
              have eg := hI.out.2.1.at 3 rfl (hd 3 rfl)
              rw [eg]
              refine unwanted (by rfl) ?_
              exact hK.out _ _ ⟨(put1 (put1 z 21 (.bool false)) 23 (undef)), ⟨rfl, (hI.out.2.1.same (s := 21) (v := .bool false) eg).upd 5 rfl rfl rfl rfl, hI.out.2.2⟩⟩
            · intro LL a wx hI hLk hd K' hK
              obtain ⟨z, hI⟩ := hI
              obtain rfl := hI.out.1
              have eg := hI.out.2.1.at 3 rfl (hd 3 rfl)
              rw [eg]
              refine unwanted (by rfl) ?_
              exact hK.out _ _ ⟨(put1 (put1 z 21 (.bool false)) 24 (undef)), ⟨rfl, (hI.out.2.1.same (s := 21) (v := .bool false) eg).upd 6 rfl rfl rfl rfl, hI.out.2.2⟩⟩
            · intro LL a wx hI hLk hd K' hK
              obtain ⟨z, hI⟩ := hI
              obtain rfl := hI.out.1
              have eg := hI.out.2.1.at 3 rfl (hd 3 rfl)
              rw [eg]
              refine unwanted (by rfl) ?_
              exact hK.out _ _ ⟨(put1 (put1 z 21 (.bool false)) 25 (undef)), ⟨rfl, (hI.out.2.1.same (s := 21) (v := .bool false) eg).upd 7 rfl rfl rfl rfl, hI.out.2.2⟩⟩
            · intro LL a wx hI hLk hd K' hK
              obtain ⟨z, hI⟩ := hI
              obtain rfl := hI.out.1
              have eg := hI.out.2.1.at 3 rfl (hd 3 rfl)
              rw [eg]
              refine unwanted (by rfl) ?_
              exact hK.out _ _ ⟨(put1 (put1 z 21 (.bool false)) 26 (undef)), ⟨rfl, (hI.out.2.1.same (s := 21) (v := .bool false) eg).upd 8 rfl rfl rfl rfl, hI.out.2.2⟩⟩
            · intro LL a wx hI hLk hd K' hK
              obtain ⟨z, hI⟩ := hI
              obtain rfl := hI.out.1
              have eg := hI.out.2.1.at 3 rfl (hd 3 rfl)
              rw [eg]
              refine unwanted (by rfl) ?_
              exact hK.out _ _ ⟨(put1 (put1 z 21 (.bool false)) 27 (undef)), ⟨rfl, (hI.out.2.1.same (s := 21) (v := .bool false) eg).upd 9 rfl rfl rfl rfl, hI.out.2.2⟩⟩
            · intro LL a wx hI hLk hd K' hK
              obtain ⟨z, hI⟩ := hI
              obtain rfl := hI.out.1
              have eg := hI.out.2.1.at 3 rfl (hd 3 rfl)
              rw [eg]
              refine unwanted (by rfl) ?_
              exact hK.out _ _ ⟨(put1 (put1 z 21 (.bool false)) 28 (undef)), ⟨rfl, (hI.out.2.1.same (s := 21) (v := .bool false) eg).upd 10 rfl rfl rfl rfl, hI.out.2.2⟩⟩
            · intro LL a wx hI hLk hd K' hK
              obtain ⟨z, hI⟩ := hI
              obtain rfl := hI.out.1
              have eg := hI.out.2.1.at 3 rfl (hd 3 rfl)
              rw [eg]
              refine unwanted (by rfl) ?_
              exact hK.out _ _ ⟨(put1 (put1 z 21 (.bool false)) 29 (undef)), ⟨rfl, (hI.out.2.1.same (s := 21) (v := .bool false) eg).upd 11 rfl rfl rfl rfl, hI.out.2.2⟩⟩
            · intro LL a wx hI hLk hd K' hK
              obtain ⟨z, hI⟩ := hI
              obtain rfl := hI.out.1
              have eg := hI.out.2.1.at 3 rfl (hd 3 rfl)
              rw [eg]
              refine unwanted (by rfl) ?_
              exact hK.out _ _ ⟨(put1 (put1 z 21 (.bool false)) 30 (undef)), ⟨rfl, (hI.out.2.1.same (s := 21) (v := .bool false) eg).upd 12 rfl rfl rfl rfl, hI.out.2.2⟩⟩
            · intro LL a wx hI hLk hd K' hK
              obtain ⟨z, hI⟩ := hI
              obtain rfl := hI.out.1
              have eg := hI.out.2.1.at 3 rfl (hd 3 rfl)
              rw [eg]
              refine unwanted (by rfl) ?_
              exact hK.out _ _ ⟨(put1 (put1 z 21 (.bool false)) 31 (undef)), ⟨rfl, (hI.out.2.1.same (s := 21) (v := .bool false) eg).upd 13 rfl rfl rfl rfl, hI.out.2.2⟩⟩
            · intro LL a wx hI hLk hd K' hK
              obtain ⟨z, hI⟩ := hI
              obtain rfl := hI.out.1
              have eg := hI.out.2.1.at 3 rfl (hd 3 rfl)
              rw [eg]
              refine unwanted (by rfl) ?_
              exact hK.out _ _ ⟨(put1 (put1 z 21 (.bool false)) 32 (undef)), ⟨rfl, (hI.out.2.1.same (s := 21) (v := .bool false) eg).upd 14 rfl rfl rfl rfl, hI.out.2.2⟩⟩
            · intro LL a wx hI hLk hd K' hK
              obtain ⟨z, hI⟩ := hI
              obtain rfl := hI.out.1
              have eg := hI.out.2.1.at 3 rfl (hd 3 rfl)
              rw [eg]
              refine unwanted (by rfl) ?_
              exact hK.out _ _ ⟨(put1 (put1 z 21 (.bool false)) 33 (undef)), ⟨rfl, (hI.out.2.1.same (s := 21) (v := .bool false) eg).upd 15 rfl rfl rfl rfl, hI.out.2.2⟩⟩
            · intro LL a wx hI hLk hd K' hK
              obtain ⟨z, hI⟩ := hI
              obtain rfl := hI.out.1
              have e3 := hI.out.2.1.at 3 rfl (hd 3 rfl)
              rw [if_pos (by rfl)]
              go_simp
              exact hK.out _ _ ⟨(put1 (put1 z 21 (.bool false)) 34 (.bool false)), ⟨rfl, (hI.out.2.1.same (s := 21) (v := .bool false) e3).upd 16 rfl rfl rfl rfl, hI.out.2.2⟩⟩
          · intro LL a wc hall hI
            obtain ⟨z, hI⟩ := hI
            obtain rfl := hI.out.1
            have hb := hI.out.2.2
            have e16 := hI.out.2.1.at 16 rfl (hall 16 (by decide))
            rw [e16]
            have HBC := hb
            clear hI hb e16 hall
            have HAK := Aside0.mk (HAJ.out.below HBC.out)
            have HOK := Aside0.mk (HOJ.out.trans (On.of_below HBC.out))
            obtain ⟨M', hE', hSt'⟩ := HIN.out.done HSt.out.1 (.inl (by have := HB.out; have := HJE.out; omega))
            have HSN : Aside0 (St k (S.take (i + 1 - ia)) M') := ⟨by rw [show i + 1 - ia = i - ia + 1 by have := HIL.out; omega, take_snoc S (i - ia) HE.out, ← HX0.out.1]; exact St.trans (fun c => by simp only [List.filter_append, HSt.out.2]) hSt'⟩
            have HAN : Aside0 (Arr XX wc g (P ++ M' ++ S.drop (i + 1 - ia) ++ Q)) := ⟨by have h := HAK.out; rw [hE', HX0.out.2] at h; simpa [List.append_assoc] using h⟩
            clear hE' hSt'
            go_wp2_with fail
            first
              | (refine ⟨⟨i + 1, M', by rw [HIW.out], by have := HIL.out; omega, .inl (by have := HIL.out; omega), HSN, HAN, HOK⟩, ?_⟩; rw [HIW.out]; simp only [intOf]; have := HIL.out; omega)
              | (refine ⟨?_, ?_⟩; · (refine ⟨_, _, _, _, _, _, _, _, _, _, _, _, _, _, _, _, _, _, _, _, _, _, _, _, _, _, _, _, _, _, _, _, _, _, _, _, _, _, _, _, _, _, _, _, _, _, _, _, _, _, _, _, _, _, _, _, _, _, _, _, _, _, _, _, _, _, _, _, _, _, _, _, _, _, _, _, _, _, _, _, _, _, _, _, _, _, _, _, _, _, _, _, _, _, _, _, _, _, _, ?_, rfl⟩; exact ⟨i + 1, M', by rw [HIW.out], by have := HIL.out; omega, .inl (by have := HIL.out; omega), HSN, HAN, HOK⟩); · (rw [HIW.out]; simp only [intOf]; have := HIL.out; omega))
    · have hc1 : ((i : Int) < (ib : Int)) = False := eq_false (by omega)
      have hc1n : (i < ib) = False := eq_false hlt
      have hle : S.length ≤ i - ia := by have := HB.out; omega
      rw [List.take_of_length_le hle] at HSt
      rw [List.drop_of_length_le hle, List.append_nil] at HAI
      clear hlt hi1 hi2 hle
      go_wp2
      go_end0
      exact ⟨rfl, M, HAI.out, HSt.out, HOI.out⟩
end Go.Proofs.YtdmahdgcfaieoaaW.PrintSort

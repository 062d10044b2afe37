/- The stable sort of package slices, the merge (gensort.py). No condition. -/
import Derived.Test.YtdmahdgcfaieoaaWSort8
import Derived.Test.YtdmahdgcfaieoaaWSortB
namespace Go.Proofs.YtdmahdgcfaieoaaW.PrintSort
open Go Go.RowKit Go.Proofs.YtdmahdgcfaieoaaW.PrintWords Go.Proofs.YtdmahdgcfaieoaaW.PrintLast Go.Proofs.YtdmahdgcfaieoaaW.PrintMore Go.Proofs.YtdmahdgcfaieoaaW.PrintReg Go.Proofs.YtdmahdgcfaieoaaW.PrintTree
set_option linter.unusedVariables false
set_option linter.unusedSimpArgs false
set_option maxHeartbeats 4000000 in
set_option maxRecDepth 100000 in
theorem stable_calls (XX : List Value) (g o n c : Nat) (ad : Addr) (had : ad = ⟨g, o, none⟩) (fc : Nat) (caps : Array Value) (hfc : ∀ args W, (callFunc fc args).run Try.prog W = .ok (.enter fc args) W) (cmpf : Int → Int → Int) (k : Int → Int) (hk : ∀ x y, cmpf x y < 0 ↔ k x < k y) (w0 : World) (HC : ∀ (x y : Int) (W : World), On (· = g) w0 W → Calls Try.prog fc (#[.int .i32 x, .int .i32 y] ++ caps) W fun e w' => e = .returned (.int .i64 (cmpf x y)) ∧ Below W.heap.size W w')
    (P S Q : List Int) (w : World) (hA : Arr XX w g (P ++ S ++ Q)) (hw0 : On (· = g) w0 w) (hP : P.length = o) (hS : S.length = n) (hN : n ≤ 1152921504606846975) :
    Calls Try.prog 37 #[.slice (some ad) n c, .int .i64 (n : Int), .func (.func fc) #[] caps] w fun e w' => e = .returned (.tuple #[]) ∧ ∃ X, Arr XX w' g (P ++ X ++ Q) ∧ St k S X ∧ On (· = g) w w' := by
  have HA := Aside0.mk hA
  have HB := Aside0.mk (And.intro hP (And.intro hS hN))
  have HAD := Aside0.mk had
  have HCC := Aside0.mk HC
  have HK := Aside0.mk hk
  have HW0 := Aside0.mk hw0
  have HNL : Aside0 (∀ X : List Int, X.length = n → o + n ≤ (P ++ X ++ Q).length) := ⟨fun X hX => by simp only [List.length_append]; omega⟩
  clear hA HC hk hw0 hP hS hN had
  go_enter Try.func37, Try.ntmps37
  go_wp2_with fail
  go_loopw [7, 8] (fun v7 v8 wr => ∃ (p q : Nat) (M : List Int), v7 = .int .i64 (p : Int) ∧ v8 = .int .i64 (q : Int) ∧ q = p + 20 ∧ p ≤ n ∧ Aside0 (Pre k 20 (S.take p) M) ∧ Aside0 (Arr XX wr g (P ++ (M ++ S.drop p) ++ Q)) ∧ Aside0 (On (· = g) w wr)) (fun v7 _ _ => n - (intOf v7).toNat)
  case atStart => exact ⟨0, 20, [], rfl, rfl, rfl, Nat.zero_le _, ⟨Pre.nil⟩, ⟨HA.out⟩, ⟨On.refl _ _⟩⟩
  case round =>
    obtain ⟨p, q, M, rfl, rfl, hq, hp, HPR, HAM, HOM⟩ := hrel
    have HPQ := Aside0.mk (And.intro hq hp)
    have HML : Aside0 (M.length = p) := ⟨by rw [HPR.out.1, List.length_take]; have := HB.out; omega⟩
    by_cases hle : q ≤ n
    · have c1 : ((q : Int) ≤ (n : Int)) = True := eq_true (by omega)
      have c1n : (q ≤ n) = True := eq_true (by omega)
      have HQW : Aside0 (wrap64 ((q : Int) + 20) = ((q + 20 : Nat) : Int)) := ⟨by have := HB.out; unfold wrap64; omega⟩
      have HLE := Aside0.mk hle
      have HSP : Aside0 (M ++ S.drop p = M ++ (S.drop p).take 20 ++ S.drop q) := ⟨by rw [List.append_assoc]; congr 1; rw [hq, ← List.drop_drop, List.take_append_drop]⟩
      clear hle hq hp
      go_wp2_with fail
      refine (insort_calls XX g o n c ad HAD.out fc caps hfc cmpf k HK.out w0 HCC.out p q (P ++ M) ((S.drop p).take 20) (S.drop q ++ Q) wr (by have h := HAM.out; rw [HSP.out] at h; simpa only [List.append_assoc] using h) (HW0.out.trans HOM.out) (by rw [List.length_append, HML.out, HB.out.1]) (by rw [List.length_take, List.length_drop]; have := HB.out; have := HPQ.out; have := HLE.out; omega) HLE.out (by have h := HNL.out (M ++ S.drop p) (by rw [List.length_append, HML.out, List.length_drop]; have := HB.out; have := HPQ.out; omega); rw [HSP.out] at h; simpa only [List.append_assoc] using h) HB.out.2.2).mono ?_
      rintro e w1 ⟨rfl, S', hA1, hS1, ho1⟩
      have HA1 := Aside0.mk hA1
      have HS1 := Aside0.mk hS1
      have HO1 := Aside0.mk (HOM.out.trans ho1)
      clear hA1 hS1 ho1 c1 c1n
      go_wp2_with fail
      go_roundw
      case rel => exact ⟨q, q + 20, M ++ S', rfl, by rw [HQW.out], rfl, HLE.out, ⟨by
        have e : S.take q = S.take p ++ (S.drop p).take 20 := by rw [HPQ.out.1, List.take_add]
        rw [e]; exact HPR.out.snoc (by rw [List.length_take, List.length_drop]; have := HB.out; have := HPQ.out; have := HLE.out; omega) HS1.out⟩, ⟨by have h := HA1.out; simpa only [List.append_assoc] using h⟩, HO1⟩
      case measure => simp only [intOf]; have := HPQ.out; have := HLE.out; omega
    · have c1 : ((q : Int) ≤ (n : Int)) = False := eq_false (by omega)
      have c1n : (q ≤ n) = False := eq_false (by omega)
      have HLT : Aside0 ((S.drop p).length ≤ 20) := ⟨by rw [List.length_drop]; have := HB.out; omega⟩
      clear hle hq hp
      go_wp2_with fail
      refine (insort_calls XX g o n c ad HAD.out fc caps hfc cmpf k HK.out w0 HCC.out p n (P ++ M) (S.drop p) Q wr (by have h := HAM.out; simpa only [List.append_assoc] using h) (HW0.out.trans HOM.out) (by rw [List.length_append, HML.out, HB.out.1]) (by rw [List.length_drop]; have := HB.out; have := HPQ.out; omega) (Nat.le_refl _) (by have h := HNL.out (M ++ S.drop p) (by rw [List.length_append, HML.out, List.length_drop]; have := HB.out; have := HPQ.out; omega); simpa only [List.append_assoc] using h) HB.out.2.2).mono ?_
      rintro e w1 ⟨rfl, S', hA1, hS1, ho1⟩
      have HA1 := Aside0.mk hA1
      have HO1 := Aside0.mk (HOM.out.trans ho1)
      have HBL : Aside0 (Bl k 20 S (M ++ S')) := ⟨by have h := HPR.out.2 _ _ (.last HLT.out hS1); rw [List.take_append_drop] at h; exact h⟩
      obtain ⟨X0, hX0⟩ : ∃ X0, X0 = M ++ S' := ⟨_, rfl⟩
      have HA0 : Aside0 (Arr XX w1 g (P ++ X0 ++ Q)) := ⟨by rw [hX0]; have h := HA1.out; simpa only [List.append_assoc] using h⟩
      rw [← hX0] at HBL
      clear hA1 hS1 ho1 hX0 HA1 HAM HPR HPQ HML HLT c1 c1n HOM
      go_wp2_with fail
      go_loopw [6] (fun v6 wr => ∃ (z : Nat) (X : List Int), v6 = .int .i64 (z : Int) ∧ 0 < z ∧ z ≤ 2305843009213693952 ∧ Aside0 (Bl k z S X) ∧ Aside0 (Arr XX wr g (P ++ X ++ Q)) ∧ Aside0 (On (· = g) w wr)) (fun v6 _ => n - (intOf v6).toNat)
      case atStart => exact ⟨20, X0, rfl, by omega, by omega, HBL, HA0, HO1⟩
      case round =>
        clear HBL HA0 HO1
        obtain ⟨z, X, rfl, hz, hz2, HBL, HA0, HO1⟩ := hrel
        by_cases hlt : z < n
        · have c2 : ((z : Int) < (n : Int)) = True := eq_true (by omega)
          have c2n : (z < n) = True := eq_true (by omega)
          obtain ⟨y, hy⟩ : ∃ y : Nat, y = z + z := ⟨_, rfl⟩
          have HZ := Aside0.mk (And.intro hz (And.intro hy hlt))
          have HYW : Aside0 (wrap64 (2 * (z : Int)) = (y : Int)) := ⟨by have := HB.out; unfold wrap64; omega⟩
          have HYW2 : Aside0 (wrap64 ((z : Int) * 2) = (y : Int)) := ⟨by have := HB.out; unfold wrap64; omega⟩
          clear hz hz2 hlt hy
          go_wp2_with fail
          try rw [HYW.out]
          go_loopw [7, 8] (fun v7 v8 wr => ∃ (p q : Nat) (S0 M S1 X1 : List Int), v7 = .int .i64 (p : Int) ∧ v8 = .int .i64 (q : Int) ∧ q = p + y ∧ p ≤ n ∧ Aside0 (S = S0 ++ S1 ∧ S0.length = p) ∧ Aside0 (Pre k y S0 M) ∧ Aside0 (Bl k z S1 X1) ∧ Aside0 (Arr XX wr g (P ++ (M ++ X1) ++ Q)) ∧ Aside0 (On (· = g) w wr)) (fun v7 _ _ => n - (intOf v7).toNat)
          case atStart => exact ⟨0, y, [], [], S, X, rfl, rfl, by omega, Nat.zero_le _, ⟨⟨rfl, rfl⟩⟩, ⟨Pre.nil⟩, HBL, ⟨HA0.out⟩, HO1⟩
          case round =>
            clear HBL HA0 HO1
            obtain ⟨p, q, S0, M, S1, X1, rfl, rfl, hq, hp, HSS, HPR, HBL, HAM, HOM⟩ := hrel
            have HPQ := Aside0.mk (And.intro hq hp)
            have HML : Aside0 (M.length = p ∧ S1.length + p = n ∧ X1.length + p = n) := ⟨by have h1 := HPR.out.1; have h2 := HSS.out.2; have h3 := congrArg List.length HSS.out.1; rw [List.length_append] at h3; have h4 := HBL.out.len; have := HB.out; omega⟩
            by_cases hle : q ≤ n
            · have c3 : ((q : Int) ≤ (n : Int)) = True := eq_true (by omega)
              have c3n : (q ≤ n) = True := eq_true (by omega)
              obtain ⟨U, U', V, V', S2, X2, e1, e2, hU, hV, hsU, hsV, hB2⟩ := HBL.out.two (by have := HML.out; have := HZ.out; omega) HZ.out.1
              obtain ⟨m, hm⟩ : ∃ m : Nat, m = p + z := ⟨_, rfl⟩
              have HMW : Aside0 (wrap64 ((p : Int) + (z : Int)) = (m : Int)) := ⟨by have := HB.out; have := HZ.out; unfold wrap64; omega⟩
              have HQW : Aside0 (wrap64 ((q : Int) + (y : Int)) = ((q + y : Nat) : Int)) := ⟨by have := HB.out; have := HZ.out; unfold wrap64; omega⟩
              have HLE := Aside0.mk (And.intro hle (And.intro hq (And.intro hm (And.intro hU hV))))
              have HUV := Aside0.mk (And.intro hsU (And.intro hsV hB2))
              have HE1 := Aside0.mk e1
              rw [e2] at HAM HML
              clear hle hq hp e1 e2 hU hV hsU hsV hB2 hm
              go_wp2_with fail
              try rw [HMW.out]
              refine (symMerge_calls XX g o n c ad HAD.out fc caps hfc cmpf k HK.out w0 HCC.out HB.out.2.2 _ p m q (P ++ M) U' V' (X2 ++ Q) wr (by have h := HAM.out; simpa only [List.append_assoc] using h) (HW0.out.trans HOM.out) (by rw [List.length_append, HML.out.1, HB.out.1]) (by rw [HUV.out.1.len]; have := HLE.out; omega) (by rw [HUV.out.2.1.len]; have := HLE.out; have := HZ.out; omega) (by rw [HUV.out.1.len]; have := HLE.out; have := HZ.out; omega) (by rw [HUV.out.2.1.len]; have := HLE.out; have := HZ.out; omega) HLE.out.1 (by have h := HNL.out (M ++ (U' ++ V' ++ X2)) (by rw [List.length_append]; have := HML.out; omega); simpa only [List.append_assoc] using h) HUV.out.1.1 HUV.out.2.1.1 rfl).mono ?_
              rintro e w1 ⟨rfl, M1, hA1, hS1, ho1⟩
              have HA1 := Aside0.mk hA1
              have HS1 := Aside0.mk (St.both HUV.out.1 HUV.out.2.1 hS1)
              have HO1 := Aside0.mk (HOM.out.trans ho1)
              clear hA1 hS1 ho1 c3 c3n
              go_wp2_with fail
              try rw [HYW.out]
              go_roundw
              case rel => exact ⟨q, q + y, S0 ++ (U ++ V), M ++ M1, S2, X2, rfl, by rw [HQW.out], rfl, HLE.out.1, ⟨by rw [HSS.out.1, HE1.out]; simp only [List.append_assoc], by simp only [List.length_append]; have := HSS.out.2; have := HLE.out; have := HZ.out; omega⟩, ⟨HPR.out.snoc (by rw [List.length_append]; have := HLE.out; have := HZ.out; omega) HS1.out⟩, ⟨HUV.out.2.2⟩, ⟨by have h := HA1.out; simpa only [List.append_assoc] using h⟩, HO1⟩
              case measure => simp only [intOf]; have := HLE.out; have := HZ.out; omega
            · have c3 : ((q : Int) ≤ (n : Int)) = False := eq_false (by omega)
              have c3n : (q ≤ n) = False := eq_false (by omega)
              obtain ⟨m, hm⟩ : ∃ m : Nat, m = p + z := ⟨_, rfl⟩
              have HMW : Aside0 (wrap64 ((p : Int) + (z : Int)) = (m : Int)) := ⟨by have := HB.out; have := HZ.out; unfold wrap64; omega⟩
              have HLE := Aside0.mk (And.intro hle (And.intro hq hm))
              by_cases hmn : m < n
              · have c4 : ((m : Int) < (n : Int)) = True := eq_true (by omega)
                have c4n : (m < n) = True := eq_true (by omega)
                obtain ⟨U, U', V, V', e1, e2, hU, hsU, hsV⟩ := HBL.out.rest (by have := HML.out; omega) (by have := HML.out; have := HZ.out; omega)
                have HUV := Aside0.mk (And.intro hsU (And.intro hsV hU))
                have HE1 := Aside0.mk e1
                have HMN := Aside0.mk hmn
                have HSL : Aside0 (S1.length = U.length + V.length) := ⟨by rw [e1, List.length_append]⟩
                rw [e2] at HAM HML
                have hmw := HMW.out
                clear hle hq hp e1 e2 hU hsU hsV hm hmn
                go_wp2_with fail
                refine (symMerge_calls XX g o n c ad HAD.out fc caps hfc cmpf k HK.out w0 HCC.out HB.out.2.2 _ p m n (P ++ M) U' V' Q wr (by have h := HAM.out; simpa only [List.append_assoc] using h) (HW0.out.trans HOM.out) (by rw [List.length_append, HML.out.1, HB.out.1]) (by rw [HUV.out.1.len]; have := HLE.out; have := HUV.out.2.2; omega) (by rw [HUV.out.2.1.len]; have := HLE.out; have := HMN.out; have := HUV.out.2.2; have := HSL.out; have := HML.out; omega) (by rw [HUV.out.1.len]; have := HUV.out.2.2; have := HZ.out; omega) (by rw [HUV.out.2.1.len]; have := HUV.out.2.2; have := HSL.out; have := HML.out; have := HMN.out; have := HLE.out; omega) (Nat.le_refl _) (by have h := HNL.out (M ++ (U' ++ V')) (by rw [List.length_append]; have := HML.out; omega); simpa only [List.append_assoc] using h) HUV.out.1.1 HUV.out.2.1.1 rfl).mono ?_
                rintro e w1 ⟨rfl, M1, hA1, hS1, ho1⟩
                have HA1 := Aside0.mk hA1
                have HS1 := Aside0.mk (St.both HUV.out.1 HUV.out.2.1 hS1)
                have HO1 := Aside0.mk (HOM.out.trans ho1)
                clear hA1 hS1 ho1 c3 c3n c4 c4n hmw
                go_wp2_with fail
                go_roundw
                case rel => exact ⟨y, M ++ M1, by rw [HYW2.out], by have := HZ.out; omega, by have := HZ.out; have := HB.out; omega, ⟨by rw [HSS.out.1, HE1.out]; exact HPR.out.2 _ _ (.last (by rw [List.length_append]; have := HSL.out; have := HML.out; have := HLE.out; omega) HS1.out)⟩, ⟨by have h := HA1.out; simpa only [List.append_assoc] using h⟩, HO1⟩
                case measure => rw [HYW2.out]; simp only [intOf]; have := HZ.out; omega
              · have c4 : ((m : Int) < (n : Int)) = False := eq_false (by omega)
                have c4n : (m < n) = False := eq_false (by omega)
                have HS1 := Aside0.mk (HBL.out.one (by have := HML.out; omega))
                have hmw := HMW.out
                clear hle hq hp hm hmn
                go_wp2_with fail
                go_roundw
                case rel => exact ⟨y, M ++ X1, by rw [HYW2.out], by have := HZ.out; omega, by have := HZ.out; have := HB.out; omega, ⟨by rw [HSS.out.1]; exact HPR.out.2 _ _ (.last (by have := HML.out; have := HLE.out; omega) HS1.out)⟩, HAM, HOM⟩
                case measure => rw [HYW2.out]; simp only [intOf]; have := HZ.out; omega
        · have c2 : ((z : Int) < (n : Int)) = False := eq_false (by omega)
          have c2n : (z < n) = False := eq_false (by omega)
          have HST := Aside0.mk (HBL.out.one (by have := HB.out; omega))
          clear hlt hz hz2
          go_wp2
          go_end0
          exact ⟨rfl, X, HA0.out, HST.out, HO1.out⟩
set_option maxHeartbeats 4000000 in
set_option maxRecDepth 100000 in
theorem sortStable_calls (XX : List Value) (g o n c : Nat) (ad : Addr) (had : ad = ⟨g, o, none⟩) (fc : Nat) (caps : Array Value) (hfc : ∀ args W, (callFunc fc args).run Try.prog W = .ok (.enter fc args) W) (cmpf : Int → Int → Int) (k : Int → Int) (hk : ∀ x y, cmpf x y < 0 ↔ k x < k y) (w0 : World) (HC : ∀ (x y : Int) (W : World), On (· = g) w0 W → Calls Try.prog fc (#[.int .i32 x, .int .i32 y] ++ caps) W fun e w' => e = .returned (.int .i64 (cmpf x y)) ∧ Below W.heap.size W w')
    (P S Q : List Int) (w : World) (hA : Arr XX w g (P ++ S ++ Q)) (hw0 : On (· = g) w0 w) (hP : P.length = o) (hS : S.length = n) (hN : n ≤ 1152921504606846975) :
    Calls Try.prog 34 #[.slice (some ad) n c, .func (.func fc) #[] caps] w fun e w' => e = .returned (.tuple #[]) ∧ ∃ X, Arr XX w' g (P ++ X ++ Q) ∧ St k S X ∧ On (· = g) w w' := by
  have HX := Aside0.mk (stable_calls XX g o n c ad had fc caps hfc cmpf k hk w0 HC P S Q w hA hw0 hP hS hN)
  clear hA hw0 hP hS hN HC hk had
  go_enter Try.func34, Try.ntmps34
  go_wp2_with fail
  refine HX.out.mono ?_
  rintro e w1 ⟨rfl, X, hA1, hS1, ho1⟩
  have HA1 := Aside0.mk (And.intro hA1 (And.intro hS1 ho1))
  clear hA1 hS1 ho1
  go_wp2
  go_end0
  exact ⟨rfl, X, HA1.out⟩
end Go.Proofs.YtdmahdgcfaieoaaW.PrintSort

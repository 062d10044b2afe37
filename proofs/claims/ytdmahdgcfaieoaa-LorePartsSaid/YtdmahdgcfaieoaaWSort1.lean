/- The stable sort of package slices, at rows of runes, by hand (gensort.py). No condition. -/
import Derived.Test.YtdmahdgcfaieoaaProg
import Derived.Test.YtdmahdgcfaieoaaWFrz
import Derived.Test.YtdmahdgcfaieoaaWReg2
import Derived.Test.YtdmahdgcfaieoaaWTree
import Derived.Test.YtdmahdgcfaieoaaWSortP
import Derived.WalkKit
namespace Go.Proofs.YtdmahdgcfaieoaaW.PrintSort
open Go Go.RowKit Go.Proofs.YtdmahdgcfaieoaaW.PrintWords Go.Proofs.YtdmahdgcfaieoaaW.PrintLast Go.Proofs.YtdmahdgcfaieoaaW.PrintMore Go.Proofs.YtdmahdgcfaieoaaW.PrintReg Go.Proofs.YtdmahdgcfaieoaaW.PrintTree
set_option linter.unusedVariables false
set_option linter.unusedSimpArgs false
/-- A block of runes; behind them XX. -/
def Arr (XX : List Value) (w : World) (g : Nat) (D : List Int) : Prop := w.heap[g]? = some (.cells ((D.map (Value.int .i32) ++ XX).toArray) 21 (0, 0))
theorem Arr.cell {XX : List Value} {w : World} {g o : Nat} {ad : Addr} {D : List Int} (h : Arr XX w g D) (had : ad = ⟨g, o, none⟩) (j : Nat) (hj : o + j < D.length) : w.cell? (ad.add j) = some (.int .i32 (D.getD (o + j) 0)) := by
  subst had
  have e : (⟨g, o, none⟩ : Addr).add j = ⟨g, o + j, none⟩ := by
    unfold Addr.add
    by_cases h : j = 0
    · subst h; rfl
    · rw [if_neg h]
  rw [e, blk_cell h]
  simp [List.getD_eq_getElem?_getD, List.getElem?_append_left, hj]
theorem Arr.frozen {XX : List Value} {w : World} {g o : Nat} {ad : Addr} {D : List Int} (h : Arr XX w g D) (had : ad = ⟨g, o, none⟩) (j : Nat) : w.frozen? (ad.add j) = false := by
  subst had
  have e : (⟨g, o, none⟩ : Addr).add j = ⟨g, o + j, none⟩ := by
    unfold Addr.add
    by_cases h : j = 0
    · subst h; rfl
    · rw [if_neg h]
  rw [e]; exact blk_frozen h _
theorem Arr.set {XX : List Value} {w : World} {g o : Nat} {ad : Addr} {D : List Int} (h : Arr XX w g D) (had : ad = ⟨g, o, none⟩) (j : Nat) (x : Int) (hj : o + j < D.length) : Arr XX (w.setCell (ad.add j) (.int .i32 x)) g (D.set (o + j) x) ∧ On (· = g) w (w.setCell (ad.add j) (.int .i32 x)) := by
  subst had
  have e : (⟨g, o, none⟩ : Addr).add j = ⟨g, o + j, none⟩ := by
    unfold Addr.add
    by_cases h : j = 0
    · subst h; rfl
    · rw [if_neg h]
  rw [e]
  refine ⟨blk_put h (o + j) _ ?_, On.set (P := fun q => q = g) (On.refl _ _) (p := ⟨g, o + j, none⟩) rfl _⟩
  simp [List.map_set, List.set_append_left, hj]
theorem Arr.below {XX : List Value} {w w' : World} {g : Nat} {D : List Int} (h : Arr XX w g D) (hb : Below w.heap.size w w') : Arr XX w' g D := blk_below h hb
theorem Arr.lt {XX : List Value} {w : World} {g : Nat} {D : List Int} (h : Arr XX w g D) : g < w.heap.size := blk_lt h
theorem w64n (x : Int) (y : Nat) (h : x = y) (hy : y ≤ 1152921504606846976) : IntKind.i64.wrap x = (y : Int) := by rw [i64_w, h]; unfold wrap64; omega
set_option maxHeartbeats 4000000 in
set_option maxRecDepth 100000 in
theorem swapRange_calls (XX : List Value) (g o n c : Nat) (ad : Addr) (had : ad = ⟨g, o, none⟩) (cv : Value) (ia ib m : Nat) (D : List Int) (w : World) (hA : Arr XX w g D) (ha : ia + m ≤ n) (hb : ib + m ≤ n) (hn : o + n ≤ D.length) (hN : n ≤ 1152921504606846975) :
    Calls Try.prog 42 #[.slice (some ad) n c, .int .i64 (ia : Int), .int .i64 (ib : Int), .int .i64 (m : Int), cv] w fun e w' => e = .returned (.tuple #[]) ∧ Arr XX w' g (swapN D (o + ia) (o + ib) m) ∧ On (· = g) w w' := by
  have HA := Aside0.mk hA
  have HB := Aside0.mk (And.intro ha (And.intro hb (And.intro hn hN)))
  have HAD := Aside0.mk had
  clear hA ha hb hn hN had
  go_enter Try.func42, Try.ntmps42
  go_wp2_with fail
  go_loopw [10] (fun i wr => ∃ j : Nat, j ≤ m ∧ i = .int .i64 (j : Int) ∧ Aside0 (Arr XX wr g (swapN D (o + ia) (o + ib) j)) ∧ Aside0 (On (· = g) w wr)) (fun i _ => m - (intOf i).toNat)
  case atStart => exact ⟨0, Nat.zero_le _, rfl, HA, ⟨On.refl _ _⟩⟩
  case round =>
    obtain ⟨j, hj, rfl, HAJ, HOJ⟩ := hrel
    by_cases hlt : j < m
    · have hc1 : ((j : Int) < (m : Int)) = True := eq_true (by omega)
      have hc1n : (j < m) = True := eq_true hlt
      obtain ⟨p, hp⟩ : ∃ p : Nat, p = ia + j := ⟨_, rfl⟩
      obtain ⟨q, hq⟩ : ∃ q : Nat, q = ib + j := ⟨_, rfl⟩
      obtain ⟨E, hE⟩ : ∃ E, E = swapN D (o + ia) (o + ib) j := ⟨_, rfl⟩
      rw [← hE] at HAJ
      have HEL : Aside0 (o + n ≤ E.length) := ⟨by rw [hE, swapN_len]; exact HB.out.2.2.1⟩
      have HPQ : Aside0 (p < n ∧ q < n ∧ p = ia + j ∧ q = ib + j ∧ j < m) := ⟨by have := HB.out; omega⟩
      have HPW : Aside0 (IntKind.i64.wrap ((ia : Int) + (j : Int)) = (p : Int)) := ⟨w64n _ _ (by omega) (by have := HPQ.out; have := HB.out; omega)⟩
      have HQW : Aside0 (IntKind.i64.wrap ((ib : Int) + (j : Int)) = (q : Int)) := ⟨w64n _ _ (by omega) (by have := HPQ.out; have := HB.out; omega)⟩
      have HJW : Aside0 (wrap64 ((j : Int) + 1) = ((j + 1 : Nat) : Int)) := ⟨by rw [← i64_w]; exact w64n _ _ (by omega) (by have := HPQ.out; have := HB.out; omega)⟩
      have HNX : Aside0 (swapN D (o + ia) (o + ib) (j + 1) = swap E (o + p) (o + q)) := ⟨by rw [swapN, ← hE, hp, hq, Nat.add_assoc, Nat.add_assoc]⟩
      obtain ⟨x, hx⟩ : ∃ x, x = E.getD (o + p) 0 := ⟨_, rfl⟩
      obtain ⟨y, hy⟩ : ∃ y, y = E.getD (o + q) 0 := ⟨_, rfl⟩
      have HXY := Aside0.mk (And.intro hx hy)
      have p0 : ((0 : Int) ≤ (p : Int)) = True := eq_true (by omega)
      have p1 : ((p : Int) < (n : Int)) = True := eq_true (by have := HPQ.out; omega)
      have p2 : (p < n) = True := eq_true HPQ.out.1
      have q0 : ((0 : Int) ≤ (q : Int)) = True := eq_true (by omega)
      have q1 : ((q : Int) < (n : Int)) = True := eq_true (by have := HPQ.out; omega)
      have q2 : (q < n) = True := eq_true HPQ.out.2.1
      clear hj hlt hp hq hE hx hy
      go_wp2_with fail
      refine wp_region_steps 24 rfl rfl (by kernel_rfl) (fun LL a wx => ∃ y_ : Nat → Value, Aside0 (a = { tmps := List.toArray (.slice (some ad) n c :: .int .i64 (ia : Int) :: .int .i64 (ib : Int) :: .int .i64 (m : Int) :: cv :: undef :: undef :: undef :: undef :: undef :: .int .i64 (j : Int) :: .int .i64 (j : Int) :: .int .i64 (m : Int) :: .bool true :: u14 :: u15 :: y_ 16 :: y_ 17 :: y_ 18 :: y_ 19 :: y_ 20 :: y_ 21 :: y_ 22 :: y_ 23 :: y_ 24 :: y_ 25 :: y_ 26 :: y_ 27 :: y_ 28 :: y_ 29 :: y_ 30 :: y_ 31 :: y_ 32 :: y_ 33 :: y_ 34 :: y_ 35 :: y_ 36 :: y_ 37 :: []), defers := [] } ∧ Tab LL y_ [(0, 16, .slice (some ad) n c), (1, 17, .int .i64 (ia : Int)), (2, 18, .int .i64 (j : Int)), (3, 19, .int .i64 (p : Int)), (4, 20, .slice (some ad) n c), (5, 21, .int .i64 (ib : Int)), (6, 22, .int .i64 (j : Int)), (7, 23, .int .i64 (q : Int)), (8, 24, .slice (some ad) n c), (9, 25, .int .i64 (ib : Int)), (10, 26, .int .i64 (j : Int)), (11, 27, .int .i64 (q : Int)), (12, 28, .pointer (some (ad.add q))), (13, 29, .int .i32 y), (14, 30, .slice (some ad) n c), (15, 31, .int .i64 (ia : Int)), (16, 32, .int .i64 (j : Int)), (17, 33, .int .i64 (p : Int)), (18, 34, .pointer (some (ad.add p))), (19, 35, .int .i32 x), (20, 36, .pointer (some (ad.add p))), (22, 37, .pointer (some (ad.add q)))] ∧ Aside0 (Arr XX wx g (bif LL 23 then ((E.set (o + p) y).set (o + q) x) else bif LL 21 then (E.set (o + p) y) else E)) ∧ Aside0 (On (· = g) wr wx) ∧ Aside0 ((LL 21 = true → LL 13 = true ∧ LL 19 = true) ∧ (LL 23 = true → LL 21 = true)))) ?_ ?_ ?_
      · exact ⟨(put1 (put1 (put1 (put1 (put1 (put1 (put1 (put1 (put1 (put1 (put1 (put1 (put1 (put1 (put1 (put1 (put1 (put1 (put1 (put1 (put1 (put1 (fun _ => undef) 16 u16) 17 u17) 18 u18) 19 u19) 20 u20) 21 u21) 22 u22) 23 u23) 24 u24) 25 u25) 26 u26) 27 u27) 28 u28) 29 u29) 30 u30) 31 u31) 32 u32) 33 u33) 34 u34) 35 u35) 36 u36) 37 u37), ⟨rfl, Tab.start 24 rfl rfl, ⟨HAJ.out.below (below_drew (Below.refl _ _))⟩, ⟨On.of_below (below_drew (Below.refl _ _))⟩, ⟨⟨fun h => absurd h (by decide), fun h => absurd h (by decide)⟩⟩⟩⟩
      · refine Steps.cons ?_ (Steps.cons ?_ (Steps.cons ?_ (Steps.cons ?_ (Steps.cons ?_ (Steps.cons ?_ (Steps.cons ?_ (Steps.cons ?_ (Steps.cons ?_ (Steps.cons ?_ (Steps.cons ?_ (Steps.cons ?_ (Steps.cons ?_ (Steps.cons ?_ (Steps.cons ?_ (Steps.cons ?_ (Steps.cons ?_ (Steps.cons ?_ (Steps.cons ?_ (Steps.cons ?_ (Steps.cons ?_ (Steps.cons ?_ (Steps.cons ?_ (Steps.cons ?_ (Steps.nil))))))))))))))))))))))))
        · intro LL a wx hI hLk hd K' hK
          obtain ⟨y_, hI⟩ := hI
          obtain rfl := hI.out.1
          rw [if_pos (by rfl)]
          go_simp
          exact hK.out _ _ ⟨(put1 y_ 16 (.slice (some ad) n c)), ⟨rfl, hI.out.2.1.upd 0 rfl rfl rfl rfl, hI.out.2.2.1, hI.out.2.2.2.1, hI.out.2.2.2.2⟩⟩
        · intro LL a wx hI hLk hd K' hK
          obtain ⟨y_, hI⟩ := hI
          obtain rfl := hI.out.1
          rw [if_pos (by rfl)]
          go_simp
          exact hK.out _ _ ⟨(put1 y_ 17 (.int .i64 (ia : Int))), ⟨rfl, hI.out.2.1.upd 1 rfl rfl rfl rfl, hI.out.2.2.1, hI.out.2.2.2.1, hI.out.2.2.2.2⟩⟩
        · intro LL a wx hI hLk hd K' hK
          obtain ⟨y_, hI⟩ := hI
          obtain rfl := hI.out.1
          rw [if_pos (by rfl)]
          go_simp
          exact hK.out _ _ ⟨(put1 y_ 18 (.int .i64 (j : Int))), ⟨rfl, hI.out.2.1.upd 2 rfl rfl rfl rfl, hI.out.2.2.1, hI.out.2.2.2.1, hI.out.2.2.2.2⟩⟩
        · intro LL a wx hI hLk hd K' hK
          obtain ⟨y_, hI⟩ := hI
          obtain rfl := hI.out.1
          have e1 := hI.out.2.1.at 1 rfl (hd 1 rfl)
          have e2 := hI.out.2.1.at 2 rfl (hd 2 rfl)
          have hw := HPW.out
          rw [if_pos (by rfl)]
          go_simp
          exact hK.out _ _ ⟨(put1 (put1 (put1 y_ 17 (.int .i64 (ia : Int))) 18 (.int .i64 (j : Int))) 19 (.int .i64 (p : Int))), ⟨rfl, ((hI.out.2.1.same (s := 17) (v := .int .i64 (ia : Int)) e1).same (s := 18) (v := .int .i64 (j : Int)) e2).upd 3 rfl rfl rfl rfl, hI.out.2.2.1, hI.out.2.2.2.1, hI.out.2.2.2.2⟩⟩
        · intro LL a wx hI hLk hd K' hK
          obtain ⟨y_, hI⟩ := hI
          obtain rfl := hI.out.1
          rw [if_pos (by rfl)]
          go_simp
          exact hK.out _ _ ⟨(put1 y_ 20 (.slice (some ad) n c)), ⟨rfl, hI.out.2.1.upd 4 rfl rfl rfl rfl, hI.out.2.2.1, hI.out.2.2.2.1, hI.out.2.2.2.2⟩⟩
        · intro LL a wx hI hLk hd K' hK
          obtain ⟨y_, hI⟩ := hI
          obtain rfl := hI.out.1
          rw [if_pos (by rfl)]
          go_simp
          exact hK.out _ _ ⟨(put1 y_ 21 (.int .i64 (ib : Int))), ⟨rfl, hI.out.2.1.upd 5 rfl rfl rfl rfl, hI.out.2.2.1, hI.out.2.2.2.1, hI.out.2.2.2.2⟩⟩
        · intro LL a wx hI hLk hd K' hK
          obtain ⟨y_, hI⟩ := hI
          obtain rfl := hI.out.1
          rw [if_pos (by rfl)]
          go_simp
          exact hK.out _ _ ⟨(put1 y_ 22 (.int .i64 (j : Int))), ⟨rfl, hI.out.2.1.upd 6 rfl rfl rfl rfl, hI.out.2.2.1, hI.out.2.2.2.1, hI.out.2.2.2.2⟩⟩
        · intro LL a wx hI hLk hd K' hK
          obtain ⟨y_, hI⟩ := hI
          obtain rfl := hI.out.1
          have e5 := hI.out.2.1.at 5 rfl (hd 5 rfl)
          have e6 := hI.out.2.1.at 6 rfl (hd 6 rfl)
          have hw := HQW.out
          rw [if_pos (by rfl)]
          go_simp
          exact hK.out _ _ ⟨(put1 (put1 (put1 y_ 21 (.int .i64 (ib : Int))) 22 (.int .i64 (j : Int))) 23 (.int .i64 (q : Int))), ⟨rfl, ((hI.out.2.1.same (s := 21) (v := .int .i64 (ib : Int)) e5).same (s := 22) (v := .int .i64 (j : Int)) e6).upd 7 rfl rfl rfl rfl, hI.out.2.2.1, hI.out.2.2.2.1, hI.out.2.2.2.2⟩⟩
        · intro LL a wx hI hLk hd K' hK
          obtain ⟨y_, hI⟩ := hI
          obtain rfl := hI.out.1
          rw [if_pos (by rfl)]
          go_simp
          exact hK.out _ _ ⟨(put1 y_ 24 (.slice (some ad) n c)), ⟨rfl, hI.out.2.1.upd 8 rfl rfl rfl rfl, hI.out.2.2.1, hI.out.2.2.2.1, hI.out.2.2.2.2⟩⟩
        · intro LL a wx hI hLk hd K' hK
          obtain ⟨y_, hI⟩ := hI
          obtain rfl := hI.out.1
          rw [if_pos (by rfl)]
          go_simp
          exact hK.out _ _ ⟨(put1 y_ 25 (.int .i64 (ib : Int))), ⟨rfl, hI.out.2.1.upd 9 rfl rfl rfl rfl, hI.out.2.2.1, hI.out.2.2.2.1, hI.out.2.2.2.2⟩⟩
        · intro LL a wx hI hLk hd K' hK
          obtain ⟨y_, hI⟩ := hI
          obtain rfl := hI.out.1
          rw [if_pos (by rfl)]
          go_simp
          exact hK.out _ _ ⟨(put1 y_ 26 (.int .i64 (j : Int))), ⟨rfl, hI.out.2.1.upd 10 rfl rfl rfl rfl, hI.out.2.2.1, hI.out.2.2.2.1, hI.out.2.2.2.2⟩⟩
        · intro LL a wx hI hLk hd K' hK
          obtain ⟨y_, hI⟩ := hI
          obtain rfl := hI.out.1
          have e9 := hI.out.2.1.at 9 rfl (hd 9 rfl)
          have e10 := hI.out.2.1.at 10 rfl (hd 10 rfl)
          have hw := HQW.out
          rw [if_pos (by rfl)]
          go_simp
          exact hK.out _ _ ⟨(put1 (put1 (put1 y_ 25 (.int .i64 (ib : Int))) 26 (.int .i64 (j : Int))) 27 (.int .i64 (q : Int))), ⟨rfl, ((hI.out.2.1.same (s := 25) (v := .int .i64 (ib : Int)) e9).same (s := 26) (v := .int .i64 (j : Int)) e10).upd 11 rfl rfl rfl rfl, hI.out.2.2.1, hI.out.2.2.2.1, hI.out.2.2.2.2⟩⟩
        · intro LL a wx hI hLk hd K' hK
          obtain ⟨y_, hI⟩ := hI
          obtain rfl := hI.out.1
          have e8 := hI.out.2.1.at 8 rfl (hd 8 rfl)
          have e11 := hI.out.2.1.at 11 rfl (hd 11 rfl)
          rw [if_pos (by rfl)]
          go_simp
          exact hK.out _ _ ⟨(put1 (put1 (put1 y_ 24 (.slice (some ad) n c)) 27 (.int .i64 (q : Int))) 28 (.pointer (some (ad.add q)))), ⟨rfl, ((hI.out.2.1.same (s := 24) (v := .slice (some ad) n c) e8).same (s := 27) (v := .int .i64 (q : Int)) e11).upd 12 rfl rfl rfl rfl, hI.out.2.2.1, hI.out.2.2.2.1, hI.out.2.2.2.2⟩⟩
        · intro LL a wx hI hLk hd K' hK
          obtain ⟨y_, hI⟩ := hI
          obtain rfl := hI.out.1
          have e12 := hI.out.2.1.at 12 rfl (hd 12 rfl)
          have hA := hI.out.2.2.1
          have hz := hI.out.2.2.2.2
          have f21 := flag_off (fun h => (hz.out.1 h).1) hLk
          have f23 := flag_off (fun h => (hz.out.1 (hz.out.2 h)).1) hLk
          have hq : Arr XX wx g E := by have h := hA.out; rw [f23, f21] at h; exact h
          have ck := hq.cell HAD.out q (by have := HEL.out; have := HPQ.out; omega)
          rw [← HXY.out.2] at ck
          rw [if_pos (by rfl)]
          go_simp
          exact hK.out _ _ ⟨(put1 (put1 y_ 28 (.pointer (some (ad.add q)))) 29 (.int .i32 y)), ⟨rfl, (hI.out.2.1.same (s := 28) (v := .pointer (some (ad.add q))) e12).upd 13 rfl rfl rfl rfl, hI.out.2.2.1, hI.out.2.2.2.1, ⟨⟨fun h => ⟨rfl, (hz.out.1 h).2⟩, hz.out.2⟩⟩⟩⟩
        · intro LL a wx hI hLk hd K' hK
          obtain ⟨y_, hI⟩ := hI
          obtain rfl := hI.out.1
          rw [if_pos (by rfl)]
          go_simp
          exact hK.out _ _ ⟨(put1 y_ 30 (.slice (some ad) n c)), ⟨rfl, hI.out.2.1.upd 14 rfl rfl rfl rfl, hI.out.2.2.1, hI.out.2.2.2.1, hI.out.2.2.2.2⟩⟩
        · intro LL a wx hI hLk hd K' hK
          obtain ⟨y_, hI⟩ := hI
          obtain rfl := hI.out.1
          rw [if_pos (by rfl)]
          go_simp
          exact hK.out _ _ ⟨(put1 y_ 31 (.int .i64 (ia : Int))), ⟨rfl, hI.out.2.1.upd 15 rfl rfl rfl rfl, hI.out.2.2.1, hI.out.2.2.2.1, hI.out.2.2.2.2⟩⟩
        · intro LL a wx hI hLk hd K' hK
          obtain ⟨y_, hI⟩ := hI
          obtain rfl := hI.out.1
          rw [if_pos (by rfl)]
          go_simp
          exact hK.out _ _ ⟨(put1 y_ 32 (.int .i64 (j : Int))), ⟨rfl, hI.out.2.1.upd 16 rfl rfl rfl rfl, hI.out.2.2.1, hI.out.2.2.2.1, hI.out.2.2.2.2⟩⟩
        · intro LL a wx hI hLk hd K' hK
          obtain ⟨y_, hI⟩ := hI
          obtain rfl := hI.out.1
          have e15 := hI.out.2.1.at 15 rfl (hd 15 rfl)
          have e16 := hI.out.2.1.at 16 rfl (hd 16 rfl)
          have hw := HPW.out
          rw [if_pos (by rfl)]
          go_simp
          exact hK.out _ _ ⟨(put1 (put1 (put1 y_ 31 (.int .i64 (ia : Int))) 32 (.int .i64 (j : Int))) 33 (.int .i64 (p : Int))), ⟨rfl, ((hI.out.2.1.same (s := 31) (v := .int .i64 (ia : Int)) e15).same (s := 32) (v := .int .i64 (j : Int)) e16).upd 17 rfl rfl rfl rfl, hI.out.2.2.1, hI.out.2.2.2.1, hI.out.2.2.2.2⟩⟩
        · intro LL a wx hI hLk hd K' hK
          obtain ⟨y_, hI⟩ := hI
          obtain rfl := hI.out.1
          have e14 := hI.out.2.1.at 14 rfl (hd 14 rfl)
          have e17 := hI.out.2.1.at 17 rfl (hd 17 rfl)
          rw [if_pos (by rfl)]
          go_simp
          exact hK.out _ _ ⟨(put1 (put1 (put1 y_ 30 (.slice (some ad) n c)) 33 (.int .i64 (p : Int))) 34 (.pointer (some (ad.add p)))), ⟨rfl, ((hI.out.2.1.same (s := 30) (v := .slice (some ad) n c) e14).same (s := 33) (v := .int .i64 (p : Int)) e17).upd 18 rfl rfl rfl rfl, hI.out.2.2.1, hI.out.2.2.2.1, hI.out.2.2.2.2⟩⟩
        · intro LL a wx hI hLk hd K' hK
          obtain ⟨y_, hI⟩ := hI
          obtain rfl := hI.out.1
          have e18 := hI.out.2.1.at 18 rfl (hd 18 rfl)
          have hA := hI.out.2.2.1
          have hz := hI.out.2.2.2.2
          have f21 := flag_off (fun h => (hz.out.1 h).2) hLk
          have f23 := flag_off (fun h => (hz.out.1 (hz.out.2 h)).2) hLk
          have hq : Arr XX wx g E := by have h := hA.out; rw [f23, f21] at h; exact h
          have ck := hq.cell HAD.out p (by have := HEL.out; have := HPQ.out; omega)
          rw [← HXY.out.1] at ck
          rw [if_pos (by rfl)]
          go_simp
          exact hK.out _ _ ⟨(put1 (put1 y_ 34 (.pointer (some (ad.add p)))) 35 (.int .i32 x)), ⟨rfl, (hI.out.2.1.same (s := 34) (v := .pointer (some (ad.add p))) e18).upd 19 rfl rfl rfl rfl, hI.out.2.2.1, hI.out.2.2.2.1, ⟨⟨fun h => ⟨(hz.out.1 h).1, rfl⟩, hz.out.2⟩⟩⟩⟩
        · intro LL a wx hI hLk hd K' hK
          obtain ⟨y_, hI⟩ := hI
          obtain rfl := hI.out.1
          have e0 := hI.out.2.1.at 0 rfl (hd 0 rfl)
          have e3 := hI.out.2.1.at 3 rfl (hd 3 rfl)
          rw [if_pos (by rfl)]
          go_simp
          exact hK.out _ _ ⟨(put1 (put1 (put1 y_ 16 (.slice (some ad) n c)) 19 (.int .i64 (p : Int))) 36 (.pointer (some (ad.add p)))), ⟨rfl, ((hI.out.2.1.same (s := 16) (v := .slice (some ad) n c) e0).same (s := 19) (v := .int .i64 (p : Int)) e3).upd 20 rfl rfl rfl rfl, hI.out.2.2.1, hI.out.2.2.2.1, hI.out.2.2.2.2⟩⟩
        · intro LL a wx hI hLk hd K' hK
          obtain ⟨y_, hI⟩ := hI
          obtain rfl := hI.out.1
          have e20 := hI.out.2.1.at 20 rfl (hd 20 rfl)
          have e13 := hI.out.2.1.at 13 rfl (hd 13 rfl)
          have hA := hI.out.2.2.1
          have ho := hI.out.2.2.2.1
          have hz := hI.out.2.2.2.2
          have f23 := flag_off (fun h => hz.out.2 h) hLk
          have hq : Arr XX wx g E := by have h := hA.out; rw [f23, hLk] at h; exact h
          have ck := hq.cell HAD.out p (by have := HEL.out; have := HPQ.out; omega)
          have fz := hq.frozen HAD.out p
          rw [if_pos (by rfl)]
          go_simp
          exact hK.out _ _ ⟨(put1 (put1 y_ 36 (.pointer (some (ad.add p)))) 29 (.int .i32 y)), ⟨rfl, ((hI.out.2.1.same (s := 36) (v := .pointer (some (ad.add p))) e20).same (s := 29) (v := .int .i32 y) e13).none 21 rfl, ⟨(show Arr XX _ g (bif LL 23 then _ else (E.set (o + p) y)) by rw [f23]; exact (hq.set HAD.out p y (by have := HEL.out; have := HPQ.out; omega)).1)⟩, ⟨ho.out.trans (hq.set HAD.out p y (by have := HEL.out; have := HPQ.out; omega)).2⟩, ⟨⟨fun _ => ⟨hd 13 rfl, hd 19 rfl⟩, fun _ => rfl⟩⟩⟩⟩
        · intro LL a wx hI hLk hd K' hK
          obtain ⟨y_, hI⟩ := hI
          obtain rfl := hI.out.1
          have e4 := hI.out.2.1.at 4 rfl (hd 4 rfl)
          have e7 := hI.out.2.1.at 7 rfl (hd 7 rfl)
          rw [if_pos (by rfl)]
          go_simp
          exact hK.out _ _ ⟨(put1 (put1 (put1 y_ 20 (.slice (some ad) n c)) 23 (.int .i64 (q : Int))) 37 (.pointer (some (ad.add q)))), ⟨rfl, ((hI.out.2.1.same (s := 20) (v := .slice (some ad) n c) e4).same (s := 23) (v := .int .i64 (q : Int)) e7).upd 21 rfl rfl rfl rfl, hI.out.2.2.1, hI.out.2.2.2.1, hI.out.2.2.2.2⟩⟩
        · intro LL a wx hI hLk hd K' hK
          obtain ⟨y_, hI⟩ := hI
          obtain rfl := hI.out.1
          have e22 := hI.out.2.1.at 21 rfl (hd 22 rfl)
          have e19 := hI.out.2.1.at 19 rfl (hd 19 rfl)
          have hA := hI.out.2.2.1
          have ho := hI.out.2.2.2.1
          have hz := hI.out.2.2.2.2
          have hq : Arr XX wx g (E.set (o + p) y) := by have h := hA.out; rw [hLk, hd 21 rfl] at h; exact h
          have ck := hq.cell HAD.out q (by rw [List.length_set]; have := HEL.out; have := HPQ.out; omega)
          have fz := hq.frozen HAD.out q
          rw [if_pos (by rfl)]
          go_simp
          exact hK.out _ _ ⟨(put1 (put1 y_ 37 (.pointer (some (ad.add q)))) 35 (.int .i32 x)), ⟨rfl, ((hI.out.2.1.same (s := 37) (v := .pointer (some (ad.add q))) e22).same (s := 35) (v := .int .i32 x) e19).none 23 rfl, ⟨(hq.set HAD.out q x (by rw [List.length_set]; have := HEL.out; have := HPQ.out; omega)).1⟩, ⟨ho.out.trans (hq.set HAD.out q x (by rw [List.length_set]; have := HEL.out; have := HPQ.out; omega)).2⟩, ⟨⟨hz.out.1, fun _ => hd 21 rfl⟩⟩⟩⟩
      · intro LL a wq hall hI
        obtain ⟨y_, hI⟩ := hI
        obtain rfl := hI.out.1
        have hA := hI.out.2.2.1
        have ho := hI.out.2.2.2.1
        have hz := hI.out.2.2.2.2
        have HA9 : Aside0 (Arr XX wq g (swapN D (o + ia) (o + ib) (j + 1))) := ⟨by rw [HNX.out, swap, ← HXY.out.1, ← HXY.out.2]; have h := hA.out; rw [hall 23 (by decide)] at h; exact h⟩
        have HO9 := Aside0.mk (HOJ.out.trans ho.out)
        clear hI hA ho hz hall
        go_wp2_with fail
        first
          | (refine ⟨⟨j + 1, HPQ.out.2.2.2.2, by rw [HJW.out], HA9, HO9⟩, ?_⟩; rw [HJW.out]; simp only [intOf]; have := HPQ.out; omega)
          | (refine ⟨?_, ?_⟩; · (refine ⟨_, _, _, _, _, _, _, _, _, _, _, _, _, _, _, _, _, _, _, _, _, _, _, _, _, _, _, _, ?_, rfl⟩; exact ⟨j + 1, HPQ.out.2.2.2.2, by rw [HJW.out], HA9, HO9⟩); · (show m - (intOf (.int .i64 (wrap64 ((j : Int) + 1)))).toNat < m - (intOf (.int .i64 (j : Int))).toNat; rw [HJW.out]; simp only [intOf]; have := HPQ.out; omega))
    · have hc1 : ((m : Int) < (m : Int)) = False := eq_false (by omega)
      have hc1n : (m < m) = False := eq_false (by omega)
      obtain rfl : m = j := by omega
      clear hj hlt
      go_wp2
      go_end0
      exact ⟨rfl, HAJ.out, HOJ.out⟩
set_option maxHeartbeats 4000000 in
set_option maxRecDepth 100000 in
theorem rotate_calls (XX : List Value) (g o n c : Nat) (ad : Addr) (had : ad = ⟨g, o, none⟩) (cv : Value) (ia im ib : Nat) (D F : List Int) (w : World) (hA : Arr XX w g D) (hR : Rot F (o + im) D (im - ia) (ib - im)) (h1 : ia < im) (h2 : im < ib) (h3 : ib ≤ n) (hn : o + n ≤ D.length) (hN : n ≤ 1152921504606846975) :
    Calls Try.prog 41 #[.slice (some ad) n c, .int .i64 (ia : Int), .int .i64 (im : Int), .int .i64 (ib : Int), cv] w fun e w' => e = .returned (.tuple #[]) ∧ Arr XX w' g F ∧ On (· = g) w w' := by
  have HA := Aside0.mk hA
  have HR := Aside0.mk hR
  have HB := Aside0.mk (And.intro h1 (And.intro h2 (And.intro h3 (And.intro hn hN))))
  have HAD := Aside0.mk had
  have hw1 : wrap64 ((im : Int) - (ia : Int)) = ((im - ia : Nat) : Int) := by rw [← i64_w]; exact w64n _ _ (by omega) (by omega)
  have hw2 : wrap64 ((ib : Int) - (im : Int)) = ((ib - im : Nat) : Int) := by rw [← i64_w]; exact w64n _ _ (by omega) (by omega)
  obtain ⟨i0, hi0⟩ : ∃ i0 : Nat, i0 = im - ia := ⟨_, rfl⟩
  obtain ⟨j0, hj0⟩ : ∃ j0 : Nat, j0 = ib - im := ⟨_, rfl⟩
  rw [← hi0] at hw1 HR
  rw [← hj0] at hw2 HR
  have HIJ := Aside0.mk (And.intro hi0 hj0)
  clear hA hR h1 h2 h3 hn hN had hi0 hj0
  go_enter Try.func41, Try.ntmps41
  go_wp2_with fail
  try rw [hw1]
  try rw [hw2]
  clear hw1 hw2
  go_loopw [10, 11] (fun vi vj wr => ∃ (i j : Nat) (E : List Int), vi = .int .i64 (i : Int) ∧ vj = .int .i64 (j : Int) ∧ 0 < i ∧ 0 < j ∧ i ≤ i0 ∧ j ≤ j0 ∧ E.length = D.length ∧ Aside0 (Rot F (o + im) E i j) ∧ Aside0 (Arr XX wr g E) ∧ Aside0 (On (· = g) w wr)) (fun vi vj _ => (intOf vi).toNat + (intOf vj).toNat)
  case atStart => exact ⟨i0, j0, D, rfl, rfl, by have := HIJ.out; have := HB.out; omega, by have := HIJ.out; have := HB.out; omega, Nat.le_refl _, Nat.le_refl _, rfl, HR, HA, ⟨On.refl _ _⟩⟩
  case round =>
    obtain ⟨i, j, E, rfl, rfl, hi, hj, hi2, hj2, hEL, HRE, HAE, HOE⟩ := hrel
    have HK := Aside0.mk (And.intro hi (And.intro hj (And.intro hi2 (And.intro hj2 hEL))))
    have hp : wrap64 ((im : Int) - (i : Int)) = ((im - i : Nat) : Int) := by have := HIJ.out; have := HB.out; rw [← i64_w]; exact w64n _ _ (by omega) (by omega)
    obtain ⟨p, hpe⟩ : ∃ p : Nat, p = im - i := ⟨_, rfl⟩
    rw [← hpe] at hp
    have HP : Aside0 (p + i = im ∧ o + p = o + im - i) := ⟨by have := HIJ.out; have := HB.out; omega⟩
    clear hi hj hi2 hj2 hEL hpe
    by_cases hne : i = j
    · obtain rfl := hne
      have c1 : ((i : Int) != (i : Int)) = false := by simp
      go_wp2_with fail
      try rw [hp]
      refine (swapRange_calls XX g o n c ad HAD.out cv p im i E wr HAE.out (by have := HP.out; have := HB.out; omega) (by have := HK.out; have := HIJ.out; have := HB.out; omega) (by have := HK.out; have := HB.out; omega) HB.out.2.2.2.2).mono ?_
      rintro e w9 ⟨rfl, hA9, ho9⟩
      rw [HP.out.2, HRE.out.eq] at hA9
      have HA9 := Aside0.mk hA9
      have HO9 := Aside0.mk (HOE.out.trans ho9)
      clear hA9 ho9 c1 hp
      go_wp2
      go_end0
      exact ⟨rfl, HA9.out, HO9.out⟩
    · have c1 : ((i : Int) != (j : Int)) = true := by rw [bne_iff_ne]; omega
      have c1e : ((i : Int) = (j : Int)) = False := eq_false (by omega)
      have c1n : (i = j) = False := eq_false hne
      by_cases hgt : j < i
      · have c2 : ((j : Int) < (i : Int)) = True := eq_true (by omega)
        have c2n : (j < i) = True := eq_true hgt
        have hs : wrap64 ((i : Int) - (j : Int)) = ((i - j : Nat) : Int) := by have := HK.out; have := HIJ.out; have := HB.out; rw [← i64_w]; exact w64n _ _ (by omega) (by omega)
        have HS := Aside0.mk hs
        have HGT := Aside0.mk hgt
        clear hne hgt hs
        go_wp2_with fail
        try rw [hp]
        refine (swapRange_calls XX g o n c ad HAD.out cv p im j E wr HAE.out (by have := HP.out; have := HB.out; have := HGT.out; omega) (by have := HK.out; have := HIJ.out; have := HB.out; omega) (by have := HK.out; have := HB.out; omega) HB.out.2.2.2.2).mono ?_
        rintro e w9 ⟨rfl, hA9, ho9⟩
        rw [HP.out.2] at hA9
        have HA9 := Aside0.mk hA9
        have HO9 := Aside0.mk (HOE.out.trans ho9)
        have HR9 := Aside0.mk (HRE.out.hi HGT.out)
        clear hA9 ho9 hp
        go_wp2_with fail
        go_roundw
        case rel => exact ⟨i - j, j, _, by rw [HS.out], rfl, by have := HGT.out; omega, HK.out.2.1, by have := HK.out; omega, HK.out.2.2.2.1, by rw [swapN_len]; exact HK.out.2.2.2.2, HR9, HA9, HO9⟩
        case measure => rw [HS.out]; simp only [intOf]; have := HK.out; have := HGT.out; omega
      · have c2 : ((j : Int) < (i : Int)) = False := eq_false (by omega)
        have c2n : (j < i) = False := eq_false hgt
        have hs : wrap64 ((j : Int) - (i : Int)) = ((j - i : Nat) : Int) := by have := HK.out; have := HIJ.out; have := HB.out; rw [← i64_w]; exact w64n _ _ (by omega) (by omega)
        have HS := Aside0.mk hs
        have HGT : Aside0 (i < j) := ⟨by omega⟩
        have hq1 : wrap64 ((im : Int) + (j : Int)) = ((im + j : Nat) : Int) := by have := HK.out; have := HIJ.out; have := HB.out; rw [← i64_w]; exact w64n _ _ (by omega) (by omega)
        obtain ⟨q1, hq1e⟩ : ∃ q1 : Nat, q1 = im + j := ⟨_, rfl⟩
        rw [← hq1e] at hq1
        have hq2 : wrap64 ((q1 : Int) - (i : Int)) = ((q1 - i : Nat) : Int) := by have := HK.out; have := HIJ.out; have := HB.out; rw [← i64_w]; exact w64n _ _ (by omega) (by omega)
        obtain ⟨q2, hq2e⟩ : ∃ q2 : Nat, q2 = q1 - i := ⟨_, rfl⟩
        rw [← hq2e] at hq2
        have HQ : Aside0 (q2 + i = im + j ∧ o + q2 = o + im + j - i) := ⟨by have := HGT.out; omega⟩
        clear hne hgt hs hq1e hq2e
        go_wp2_with fail
        try rw [hp]
        try rw [hq1]
        try rw [hq2]
        refine (swapRange_calls XX g o n c ad HAD.out cv p q2 i E wr HAE.out (by have := HP.out; have := HB.out; have := HGT.out; omega) (by have := HQ.out; have := HK.out; have := HIJ.out; have := HB.out; omega) (by have := HK.out; have := HB.out; omega) HB.out.2.2.2.2).mono ?_
        rintro e w9 ⟨rfl, hA9, ho9⟩
        rw [HP.out.2, HQ.out.2] at hA9
        have HA9 := Aside0.mk hA9
        have HO9 := Aside0.mk (HOE.out.trans ho9)
        have HR9 := Aside0.mk (HRE.out.lo HGT.out)
        clear hA9 ho9 hp hq1 hq2
        go_wp2_with fail
        go_roundw
        case rel => exact ⟨i, j - i, _, rfl, by rw [HS.out], HK.out.1, by have := HGT.out; omega, HK.out.2.2.1, by have := HK.out; omega, by rw [swapN_len]; exact HK.out.2.2.2.2, HR9, HA9, HO9⟩
        case measure => rw [HS.out]; simp only [intOf]; have := HK.out; have := HGT.out; omega
end Go.Proofs.YtdmahdgcfaieoaaW.PrintSort

-- merged by a program of this session (wip/tools/mergewords.py)
import Derived.Test.YtfagobhhhljajaaProg
import Derived.Test.YtfagobhhhljajaaWFrz
import Derived.Test.YtfagobhhhljajaaWReg3
import Derived.Test.YtfagobhhhljajaaWReg2
import Derived.Test.YtfagobhhhljajaaWTree
import Derived.Test.YtfagobhhhljajaaWMa
import Derived.WalkKit
/- The stable sort of package slices, at rows of runes, by hand (gensort.py). No condition. -/
namespace Go.Proofs.YtfagobhhhljajaaW.PrintSort
open Go Go.RowKit Go.Proofs.YtfagobhhhljajaaW.PrintWords Go.Proofs.YtfagobhhhljajaaW.PrintLast Go.Proofs.YtfagobhhhljajaaW.PrintMore Go.Proofs.YtfagobhhhljajaaW.PrintReg Go.Proofs.YtfagobhhhljajaaW.PrintTree
set_option linter.unusedVariables false
set_option linter.unusedSimpArgs false
/-- A block of runes; behind them XX. -/
def Arr (XX : List Value) (w : World) (g : Nat) (D : List Int) : Prop := w.heap[g]? = some (.cells ((D.map (Value.int .i32) ++ XX).toArray) 21 (0, 0))
theorem Arr.cell {XX : List Value} {w : World} {g o : Nat} {ad : Addr} {D : List Int} (h : Arr XX w g D) (had : ad = ⟨g, o, none⟩) (j : Nat) (hj : o + j < D.length) : w.cell? (ad.add j) = some (.int .i32 (D.getD (o + j) 0)) := by
 subst had
 have e : (⟨g, o, none⟩ : Addr).add j = ⟨g, o + j, none⟩ := by
  unfold Addr.add
  by_cases h : j = 0
  ·
   subst h; rfl
  ·
   rw [if_neg h]
 rw [e, blk_cell h]
 simp [List.getD_eq_getElem?_getD, List.getElem?_append_left, hj]
theorem Arr.frozen {XX : List Value} {w : World} {g o : Nat} {ad : Addr} {D : List Int} (h : Arr XX w g D) (had : ad = ⟨g, o, none⟩) (j : Nat) : w.frozen? (ad.add j) = false := by
 subst had
 have e : (⟨g, o, none⟩ : Addr).add j = ⟨g, o + j, none⟩ := by
  unfold Addr.add
  by_cases h : j = 0
  ·
   subst h; rfl
  ·
   rw [if_neg h]
 rw [e]; exact blk_frozen h _
theorem Arr.set {XX : List Value} {w : World} {g o : Nat} {ad : Addr} {D : List Int} (h : Arr XX w g D) (had : ad = ⟨g, o, none⟩) (j : Nat) (x : Int) (hj : o + j < D.length) : Arr XX (w.setCell (ad.add j) (.int .i32 x)) g (D.set (o + j) x) ∧ On (· = g) w (w.setCell (ad.add j) (.int .i32 x)) := by
 subst had
 have e : (⟨g, o, none⟩ : Addr).add j = ⟨g, o + j, none⟩ := by
  unfold Addr.add
  by_cases h : j = 0
  ·
   subst h; rfl
  ·
   rw [if_neg h]
 rw [e]
 refine ⟨blk_put h (o + j) _ ?_, On.set (P := fun q => q = g) (On.refl _ _) (p := ⟨g, o + j, none⟩) rfl _⟩
 simp [List.map_set, List.set_append_left, hj]
theorem Arr.below {XX : List Value} {w w' : World} {g : Nat} {D : List Int} (h : Arr XX w g D) (hb : Below w.heap.size w w') : Arr XX w' g D := blk_below h hb
theorem Arr.lt {XX : List Value} {w : World} {g : Nat} {D : List Int} (h : Arr XX w g D) : g < w.heap.size := blk_lt h
theorem w64n (x : Int) (y : Nat) (h : x = y) (hy : y ≤ 1152921504606846976) : IntKind.i64.wrap x = (y : Int) := by rw [i64_w, h]; unfold wrap64; omega
set_option maxHeartbeats 4000000 in
set_option maxRecDepth 100000 in
theorem swapRange_calls (XX : List Value) (g o n c : Nat) (ad : Addr) (had : ad = ⟨g, o, none⟩) (cv : Value) (ia ib m : Nat) (D : List Int) (w : World) (hA : Arr XX w g D) (ha : ia + m ≤ n) (hb : ib + m ≤ n) (hn : o + n ≤ D.length) (hN : n ≤ 1152921504606846975) :
  Calls Try.prog 75 #[.slice (some ad) n c, .int .i64 (ia : Int), .int .i64 (ib : Int), .int .i64 (m : Int), cv] w fun e w' => e = .returned (.tuple #[]) ∧ Arr XX w' g (swapN D (o + ia) (o + ib) m) ∧ On (· = g) w w' := by
 have HA := Aside0.mk hA
 have HB := Aside0.mk (And.intro ha (And.intro hb (And.intro hn hN)))
 have HAD := Aside0.mk had
 clear hA ha hb hn hN had
 go_enter Try.func75, Try.ntmps75
 go_wp2_with fail
 go_loopw [10] (fun i wr => ∃ j : Nat, j ≤ m ∧ i = .int .i64 (j : Int) ∧ Aside0 (Arr XX wr g (swapN D (o + ia) (o + ib) j)) ∧ Aside0 (On (· = g) w wr)) (fun i _ => m - (intOf i).toNat)
 case atStart => exact ⟨0, Nat.zero_le _, rfl, HA, ⟨On.refl _ _⟩⟩
 case round =>
  obtain ⟨j, hj, rfl, HAJ, HOJ⟩ := hrel
  by_cases hlt : j < m
  ·
   have hc1 : ((j : Int) < (m : Int)) = True := eq_true (by omega)
   have hc1n : (j < m) = True := eq_true hlt
   obtain ⟨p, hp⟩ : ∃ p : Nat, p = ia + j := ⟨_, rfl⟩
   obtain ⟨q, hq⟩ : ∃ q : Nat, q = ib + j := ⟨_, rfl⟩
   obtain ⟨E, hE⟩ : ∃ E, E = swapN D (o + ia) (o + ib) j := ⟨_, rfl⟩
   rw [← hE] at HAJ
   have HEL : Aside0 (o + n ≤ E.length) := ⟨by rw [hE, swapN_len]; exact HB.out.2.2.1⟩
   have HPQ : Aside0 (p < n ∧ q < n ∧ p = ia + j ∧ q = ib + j ∧ j < m) := ⟨by have := HB.out; omega⟩
   have HPW : Aside0 (IntKind.i64.wrap ((ia : Int) + (j : Int)) = (p : Int)) := ⟨w64n _ _ (by omega) (by have := HPQ.out; have := HB.out; omega)⟩
   have HQW : Aside0 (IntKind.i64.wrap ((ib : Int) + (j : Int)) = (q : Int)) := ⟨w64n _ _ (by omega) (by have := HPQ.out; have := HB.out; omega)⟩
   have HJW : Aside0 (wrap64 ((j : Int) + 1) = ((j + 1 : Nat) : Int)) := ⟨by rw [← i64_w]; exact w64n _ _ (by omega) (by have := HPQ.out; have := HB.out; omega)⟩
   have HNX : Aside0 (swapN D (o + ia) (o + ib) (j + 1) = swap E (o + p) (o + q)) := ⟨by rw [swapN, ← hE, hp, hq, Nat.add_assoc, Nat.add_assoc]⟩
   obtain ⟨x, hx⟩ : ∃ x, x = E.getD (o + p) 0 := ⟨_, rfl⟩
   obtain ⟨y, hy⟩ : ∃ y, y = E.getD (o + q) 0 := ⟨_, rfl⟩
   have HXY := Aside0.mk (And.intro hx hy)
   have p0 : ((0 : Int) ≤ (p : Int)) = True := eq_true (by omega)
   have p1 : ((p : Int) < (n : Int)) = True := eq_true (by have := HPQ.out; omega)
   have p2 : (p < n) = True := eq_true HPQ.out.1
   have q0 : ((0 : Int) ≤ (q : Int)) = True := eq_true (by omega)
   have q1 : ((q : Int) < (n : Int)) = True := eq_true (by have := HPQ.out; omega)
   have q2 : (q < n) = True := eq_true HPQ.out.2.1
   clear hj hlt hp hq hE hx hy
   go_wp2_with fail
   refine wp_reg 24 rfl rfl (by kernel_rfl) (fun y_ => [.slice (some ad) n c, .int .i64 (ia : Int), .int .i64 (ib : Int), .int .i64 (m : Int), cv, undef, undef, undef, undef, undef, .int .i64 (j : Int), .int .i64 (j : Int), .int .i64 (m : Int), .bool true, u14, u15, y_ 16, y_ 17, y_ 18, y_ 19, y_ 20, y_ 21, y_ 22, y_ 23, y_ 24, y_ 25, y_ 26, y_ 27, y_ 28, y_ 29, y_ 30, y_ 31, y_ 32, y_ 33, y_ 34, y_ 35, y_ 36, y_ 37]) (fun (gg : Unit) => [(0, 16, .slice (some ad) n c), (1, 17, .int .i64 (ia : Int)), (2, 18, .int .i64 (j : Int)), (3, 19, .int .i64 (p : Int)), (4, 20, .slice (some ad) n c), (5, 21, .int .i64 (ib : Int)), (6, 22, .int .i64 (j : Int)), (7, 23, .int .i64 (q : Int)), (8, 24, .slice (some ad) n c), (9, 25, .int .i64 (ib : Int)), (10, 26, .int .i64 (j : Int)), (11, 27, .int .i64 (q : Int)), (12, 28, .pointer (some (ad.add q))), (13, 29, .int .i32 y), (14, 30, .slice (some ad) n c), (15, 31, .int .i64 (ia : Int)), (16, 32, .int .i64 (j : Int)), (17, 33, .int .i64 (p : Int)), (18, 34, .pointer (some (ad.add p))), (19, 35, .int .i32 x), (20, 36, .pointer (some (ad.add p))), (22, 37, .pointer (some (ad.add q)))]) (fun LL gg y_ wx => Aside0 (Arr XX wx g (bif LL 23 then ((E.set (o + p) y).set (o + q) x) else bif LL 21 then (E.set (o + p) y) else E)) ∧ Aside0 (On (· = g) wr wx) ∧ Aside0 ((LL 21 = true → LL 13 = true ∧ LL 19 = true) ∧ (LL 23 = true → LL 21 = true))) () (zz [(16, u16), (17, u17), (18, u18), (19, u19), (20, u20), (21, u21), (22, u22), (23, u23), (24, u24), (25, u25), (26, u26), (27, u27), (28, u28), (29, u29), (30, u30), (31, u31), (32, u32), (33, u33), (34, u34), (35, u35), (36, u36), (37, u37)]) rfl rfl ⟨⟨HAJ.out.below (below_drew (Below.refl _ _))⟩, ⟨On.of_below (below_drew (Below.refl _ _))⟩, ⟨⟨fun h => absurd h (by decide), fun h => absurd h (by decide)⟩⟩⟩ ?_ ?_
   ·
    refine Steps.cons ?_ (Steps.cons ?_ (Steps.cons ?_ (Steps.cons ?_ (Steps.cons ?_ (Steps.cons ?_ (Steps.cons ?_ (Steps.cons ?_ (Steps.cons ?_ (Steps.cons ?_ (Steps.cons ?_ (Steps.cons ?_ (Steps.cons ?_ (Steps.cons ?_ (Steps.cons ?_ (Steps.cons ?_ (Steps.cons ?_ (Steps.cons ?_ (Steps.cons ?_ (Steps.cons ?_ (Steps.cons ?_ (Steps.cons ?_ (Steps.cons ?_ (Steps.cons ?_ (Steps.nil))))))))))))))))))))))))
    ·
     exact V0 0
    ·
     exact V0 1
    ·
     exact V0 2
    ·
     refine V2 3 1 2 (h := fun LL gg y_ wx hl hLk e1 e2 K hK => ?_)
     obtain ⟨⟨hA, ho, hz⟩⟩ := hl
     have hw := HPW.out
     dsimp only [FA]
     refine wantd (by rfl) ?_
     go_simp
     exact hK.out
    ·
     exact V0 4
    ·
     exact V0 5
    ·
     exact V0 6
    ·
     refine V2 7 5 6 (h := fun LL gg y_ wx hl hLk e5 e6 K hK => ?_)
     obtain ⟨⟨hA, ho, hz⟩⟩ := hl
     have hw := HQW.out
     dsimp only [FA]
     refine wantd (by rfl) ?_
     go_simp
     exact hK.out
    ·
     exact V0 8
    ·
     exact V0 9
    ·
     exact V0 10
    ·
     refine V2 11 9 10 (h := fun LL gg y_ wx hl hLk e9 e10 K hK => ?_)
     obtain ⟨⟨hA, ho, hz⟩⟩ := hl
     have hw := HQW.out
     dsimp only [FA]
     refine wantd (by rfl) ?_
     go_simp
     exact hK.out
    ·
     exact V2 12 8 11
    ·
     refine V1 13 12 (hT := fun _ => rfl) (hR := fun LL gg y_ wx hLk hd ⟨hA, ho, hz⟩ => ⟨hA, ho, ⟨⟨fun h => ⟨rfl, (hz.out.1 h).2⟩, hz.out.2⟩⟩⟩) (h := fun LL gg y_ wx hl hLk e12 K hK => ?_)
     obtain ⟨⟨hA, ho, hz⟩⟩ := hl
     have f21 := flag_off (fun h => (hz.out.1 h).1) hLk
     have f23 := flag_off (fun h => (hz.out.1 (hz.out.2 h)).1) hLk
     have hq : Arr XX wx g E := by have h := hA.out; rw [f23, f21] at h; exact h
     have ck := hq.cell HAD.out q (by have := HEL.out; have := HPQ.out; omega)
     rw [← HXY.out.2] at ck
     dsimp only [FA]
     refine wantd (by rfl) ?_
     go_simp
     exact hK.out
    ·
     exact V0 14
    ·
     exact V0 15
    ·
     exact V0 16
    ·
     refine V2 17 15 16 (h := fun LL gg y_ wx hl hLk e15 e16 K hK => ?_)
     obtain ⟨⟨hA, ho, hz⟩⟩ := hl
     have hw := HPW.out
     dsimp only [FA]
     refine wantd (by rfl) ?_
     go_simp
     exact hK.out
    ·
     exact V2 18 14 17
    ·
     refine V1 19 18 (hT := fun _ => rfl) (hR := fun LL gg y_ wx hLk hd ⟨hA, ho, hz⟩ => ⟨hA, ho, ⟨⟨fun h => ⟨(hz.out.1 h).1, rfl⟩, hz.out.2⟩⟩⟩) (h := fun LL gg y_ wx hl hLk e18 K hK => ?_)
     obtain ⟨⟨hA, ho, hz⟩⟩ := hl
     have f21 := flag_off (fun h => (hz.out.1 h).2) hLk
     have f23 := flag_off (fun h => (hz.out.1 (hz.out.2 h)).2) hLk
     have hq : Arr XX wx g E := by have h := hA.out; rw [f23, f21] at h; exact h
     have ck := hq.cell HAD.out p (by have := HEL.out; have := HPQ.out; omega)
     rw [← HXY.out.1] at ck
     dsimp only [FA]
     refine wantd (by rfl) ?_
     go_simp
     exact hK.out
    ·
     exact V2 20 0 3
    ·
     refine CS (fun _ => rfl) fun LL gg y_ wx hl hLk hd hI K hK => ?_
     obtain ⟨⟨hA, ho, hz⟩⟩ := hl
     have e20 := hI.at 20 rfl (hd 20 rfl)
     have e13 := hI.at 13 rfl (hd 13 rfl)
     have f23 := flag_off (fun h => hz.out.2 h) hLk
     have hq : Arr XX wx g E := by have h := hA.out; rw [f23, hLk] at h; exact h
     have ck := hq.cell HAD.out p (by have := HEL.out; have := HPQ.out; omega)
     have fz := hq.frozen HAD.out p
     dsimp only [FA]
     refine wantd (by rfl) ?_
     go_simp
     exact hK _ _ (sm2 e20 e13) ⟨⟨(show Arr XX _ g (bif LL 23 then _ else (E.set (o + p) y)) by rw [f23]; exact (hq.set HAD.out p y (by have := HEL.out; have := HPQ.out; omega)).1)⟩, ⟨ho.out.trans (hq.set HAD.out p y (by have := HEL.out; have := HPQ.out; omega)).2⟩, ⟨⟨fun _ => ⟨hd 13 rfl, hd 19 rfl⟩, fun _ => rfl⟩⟩⟩
    ·
     exact V2 21 4 7
    ·
     refine CS (fun _ => rfl) fun LL gg y_ wx hl hLk hd hI K hK => ?_
     obtain ⟨⟨hA, ho, hz⟩⟩ := hl
     have e22 := hI.at 21 rfl (hd 22 rfl)
     have e19 := hI.at 19 rfl (hd 19 rfl)
     have hq : Arr XX wx g (E.set (o + p) y) := by have h := hA.out; rw [hLk, hd 21 rfl] at h; exact h
     have ck := hq.cell HAD.out q (by rw [List.length_set]; have := HEL.out; have := HPQ.out; omega)
     have fz := hq.frozen HAD.out q
     dsimp only [FA]
     refine wantd (by rfl) ?_
     go_simp
     exact hK _ _ (sm2 e22 e19) ⟨⟨(hq.set HAD.out q x (by rw [List.length_set]; have := HEL.out; have := HPQ.out; omega)).1⟩, ⟨ho.out.trans (hq.set HAD.out q x (by rw [List.length_set]; have := HEL.out; have := HPQ.out; omega)).2⟩, ⟨⟨hz.out.1, fun _ => hd 21 rfl⟩⟩⟩
   ·
    intro LL gg y_ wq hall hI hl
    obtain ⟨⟨hA, ho, hz⟩⟩ := hl
    dsimp only [FA] at ⊢
    have HA9 : Aside0 (Arr XX wq g (swapN D (o + ia) (o + ib) (j + 1))) := ⟨by rw [HNX.out, swap, ← HXY.out.1, ← HXY.out.2]; have h := hA.out; rw [hall 23 (by decide)] at h; exact h⟩
    have HO9 := Aside0.mk (HOJ.out.trans ho.out)
    clear hI hA ho hz hall
    go_wp2_with fail
    first
     | (refine ⟨⟨j + 1, HPQ.out.2.2.2.2, by rw [HJW.out], HA9, HO9⟩, ?_⟩; rw [HJW.out]; simp only [intOf]; have := HPQ.out; omega)
     | (refine ⟨?_, ?_⟩; · (refine ⟨_, _, _, _, _, _, _, _, _, _, _, _, _, _, _, _, _, _, _, _, _, _, _, _, _, _, _, _, ?_, rfl⟩; exact ⟨j + 1, HPQ.out.2.2.2.2, by rw [HJW.out], HA9, HO9⟩); · (show m - (intOf (.int .i64 (wrap64 ((j : Int) + 1)))).toNat < m - (intOf (.int .i64 (j : Int))).toNat; rw [HJW.out]; simp only [intOf]; have := HPQ.out; omega))
  ·
   have hc1 : ((m : Int) < (m : Int)) = False := eq_false (by omega)
   have hc1n : (m < m) = False := eq_false (by omega)
   obtain rfl : m = j := by omega
   clear hj hlt
   go_wp2
   go_end0
   exact ⟨rfl, HAJ.out, HOJ.out⟩
set_option maxHeartbeats 4000000 in
set_option maxRecDepth 100000 in
theorem rotate_calls (XX : List Value) (g o n c : Nat) (ad : Addr) (had : ad = ⟨g, o, none⟩) (cv : Value) (ia im ib : Nat) (D F : List Int) (w : World) (hA : Arr XX w g D) (hR : Rot F (o + im) D (im - ia) (ib - im)) (h1 : ia < im) (h2 : im < ib) (h3 : ib ≤ n) (hn : o + n ≤ D.length) (hN : n ≤ 1152921504606846975) :
  Calls Try.prog 74 #[.slice (some ad) n c, .int .i64 (ia : Int), .int .i64 (im : Int), .int .i64 (ib : Int), cv] w fun e w' => e = .returned (.tuple #[]) ∧ Arr XX w' g F ∧ On (· = g) w w' := by
 have HA := Aside0.mk hA
 have HR := Aside0.mk hR
 have HB := Aside0.mk (And.intro h1 (And.intro h2 (And.intro h3 (And.intro hn hN))))
 have HAD := Aside0.mk had
 have hw1 : wrap64 ((im : Int) - (ia : Int)) = ((im - ia : Nat) : Int) := by rw [← i64_w]; exact w64n _ _ (by omega) (by omega)
 have hw2 : wrap64 ((ib : Int) - (im : Int)) = ((ib - im : Nat) : Int) := by rw [← i64_w]; exact w64n _ _ (by omega) (by omega)
 obtain ⟨i0, hi0⟩ : ∃ i0 : Nat, i0 = im - ia := ⟨_, rfl⟩
 obtain ⟨j0, hj0⟩ : ∃ j0 : Nat, j0 = ib - im := ⟨_, rfl⟩
 rw [← hi0] at hw1 HR
 rw [← hj0] at hw2 HR
 have HIJ := Aside0.mk (And.intro hi0 hj0)
 clear hA hR h1 h2 h3 hn hN had hi0 hj0
 go_enter Try.func74, Try.ntmps74
 go_wp2_with fail
 try rw [hw1]
 try rw [hw2]
 clear hw1 hw2
 go_loopw [10, 11] (fun vi vj wr => ∃ (i j : Nat) (E : List Int), vi = .int .i64 (i : Int) ∧ vj = .int .i64 (j : Int) ∧ 0 < i ∧ 0 < j ∧ i ≤ i0 ∧ j ≤ j0 ∧ E.length = D.length ∧ Aside0 (Rot F (o + im) E i j) ∧ Aside0 (Arr XX wr g E) ∧ Aside0 (On (· = g) w wr)) (fun vi vj _ => (intOf vi).toNat + (intOf vj).toNat)
 case atStart => exact ⟨i0, j0, D, rfl, rfl, by have := HIJ.out; have := HB.out; omega, by have := HIJ.out; have := HB.out; omega, Nat.le_refl _, Nat.le_refl _, rfl, HR, HA, ⟨On.refl _ _⟩⟩
 case round =>
  obtain ⟨i, j, E, rfl, rfl, hi, hj, hi2, hj2, hEL, HRE, HAE, HOE⟩ := hrel
  have HK := Aside0.mk (And.intro hi (And.intro hj (And.intro hi2 (And.intro hj2 hEL))))
  have hp : wrap64 ((im : Int) - (i : Int)) = ((im - i : Nat) : Int) := by have := HIJ.out; have := HB.out; rw [← i64_w]; exact w64n _ _ (by omega) (by omega)
  obtain ⟨p, hpe⟩ : ∃ p : Nat, p = im - i := ⟨_, rfl⟩
  rw [← hpe] at hp
  have HP : Aside0 (p + i = im ∧ o + p = o + im - i) := ⟨by have := HIJ.out; have := HB.out; omega⟩
  clear hi hj hi2 hj2 hEL hpe
  by_cases hne : i = j
  ·
   obtain rfl := hne
   have c1 : ((i : Int) != (i : Int)) = false := by simp
   go_wp2_with fail
   try rw [hp]
   refine (swapRange_calls XX g o n c ad HAD.out cv p im i E wr HAE.out (by have := HP.out; have := HB.out; omega) (by have := HK.out; have := HIJ.out; have := HB.out; omega) (by have := HK.out; have := HB.out; omega) HB.out.2.2.2.2).mono ?_
   rintro e w9 ⟨rfl, hA9, ho9⟩
   rw [HP.out.2, HRE.out.eq] at hA9
   have HA9 := Aside0.mk hA9
   have HO9 := Aside0.mk (HOE.out.trans ho9)
   clear hA9 ho9 c1 hp
   go_wp2
   go_end0
   exact ⟨rfl, HA9.out, HO9.out⟩
  ·
   have c1 : ((i : Int) != (j : Int)) = true := by rw [bne_iff_ne]; omega
   have c1e : ((i : Int) = (j : Int)) = False := eq_false (by omega)
   have c1n : (i = j) = False := eq_false hne
   by_cases hgt : j < i
   ·
    have c2 : ((j : Int) < (i : Int)) = True := eq_true (by omega)
    have c2n : (j < i) = True := eq_true hgt
    have hs : wrap64 ((i : Int) - (j : Int)) = ((i - j : Nat) : Int) := by have := HK.out; have := HIJ.out; have := HB.out; rw [← i64_w]; exact w64n _ _ (by omega) (by omega)
    have HS := Aside0.mk hs
    have HGT := Aside0.mk hgt
    clear hne hgt hs
    go_wp2_with fail
    try rw [hp]
    refine (swapRange_calls XX g o n c ad HAD.out cv p im j E wr HAE.out (by have := HP.out; have := HB.out; have := HGT.out; omega) (by have := HK.out; have := HIJ.out; have := HB.out; omega) (by have := HK.out; have := HB.out; omega) HB.out.2.2.2.2).mono ?_
    rintro e w9 ⟨rfl, hA9, ho9⟩
    rw [HP.out.2] at hA9
    have HA9 := Aside0.mk hA9
    have HO9 := Aside0.mk (HOE.out.trans ho9)
    have HR9 := Aside0.mk (HRE.out.hi HGT.out)
    clear hA9 ho9 hp
    go_wp2_with fail
    go_roundw
    case rel => exact ⟨i - j, j, _, by rw [HS.out], rfl, by have := HGT.out; omega, HK.out.2.1, by have := HK.out; omega, HK.out.2.2.2.1, by rw [swapN_len]; exact HK.out.2.2.2.2, HR9, HA9, HO9⟩
    case measure => rw [HS.out]; simp only [intOf]; have := HK.out; have := HGT.out; omega
   ·
    have c2 : ((j : Int) < (i : Int)) = False := eq_false (by omega)
    have c2n : (j < i) = False := eq_false hgt
    have hs : wrap64 ((j : Int) - (i : Int)) = ((j - i : Nat) : Int) := by have := HK.out; have := HIJ.out; have := HB.out; rw [← i64_w]; exact w64n _ _ (by omega) (by omega)
    have HS := Aside0.mk hs
    have HGT : Aside0 (i < j) := ⟨by omega⟩
    have hq1 : wrap64 ((im : Int) + (j : Int)) = ((im + j : Nat) : Int) := by have := HK.out; have := HIJ.out; have := HB.out; rw [← i64_w]; exact w64n _ _ (by omega) (by omega)
    obtain ⟨q1, hq1e⟩ : ∃ q1 : Nat, q1 = im + j := ⟨_, rfl⟩
    rw [← hq1e] at hq1
    have hq2 : wrap64 ((q1 : Int) - (i : Int)) = ((q1 - i : Nat) : Int) := by have := HK.out; have := HIJ.out; have := HB.out; rw [← i64_w]; exact w64n _ _ (by omega) (by omega)
    obtain ⟨q2, hq2e⟩ : ∃ q2 : Nat, q2 = q1 - i := ⟨_, rfl⟩
    rw [← hq2e] at hq2
    have HQ : Aside0 (q2 + i = im + j ∧ o + q2 = o + im + j - i) := ⟨by have := HGT.out; omega⟩
    clear hne hgt hs hq1e hq2e
    go_wp2_with fail
    try rw [hp]
    try rw [hq1]
    try rw [hq2]
    refine (swapRange_calls XX g o n c ad HAD.out cv p q2 i E wr HAE.out (by have := HP.out; have := HB.out; have := HGT.out; omega) (by have := HQ.out; have := HK.out; have := HIJ.out; have := HB.out; omega) (by have := HK.out; have := HB.out; omega) HB.out.2.2.2.2).mono ?_
    rintro e w9 ⟨rfl, hA9, ho9⟩
    rw [HP.out.2, HQ.out.2] at hA9
    have HA9 := Aside0.mk hA9
    have HO9 := Aside0.mk (HOE.out.trans ho9)
    have HR9 := Aside0.mk (HRE.out.lo HGT.out)
    clear hA9 ho9 hp hq1 hq2
    go_wp2_with fail
    go_roundw
    case rel => exact ⟨i, j - i, _, rfl, by rw [HS.out], HK.out.1, by have := HGT.out; omega, HK.out.2.2.1, by have := HK.out; omega, by rw [swapN_len]; exact HK.out.2.2.2.2, HR9, HA9, HO9⟩
    case measure => rw [HS.out]; simp only [intOf]; have := HK.out; have := HGT.out; omega
end Go.Proofs.YtfagobhhhljajaaW.PrintSort
/- The stable sort of package slices, further (gensort.py). No condition. -/
namespace Go.Proofs.YtfagobhhhljajaaW.PrintSort
open Go Go.RowKit Go.Proofs.YtfagobhhhljajaaW.PrintWords Go.Proofs.YtfagobhhhljajaaW.PrintLast Go.Proofs.YtfagobhhhljajaaW.PrintMore Go.Proofs.YtfagobhhhljajaaW.PrintReg Go.Proofs.YtfagobhhhljajaaW.PrintTree
set_option linter.unusedVariables false
set_option linter.unusedSimpArgs false
set_option maxHeartbeats 4000000 in
set_option maxRecDepth 100000 in
theorem insort_calls (XX : List Value) (g o n c : Nat) (ad : Addr) (had : ad = ⟨g, o, none⟩) (fc : Nat) (caps : Array Value) (hfc : ∀ args W, (callFunc fc args).run Try.prog W = .ok (.enter fc args) W) (cmpf : Int → Int → Int) (k : Int → Int) (hk : ∀ x y, cmpf x y < 0 ↔ k x < k y) (w0 : World) (HC : ∀ (x y : Int) (W : World), On (· = g) w0 W → Calls Try.prog fc (#[.int .i32 x, .int .i32 y] ++ caps) W fun e w' => e = .returned (.int .i64 (cmpf x y)) ∧ Below W.heap.size W w')
  (ia ib : Nat) (P S Q : List Int) (w : World) (hA : Arr XX w g (P ++ S ++ Q)) (hw0 : On (· = g) w0 w) (hP : P.length = o + ia) (hS : S.length + ia = ib) (hb : ib ≤ n) (hn : o + n ≤ (P ++ S ++ Q).length) (hN : n ≤ 1152921504606846975) :
  Calls Try.prog 72 #[.slice (some ad) n c, .int .i64 (ia : Int), .int .i64 (ib : Int), .func (.func fc) #[] caps] w fun e w' => e = .returned (.tuple #[]) ∧ ∃ S', Arr XX w' g (P ++ S' ++ Q) ∧ St k S S' ∧ On (· = g) w w' := by
 have HA := Aside0.mk hA
 have HB := Aside0.mk (And.intro hP (And.intro hS (And.intro hb (And.intro hn hN))))
 have HAD := Aside0.mk had
 have HCC := Aside0.mk HC
 have HK := Aside0.mk hk
 have HW0 := Aside0.mk hw0
 have hw1 : wrap64 ((ia : Int) + 1) = ((ia + 1 : Nat) : Int) := by rw [← i64_w]; exact w64n _ _ (by omega) (by omega)
 obtain ⟨i1, hi1⟩ : ∃ i1 : Nat, i1 = ia + 1 := ⟨_, rfl⟩
 rw [← hi1] at hw1
 have HI1 := Aside0.mk hi1
 clear hA hP hS hb hn hN had HC hk hw0 hi1
 go_enter Try.func72, Try.ntmps72
 go_wp2_with fail
 try rw [hw1]
 clear hw1
 go_loopw [8] (fun vi wr => ∃ (i : Nat) (M : List Int), vi = .int .i64 (i : Int) ∧ ia + 1 ≤ i ∧ (i ≤ ib ∨ i = ia + 1) ∧ Aside0 (St k (S.take (i - ia)) M) ∧ Aside0 (Arr XX wr g (P ++ M ++ S.drop (i - ia) ++ Q)) ∧ Aside0 (On (· = g) w wr)) (fun vi _ => ib + 1 - (intOf vi).toNat)
 case atStart =>
  refine ⟨i1, S.take 1, rfl, by have := HI1.out; omega, .inr HI1.out, ⟨?_⟩, ⟨?_⟩, ⟨On.refl _ _⟩⟩
  ·
   rw [show i1 - ia = 1 by have := HI1.out; omega]
   refine St.refl ?_
   cases S with
   | nil => exact List.Pairwise.nil
   | cons a S => simp [Srt]
  ·
   rw [show i1 - ia = 1 by have := HI1.out; omega, List.append_assoc P, List.take_append_drop]
   exact HA.out
 case round =>
  obtain ⟨i, M, rfl, hi1, hi2, HSt, HAI, HOI⟩ := hrel
  by_cases hlt : i < ib
  ·
   have hc1 : ((i : Int) < (ib : Int)) = True := eq_true (by omega)
   have hc1n : (i < ib) = True := eq_true hlt
   have HE : Aside0 (i - ia < S.length) := ⟨by have := HB.out; omega⟩
   have HML : Aside0 (M.length = i - ia) := ⟨by rw [HSt.out.len, List.length_take]; have := HE.out; omega⟩
   obtain ⟨x0, hx0⟩ : ∃ x0, x0 = S.getD (i - ia) 0 := ⟨_, rfl⟩
   obtain ⟨T, hT⟩ : ∃ T, T = S.drop (i + 1 - ia) ++ Q := ⟨_, rfl⟩
   have hd : S.drop (i - ia) ++ Q = x0 :: T := by
    rw [drop_cons S (i - ia) HE.out, hT, hx0, show i - ia + 1 = i + 1 - ia by omega]; rfl
   rw [List.append_assoc, hd] at HAI
   have HX0 := Aside0.mk (And.intro hx0 hT)
   have HIL : Aside0 (i < ib ∧ ia + 1 ≤ i) := ⟨hlt, hi1⟩
   have HIW : Aside0 (wrap64 ((i : Int) + 1) = ((i + 1 : Nat) : Int)) := ⟨by rw [← i64_w]; have := HB.out; exact w64n _ _ (by omega) (by omega)⟩
   clear hlt hi1 hi2 hx0 hT hd
   go_wp2_with fail
   go_loopw [9] (fun vj wr => ∃ (j : Nat) (E : List Int), vj = .int .i64 (j : Int) ∧ Aside0 (Ins k P M T x0 (o + j) E) ∧ Aside0 (Arr XX wr g E) ∧ Aside0 (On (· = g) w wr)) (fun vj _ => (intOf vj).toNat)
   case atStart => exact ⟨i, _, rfl, ⟨by have h := Ins.start (k := k) (P := P) (M := M) (T := T) (x := x0); rw [show P.length + M.length = o + i by have := HML.out; have := HB.out; have := HIL.out; omega] at h; exact h⟩, HAI, HOI⟩
   case round =>
    clear HAI HOI
    obtain ⟨j, E, rfl, HIN, HAJ, HOJ⟩ := hrel
    have HIL2 := Aside0.mk HIN.out.len
    have HEL : Aside0 (o + n ≤ E.length) := ⟨by
     have h1 := HIL2.out; have h2 := HB.out.2.2.2.1; have h3 := HB.out
     rw [h1.1, HML.out, HX0.out.2]
     simp only [List.length_append, List.length_drop] at h2 ⊢
     have := HE.out
     omega⟩
    have HJB : Aside0 (ia ≤ j ∧ j ≤ i) := ⟨by have := HIL2.out; have := HB.out; have := HML.out; have := HIL.out; omega⟩
    by_cases hj : ia < j
    ·
     have hj1 : ((ia : Int) < (j : Int)) = True := eq_true (by omega)
     have hj1n : (ia < j) = True := eq_true hj
     obtain ⟨q, hq⟩ : ∃ q : Nat, q = j - 1 := ⟨_, rfl⟩
     have HQW : Aside0 (IntKind.i64.wrap ((j : Int) - 1) = (q : Int)) := ⟨by have := HB.out; have := HJB.out; have := HIL.out; exact w64n _ _ (by omega) (by omega)⟩
     have HQW2 : Aside0 (wrap64 ((j : Int) - 1) = (q : Int)) := ⟨by rw [← i64_w]; exact HQW.out⟩
     have HQJ : Aside0 (q + 1 = j ∧ ia < j ∧ o + q = o + j - 1) := ⟨by omega⟩
     obtain ⟨x, hx⟩ : ∃ x, x = E.getD (o + j) 0 := ⟨_, rfl⟩
     obtain ⟨y, hy⟩ : ∃ y, y = E.getD (o + q) 0 := ⟨_, rfl⟩
     have HXY := Aside0.mk (And.intro hx hy)
     have HXX : Aside0 (x = x0) := ⟨by rw [hx, HIN.out.cur]⟩
     have HBK : Aside0 (o + j < E.length ∧ o + q < E.length) := ⟨by have := HEL.out; have := HB.out; have := HJB.out; have := HIL.out; omega⟩
     have j0 : ((0 : Int) ≤ (j : Int)) = True := eq_true (by omega)
     have j1 : ((j : Int) < (n : Int)) = True := eq_true (by have := HB.out; have := HJB.out; have := HIL.out; omega)
     have j2 : (j < n) = True := eq_true (by have := HB.out; have := HJB.out; have := HIL.out; omega)
     have q0 : ((0 : Int) ≤ (q : Int)) = True := eq_true (by omega)
     have q1 : ((q : Int) < (n : Int)) = True := eq_true (by have := HB.out; have := HJB.out; have := HIL.out; omega)
     have q2 : (q < n) = True := eq_true (by have := HB.out; have := HJB.out; have := HIL.out; omega)
     clear hj hq hx hy
     go_wp2_with fail
     by_cases hc : cmpf x y < 0
     ·
      have HCT : Aside0 ((cmpf x y < 0) = True) := ⟨eq_true hc⟩
      clear hc
      refine wp_reg 17 rfl rfl (by kernel_rfl) (fun z => [.slice (some ad) n c, .int .i64 (ia : Int), .int .i64 (ib : Int), .func (.func fc) #[] caps, undef, undef, undef, undef, .int .i64 (i : Int), .int .i64 (j : Int), .int .i64 (ia : Int), .int .i64 (i1 : Int), .int .i64 (i : Int), .int .i64 (ib : Int), .bool true, u15, u16, .int .i64 (i : Int), z 18, z 19, z 20, z 21, z 22, z 23, z 24, z 25, z 26, z 27, z 28, z 29, z 30, z 31, z 32, z 33, z 34, u35, u36, u37, u38, u39, u40, u41, u42, u43, u44, u45, u46, u47, u48, u49, u50, u51, u52]) (fun (gg : Unit) => [(0, 18, .int .i64 (j : Int)), (1, 19, .int .i64 (ia : Int)), (2, 20, .bool true), (3, 21, .bool true), (4, 22, .func (.func fc) #[] caps), (5, 23, .slice (some ad) n c), (6, 24, .int .i64 (j : Int)), (7, 25, .pointer (some (ad.add j))), (8, 26, .int .i32 x), (9, 27, .slice (some ad) n c), (10, 28, .int .i64 (j : Int)), (11, 29, .int .i64 (q : Int)), (12, 30, .pointer (some (ad.add q))), (13, 31, .int .i32 y), (14, 32, .int .i64 (cmpf x y)), (15, 33, .bool true), (16, 34, .bool true)]) (fun LL gg z wx => Aside0 (Below wr.heap.size wr wx)) () (zz [(18, u18), (19, u19), (20, u20), (21, u21), (22, u22), (23, u23), (24, u24), (25, u25), (26, u26), (27, u27), (28, u28), (29, u29), (30, u30), (31, u31), (32, u32), (33, u33), (34, u34)]) rfl rfl ⟨below_drew (Below.refl _ _)⟩ ?_ ?_
      ·
       refine Steps.cons ?_ (Steps.cons ?_ (Steps.cons ?_ (Steps.cons ?_ (Steps.cons ?_ (Steps.cons ?_ (Steps.cons ?_ (Steps.cons ?_ (Steps.cons ?_ (Steps.cons ?_ (Steps.cons ?_ (Steps.cons ?_ (Steps.cons ?_ (Steps.cons ?_ (Steps.cons ?_ (Steps.cons ?_ (Steps.cons ?_ (Steps.nil)))))))))))))))))
       ·
        exact V0 0
       ·
        exact V0 1
       ·
        exact V2 2 0 1
       ·
        exact V1 3 2
       ·
        exact V1 4 3
       ·
        exact V1 5 3
       ·
        exact V1 6 3
       ·
        exact V3 7 3 5 6
       ·
        refine V2 8 3 7 (h := fun LL gg z wx hl hLk eg e7 K hK => ?_)
        obtain ⟨hb⟩ := hl
        have hq := HAJ.out.below hb.out
        have ck := hq.cell HAD.out j (by have := HBK.out; omega)
        rw [← HXY.out.1] at ck
        dsimp only [FA]
        refine wantd (by rw [eg]; rfl) ?_
        go_simp
        exact hK.out
       ·
        exact V1 9 3
       ·
        exact V1 10 3
       ·
        refine V2 11 3 10 (h := fun LL gg z wx hl hLk eg e10 K hK => ?_)
        obtain ⟨hb⟩ := hl
        have hw := HQW.out
        dsimp only [FA]
        refine wantd (by rw [eg]; rfl) ?_
        go_simp
        exact hK.out
       ·
        exact V3 12 3 9 11
       ·
        refine V2 13 3 12 (h := fun LL gg z wx hl hLk eg e12 K hK => ?_)
        obtain ⟨hb⟩ := hl
        have hq := HAJ.out.below hb.out
        have ck := hq.cell HAD.out q (by have := HBK.out; omega)
        rw [← HXY.out.2] at ck
        dsimp only [FA]
        refine wantd (by rw [eg]; rfl) ?_
        go_simp
        exact hK.out
       ·
        refine CD 14 (fun _ => rfl) (fun _ => rfl) fun LL gg z wx hl hLk hd hI K hK => ?_
        obtain ⟨hb⟩ := hl
        have e4 := hI.at 4 rfl (hd 4 rfl)
        have e8 := hI.at 8 rfl (hd 8 rfl)
        have e13 := hI.at 13 rfl (hd 13 rfl)
        dsimp only [FA]
        have eg := hI.at 3 rfl (hd 3 rfl)
        refine wantd (by rw [eg]; rfl) ?_
        go_simp
        refine (HCC.out x y wx ((HW0.out.trans HOJ.out).trans (On.of_below hb.out))).mono ?_
        rintro e w' ⟨rfl, hb1⟩
        exact hK gg _ _ (sm4 eg e4 e8 e13) rfl rfl ⟨below_step hb.out hb1⟩
       ·
        refine V2 15 3 14 (h := fun LL gg z wx hl hLk eg e14 K hK => ?_)
        obtain ⟨hb⟩ := hl
        have hw := HCT.out
        dsimp only [FA]
        refine wantd (by rw [eg]; rfl) ?_
        go_simp
        exact hK.out
       ·
        exact V2 16 3 15
      ·
       intro LL gg z wc hall hI hl
       obtain ⟨hb⟩ := hl
       have e16 := hI.at 16 rfl (hall 16 (by decide))
       dsimp only [FA] at ⊢
       rw [e16]
       have HBC := hb
       clear hI hb e16 hall
       have HAK := Aside0.mk (HAJ.out.below HBC.out)
       have HOK := Aside0.mk (HOJ.out.trans (On.of_below HBC.out))
       clear HAJ HOJ
       have HAJ := HAK
       go_wp2_with fail
       refine wp_reg 18 rfl rfl (by kernel_rfl) (fun z2 => [.slice (some ad) n c, .int .i64 (ia : Int), .int .i64 (ib : Int), .func (.func fc) #[] caps, undef, undef, undef, undef, .int .i64 (i : Int), .int .i64 (j : Int), .int .i64 (ia : Int), .int .i64 (i1 : Int), .int .i64 (i : Int), .int .i64 (ib : Int), .bool true, u15, u16, .int .i64 (i : Int), z 18, z 19, z 20, z 21, z 22, z 23, z 24, z 25, z 26, z 27, z 28, z 29, z 30, z 31, z 32, z 33, .bool true, u35, u36, z2 37, z2 38, z2 39, z2 40, z2 41, z2 42, z2 43, z2 44, z2 45, z2 46, z2 47, z2 48, z2 49, z2 50, z2 51, z2 52]) (fun (gg : Unit) => [(0, 37, .slice (some ad) n c), (1, 38, .int .i64 (j : Int)), (2, 39, .slice (some ad) n c), (3, 40, .int .i64 (j : Int)), (4, 41, .int .i64 (q : Int)), (5, 42, .slice (some ad) n c), (6, 43, .int .i64 (j : Int)), (7, 44, .int .i64 (q : Int)), (8, 45, .pointer (some (ad.add q))), (9, 46, .int .i32 y), (10, 47, .slice (some ad) n c), (11, 48, .int .i64 (j : Int)), (12, 49, .pointer (some (ad.add j))), (13, 50, .int .i32 x), (14, 51, .pointer (some (ad.add j))), (16, 52, .pointer (some (ad.add q)))]) (fun LL gg z2 wx => Aside0 (Arr XX wx g (bif LL 17 then ((E.set (o + j) y).set (o + q) x) else bif LL 15 then (E.set (o + j) y) else E)) ∧ Aside0 (On (· = g) wc wx) ∧ Aside0 ((LL 15 = true → LL 9 = true ∧ LL 13 = true) ∧ (LL 17 = true → LL 15 = true))) () (zz [(37, u37), (38, u38), (39, u39), (40, u40), (41, u41), (42, u42), (43, u43), (44, u44), (45, u45), (46, u46), (47, u47), (48, u48), (49, u49), (50, u50), (51, u51), (52, u52)]) rfl rfl ⟨⟨HAJ.out.below (below_drew (Below.refl _ _))⟩, ⟨On.of_below (below_drew (Below.refl _ _))⟩, ⟨⟨fun h => absurd h (by decide), fun h => absurd h (by decide)⟩⟩⟩ ?_ ?_
       ·
        refine Steps.cons ?_ (Steps.cons ?_ (Steps.cons ?_ (Steps.cons ?_ (Steps.cons ?_ (Steps.cons ?_ (Steps.cons ?_ (Steps.cons ?_ (Steps.cons ?_ (Steps.cons ?_ (Steps.cons ?_ (Steps.cons ?_ (Steps.cons ?_ (Steps.cons ?_ (Steps.cons ?_ (Steps.cons ?_ (Steps.cons ?_ (Steps.cons ?_ (Steps.nil))))))))))))))))))
        ·
         exact V0 0
        ·
         exact V0 1
        ·
         exact V0 2
        ·
         exact V0 3
        ·
         refine V1 4 3 (h := fun LL gg z2 wx hl hLk e3 K hK => ?_)
         obtain ⟨⟨hA, ho, hz⟩⟩ := hl
         have hw := HQW.out
         dsimp only [FA]
         refine wantd (by rfl) ?_
         go_simp
         exact hK.out
        ·
         exact V0 5
        ·
         exact V0 6
        ·
         refine V1 7 6 (h := fun LL gg z2 wx hl hLk e6 K hK => ?_)
         obtain ⟨⟨hA, ho, hz⟩⟩ := hl
         have hw := HQW.out
         dsimp only [FA]
         refine wantd (by rfl) ?_
         go_simp
         exact hK.out
        ·
         exact V2 8 5 7
        ·
         refine V1 9 8 (hT := fun _ => rfl) (hR := fun LL gg z2 wx hLk hd ⟨hA, ho, hz⟩ => ⟨hA, ho, ⟨⟨fun h => ⟨rfl, (hz.out.1 h).2⟩, hz.out.2⟩⟩⟩) (h := fun LL gg z2 wx hl hLk e8 K hK => ?_)
         obtain ⟨⟨hA, ho, hz⟩⟩ := hl
         have f15 := flag_off (fun h => (hz.out.1 h).1) hLk
         have f17 := flag_off (fun h => (hz.out.1 (hz.out.2 h)).1) hLk
         have hq : Arr XX wx g E := by have h := hA.out; rw [f17, f15] at h; exact h
         have ck := hq.cell HAD.out q (by have := HBK.out; omega)
         rw [← HXY.out.2] at ck
         dsimp only [FA]
         refine wantd (by rfl) ?_
         go_simp
         exact hK.out
        ·
         exact V0 10
        ·
         exact V0 11
        ·
         exact V2 12 10 11
        ·
         refine V1 13 12 (hT := fun _ => rfl) (hR := fun LL gg z2 wx hLk hd ⟨hA, ho, hz⟩ => ⟨hA, ho, ⟨⟨fun h => ⟨(hz.out.1 h).1, rfl⟩, hz.out.2⟩⟩⟩) (h := fun LL gg z2 wx hl hLk e12 K hK => ?_)
         obtain ⟨⟨hA, ho, hz⟩⟩ := hl
         have f15 := flag_off (fun h => (hz.out.1 h).2) hLk
         have f17 := flag_off (fun h => (hz.out.1 (hz.out.2 h)).2) hLk
         have hq : Arr XX wx g E := by have h := hA.out; rw [f17, f15] at h; exact h
         have ck := hq.cell HAD.out j (by have := HBK.out; omega)
         rw [← HXY.out.1] at ck
         dsimp only [FA]
         refine wantd (by rfl) ?_
         go_simp
         exact hK.out
        ·
         exact V2 14 0 1
        ·
         refine CS (fun _ => rfl) fun LL gg z2 wx hl hLk hd hI K hK => ?_
         obtain ⟨⟨hA, ho, hz⟩⟩ := hl
         have e14 := hI.at 14 rfl (hd 14 rfl)
         have e9 := hI.at 9 rfl (hd 9 rfl)
         have f17 := flag_off (fun h => hz.out.2 h) hLk
         have hq : Arr XX wx g E := by have h := hA.out; rw [f17, hLk] at h; exact h
         have ck := hq.cell HAD.out j (by have := HBK.out; omega)
         have fz := hq.frozen HAD.out j
         dsimp only [FA]
         refine wantd (by rfl) ?_
         go_simp
         exact hK _ _ (sm2 e14 e9) ⟨⟨(show Arr XX _ g (bif LL 17 then _ else (E.set (o + j) y)) by rw [f17]; exact (hq.set HAD.out j y (by have := HBK.out; omega)).1)⟩, ⟨ho.out.trans (hq.set HAD.out j y (by have := HBK.out; omega)).2⟩, ⟨⟨fun _ => ⟨hd 9 rfl, hd 13 rfl⟩, fun _ => rfl⟩⟩⟩
        ·
         exact V2 15 2 4
        ·
         refine CS (fun _ => rfl) fun LL gg z2 wx hl hLk hd hI K hK => ?_
         obtain ⟨⟨hA, ho, hz⟩⟩ := hl
         have e16 := hI.at 15 rfl (hd 16 rfl)
         have e13 := hI.at 13 rfl (hd 13 rfl)
         have hq : Arr XX wx g (E.set (o + j) y) := by have h := hA.out; rw [hLk, hd 15 rfl] at h; exact h
         have ck := hq.cell HAD.out q (by rw [List.length_set]; have := HBK.out; omega)
         have fz := hq.frozen HAD.out q
         dsimp only [FA]
         refine wantd (by rfl) ?_
         go_simp
         exact hK _ _ (sm2 e16 e13) ⟨⟨(hq.set HAD.out q x (by rw [List.length_set]; have := HBK.out; omega)).1⟩, ⟨ho.out.trans (hq.set HAD.out q x (by rw [List.length_set]; have := HBK.out; omega)).2⟩, ⟨⟨hz.out.1, fun _ => hd 15 rfl⟩⟩⟩
       ·
        intro LL gg z2 wd hall hI hl
        obtain ⟨⟨hA, ho, hz⟩⟩ := hl
        dsimp only [FA] at ⊢
        have HA9 : Aside0 (Arr XX wd g (swap E (o + j) (o + q))) := ⟨by rw [swap, ← HXY.out.1, ← HXY.out.2]; have h := hA.out; rw [hall 17 (by decide)] at h; exact h⟩
        have HO9 := ho
        clear hI hA ho hz hall
        have HIN9 : Aside0 (Ins k P M T x0 (o + q) (swap E (o + j) (o + q))) := ⟨by rw [HQJ.out.2.2]; refine HIN.out.step (by have := HB.out; have := HQJ.out; omega) ?_; rw [← HQJ.out.2.2, ← HXY.out.2, ← HXX.out]; exact (HK.out x y).1 (of_eq_true HCT.out)⟩
        have HO10 := Aside0.mk (HOK.out.trans HO9.out)
        go_wp2_with fail
        first
         | (refine ⟨⟨q, _, by rw [HQW2.out], HIN9, HA9, HO10⟩, ?_⟩; rw [HQW2.out]; simp only [intOf]; have := HQJ.out; omega)
         | (refine ⟨?_, ?_⟩; · (refine ⟨_, _, _, _, _, _, _, _, _, _, _, _, _, _, _, _, _, _, _, _, _, _, _, _, _, _, _, _, _, _, _, _, _, _, _, _, ?_, rfl⟩; exact ⟨q, _, by rw [HQW2.out], HIN9, HA9, HO10⟩); · (show (intOf (.int .i64 (wrap64 ((j : Int) - 1)))).toNat < (intOf (.int .i64 (j : Int))).toNat; rw [HQW2.out]; simp only [intOf]; have := HQJ.out; omega))
     ·
      have HCF : Aside0 ((cmpf x y < 0) = False) := ⟨eq_false hc⟩
      clear hc
      refine wp_reg 17 rfl rfl (by kernel_rfl) (fun z => [.slice (some ad) n c, .int .i64 (ia : Int), .int .i64 (ib : Int), .func (.func fc) #[] caps, undef, undef, undef, undef, .int .i64 (i : Int), .int .i64 (j : Int), .int .i64 (ia : Int), .int .i64 (i1 : Int), .int .i64 (i : Int), .int .i64 (ib : Int), .bool true, u15, u16, .int .i64 (i : Int), z 18, z 19, z 20, z 21, z 22, z 23, z 24, z 25, z 26, z 27, z 28, z 29, z 30, z 31, z 32, z 33, z 34, u35, u36, u37, u38, u39, u40, u41, u42, u43, u44, u45, u46, u47, u48, u49, u50, u51, u52]) (fun (gg : Unit) => [(0, 18, .int .i64 (j : Int)), (1, 19, .int .i64 (ia : Int)), (2, 20, .bool true), (3, 21, .bool true), (4, 22, .func (.func fc) #[] caps), (5, 23, .slice (some ad) n c), (6, 24, .int .i64 (j : Int)), (7, 25, .pointer (some (ad.add j))), (8, 26, .int .i32 x), (9, 27, .slice (some ad) n c), (10, 28, .int .i64 (j : Int)), (11, 29, .int .i64 (q : Int)), (12, 30, .pointer (some (ad.add q))), (13, 31, .int .i32 y), (14, 32, .int .i64 (cmpf x y)), (15, 33, .bool false), (16, 34, .bool false)]) (fun LL gg z wx => Aside0 (Below wr.heap.size wr wx)) () (zz [(18, u18), (19, u19), (20, u20), (21, u21), (22, u22), (23, u23), (24, u24), (25, u25), (26, u26), (27, u27), (28, u28), (29, u29), (30, u30), (31, u31), (32, u32), (33, u33), (34, u34)]) rfl rfl ⟨below_drew (Below.refl _ _)⟩ ?_ ?_
      ·
       refine Steps.cons ?_ (Steps.cons ?_ (Steps.cons ?_ (Steps.cons ?_ (Steps.cons ?_ (Steps.cons ?_ (Steps.cons ?_ (Steps.cons ?_ (Steps.cons ?_ (Steps.cons ?_ (Steps.cons ?_ (Steps.cons ?_ (Steps.cons ?_ (Steps.cons ?_ (Steps.cons ?_ (Steps.cons ?_ (Steps.cons ?_ (Steps.nil)))))))))))))))))
       ·
        exact V0 0
       ·
        exact V0 1
       ·
        exact V2 2 0 1
       ·
        exact V1 3 2
       ·
        exact V1 4 3
       ·
        exact V1 5 3
       ·
        exact V1 6 3
       ·
        exact V3 7 3 5 6
       ·
        refine V2 8 3 7 (h := fun LL gg z wx hl hLk eg e7 K hK => ?_)
        obtain ⟨hb⟩ := hl
        have hq := HAJ.out.below hb.out
        have ck := hq.cell HAD.out j (by have := HBK.out; omega)
        rw [← HXY.out.1] at ck
        dsimp only [FA]
        refine wantd (by rw [eg]; rfl) ?_
        go_simp
        exact hK.out
       ·
        exact V1 9 3
       ·
        exact V1 10 3
       ·
        refine V2 11 3 10 (h := fun LL gg z wx hl hLk eg e10 K hK => ?_)
        obtain ⟨hb⟩ := hl
        have hw := HQW.out
        dsimp only [FA]
        refine wantd (by rw [eg]; rfl) ?_
        go_simp
        exact hK.out
       ·
        exact V3 12 3 9 11
       ·
        refine V2 13 3 12 (h := fun LL gg z wx hl hLk eg e12 K hK => ?_)
        obtain ⟨hb⟩ := hl
        have hq := HAJ.out.below hb.out
        have ck := hq.cell HAD.out q (by have := HBK.out; omega)
        rw [← HXY.out.2] at ck
        dsimp only [FA]
        refine wantd (by rw [eg]; rfl) ?_
        go_simp
        exact hK.out
       ·
        refine CD 14 (fun _ => rfl) (fun _ => rfl) fun LL gg z wx hl hLk hd hI K hK => ?_
        obtain ⟨hb⟩ := hl
        have e4 := hI.at 4 rfl (hd 4 rfl)
        have e8 := hI.at 8 rfl (hd 8 rfl)
        have e13 := hI.at 13 rfl (hd 13 rfl)
        dsimp only [FA]
        have eg := hI.at 3 rfl (hd 3 rfl)
        refine wantd (by rw [eg]; rfl) ?_
        go_simp
        refine (HCC.out x y wx ((HW0.out.trans HOJ.out).trans (On.of_below hb.out))).mono ?_
        rintro e w' ⟨rfl, hb1⟩
        exact hK gg _ _ (sm4 eg e4 e8 e13) rfl rfl ⟨below_step hb.out hb1⟩
       ·
        refine V2 15 3 14 (h := fun LL gg z wx hl hLk eg e14 K hK => ?_)
        obtain ⟨hb⟩ := hl
        have hw := HCF.out
        dsimp only [FA]
        refine wantd (by rw [eg]; rfl) ?_
        go_simp
        exact hK.out
       ·
        exact V2 16 3 15
      ·
       intro LL gg z wc hall hI hl
       obtain ⟨hb⟩ := hl
       have e16 := hI.at 16 rfl (hall 16 (by decide))
       dsimp only [FA] at ⊢
       rw [e16]
       have HBC := hb
       clear hI hb e16 hall
       have HAK := Aside0.mk (HAJ.out.below HBC.out)
       have HOK := Aside0.mk (HOJ.out.trans (On.of_below HBC.out))
       obtain ⟨M', hE', hSt'⟩ := HIN.out.done HSt.out.1 (.inr (by rw [← HQJ.out.2.2, ← HXY.out.2, ← HXX.out]; exact fun h => (of_eq_false HCF.out) ((HK.out x y).2 h)))
       have HSN : Aside0 (St k (S.take (i + 1 - ia)) M') := ⟨by rw [show i + 1 - ia = i - ia + 1 by have := HIL.out; omega, take_snoc S (i - ia) HE.out, ← HX0.out.1]; exact St.trans (fun c => by simp only [List.filter_append, HSt.out.2]) hSt'⟩
       have HAN : Aside0 (Arr XX wc g (P ++ M' ++ S.drop (i + 1 - ia) ++ Q)) := ⟨by have h := HAK.out; rw [hE', HX0.out.2] at h; simpa [List.append_assoc] using h⟩
       clear hE' hSt'
       go_wp2_with fail
       first
        | (refine ⟨⟨i + 1, M', by rw [HIW.out], by have := HIL.out; omega, .inl (by have := HIL.out; omega), HSN, HAN, HOK⟩, ?_⟩; rw [HIW.out]; simp only [intOf]; have := HIL.out; omega)
        | (refine ⟨?_, ?_⟩; · (refine ⟨_, _, _, _, _, _, _, _, _, _, _, _, _, _, _, _, _, _, _, _, _, _, _, _, _, _, _, _, _, _, _, _, _, _, _, _, _, _, _, _, _, _, _, _, _, _, _, _, _, _, _, _, _, _, _, _, _, _, _, _, _, _, _, _, _, _, _, _, _, _, _, _, _, _, _, _, _, _, _, _, _, _, _, _, _, _, _, _, _, _, _, _, _, _, _, _, _, _, _, ?_, rfl⟩; exact ⟨i + 1, M', by rw [HIW.out], by have := HIL.out; omega, .inl (by have := HIL.out; omega), HSN, HAN, HOK⟩); · (rw [HIW.out]; simp only [intOf]; have := HIL.out; omega))
    ·
     have hj1 : ((ia : Int) < (j : Int)) = False := eq_false (by omega)
     have hj1n : (ia < j) = False := eq_false hj
     have HJE : Aside0 (j = ia) := ⟨by have := HJB.out; omega⟩
     clear hj
     go_wp2_with fail
     refine wp_reg 17 rfl rfl (by kernel_rfl) (fun z => [.slice (some ad) n c, .int .i64 (ia : Int), .int .i64 (ib : Int), .func (.func fc) #[] caps, undef, undef, undef, undef, .int .i64 (i : Int), .int .i64 (j : Int), .int .i64 (ia : Int), .int .i64 (i1 : Int), .int .i64 (i : Int), .int .i64 (ib : Int), .bool true, u15, u16, .int .i64 (i : Int), z 18, z 19, z 20, z 21, z 22, z 23, z 24, z 25, z 26, z 27, z 28, z 29, z 30, z 31, z 32, z 33, z 34, u35, u36, u37, u38, u39, u40, u41, u42, u43, u44, u45, u46, u47, u48, u49, u50, u51, u52]) (fun (gg : Unit) => [(0, 18, .int .i64 (j : Int)), (1, 19, .int .i64 (ia : Int)), (2, 20, .bool false), (3, 21, .bool false), (4, 22, undef), (5, 23, undef), (6, 24, undef), (7, 25, undef), (8, 26, undef), (9, 27, undef), (10, 28, undef), (11, 29, undef), (12, 30, undef), (13, 31, undef), (14, 32, undef), (15, 33, undef), (16, 34, .bool false)]) (fun LL gg z wx => Aside0 (Below wr.heap.size wr wx)) () (zz [(18, u18), (19, u19), (20, u20), (21, u21), (22, u22), (23, u23), (24, u24), (25, u25), (26, u26), (27, u27), (28, u28), (29, u29), (30, u30), (31, u31), (32, u32), (33, u33), (34, u34)]) rfl rfl ⟨below_drew (Below.refl _ _)⟩ ?_ ?_
     ·
      refine Steps.cons ?_ (Steps.cons ?_ (Steps.cons ?_ (Steps.cons ?_ (Steps.cons ?_ (Steps.cons ?_ (Steps.cons ?_ (Steps.cons ?_ (Steps.cons ?_ (Steps.cons ?_ (Steps.cons ?_ (Steps.cons ?_ (Steps.cons ?_ (Steps.cons ?_ (Steps.cons ?_ (Steps.cons ?_ (Steps.cons ?_ (Steps.nil)))))))))))))))))
      ·
       exact V0 0
      ·
       exact V0 1
      ·
       exact V2 2 0 1
      ·
       exact V1 3 2
      ·
       exact U1 4 3
      ·
       exact U1 5 3
      ·
       exact U1 6 3
      ·
       exact U1 7 3
      ·
       exact U1 8 3
      ·
       exact U1 9 3
      ·
       exact U1 10 3
      ·
       exact U1 11 3
      ·
       exact U1 12 3
      ·
       exact U1 13 3
      ·
       exact U1 14 3
      ·
       exact U1 15 3
      ·
       exact V1 16 3
     ·
      intro LL gg z wc hall hI hl
      obtain ⟨hb⟩ := hl
      have e16 := hI.at 16 rfl (hall 16 (by decide))
      dsimp only [FA] at ⊢
      rw [e16]
      have HBC := hb
      clear hI hb e16 hall
      have HAK := Aside0.mk (HAJ.out.below HBC.out)
      have HOK := Aside0.mk (HOJ.out.trans (On.of_below HBC.out))
      obtain ⟨M', hE', hSt'⟩ := HIN.out.done HSt.out.1 (.inl (by have := HB.out; have := HJE.out; omega))
      have HSN : Aside0 (St k (S.take (i + 1 - ia)) M') := ⟨by rw [show i + 1 - ia = i - ia + 1 by have := HIL.out; omega, take_snoc S (i - ia) HE.out, ← HX0.out.1]; exact St.trans (fun c => by simp only [List.filter_append, HSt.out.2]) hSt'⟩
      have HAN : Aside0 (Arr XX wc g (P ++ M' ++ S.drop (i + 1 - ia) ++ Q)) := ⟨by have h := HAK.out; rw [hE', HX0.out.2] at h; simpa [List.append_assoc] using h⟩
      clear hE' hSt'
      go_wp2_with fail
      first
       | (refine ⟨⟨i + 1, M', by rw [HIW.out], by have := HIL.out; omega, .inl (by have := HIL.out; omega), HSN, HAN, HOK⟩, ?_⟩; rw [HIW.out]; simp only [intOf]; have := HIL.out; omega)
       | (refine ⟨?_, ?_⟩; · (refine ⟨_, _, _, _, _, _, _, _, _, _, _, _, _, _, _, _, _, _, _, _, _, _, _, _, _, _, _, _, _, _, _, _, _, _, _, _, _, _, _, _, _, _, _, _, _, _, _, _, _, _, _, _, _, _, _, _, _, _, _, _, _, _, _, _, _, _, _, _, _, _, _, _, _, _, _, _, _, _, _, _, _, _, _, _, _, _, _, _, _, _, _, _, _, _, _, _, _, _, _, ?_, rfl⟩; exact ⟨i + 1, M', by rw [HIW.out], by have := HIL.out; omega, .inl (by have := HIL.out; omega), HSN, HAN, HOK⟩); · (rw [HIW.out]; simp only [intOf]; have := HIL.out; omega))
  ·
   have hc1 : ((i : Int) < (ib : Int)) = False := eq_false (by omega)
   have hc1n : (i < ib) = False := eq_false hlt
   have hle : S.length ≤ i - ia := by have := HB.out; omega
   rw [List.take_of_length_le hle] at HSt
   rw [List.drop_of_length_le hle, List.append_nil] at HAI
   clear hlt hi1 hi2 hle
   go_wp2
   go_end0
   exact ⟨rfl, M, HAI.out, HSt.out, HOI.out⟩
end Go.Proofs.YtfagobhhhljajaaW.PrintSort
/- The stable sort of package slices, the merge (gensort.py). No condition. -/
namespace Go.Proofs.YtfagobhhhljajaaW.PrintSort
open Go Go.RowKit Go.Proofs.YtfagobhhhljajaaW.PrintWords Go.Proofs.YtfagobhhhljajaaW.PrintLast Go.Proofs.YtfagobhhhljajaaW.PrintMore Go.Proofs.YtfagobhhhljajaaW.PrintReg Go.Proofs.YtfagobhhhljajaaW.PrintTree
set_option linter.unusedVariables false
set_option linter.unusedSimpArgs false
set_option maxHeartbeats 4000000 in
set_option maxRecDepth 100000 in
theorem symleft_calls (XX : List Value) (g o n c : Nat) (ad : Addr) (had : ad = ⟨g, o, none⟩) (fc : Nat) (caps : Array Value) (hfc : ∀ args W, (callFunc fc args).run Try.prog W = .ok (.enter fc args) W) (cmpf : Int → Int → Int) (k : Int → Int) (hk : ∀ x y, cmpf x y < 0 ↔ k x < k y) (w0 : World) (HC : ∀ (x y : Int) (W : World), On (· = g) w0 W → Calls Try.prog fc (#[.int .i32 x, .int .i32 y] ++ caps) W fun e w' => e = .returned (.int .i64 (cmpf x y)) ∧ Below W.heap.size W w')
  (ia im ib : Nat) (x0 : Int) (P R Q : List Int) (w : World) (hA : Arr XX w g (P ++ [x0] ++ R ++ Q)) (hw0 : On (· = g) w0 w) (hP : P.length = o + ia) (hL : ia + 1 = im) (hR : im + R.length = ib) (hS : Srt k R) (hb : ib ≤ n) (hn : o + n ≤ (P ++ [x0] ++ R ++ Q).length) (hN : n ≤ 1152921504606846975) :
  Calls Try.prog 73 #[.slice (some ad) n c, .int .i64 (ia : Int), .int .i64 (im : Int), .int .i64 (ib : Int), .func (.func fc) #[] caps] w fun e w' => e = .returned (.tuple #[]) ∧ ∃ M, Arr XX w' g (P ++ M ++ Q) ∧ St k ([x0] ++ R) M ∧ On (· = g) w w' := by
 obtain ⟨D, hD⟩ : ∃ D, D = P ++ [x0] ++ R ++ Q := ⟨_, rfl⟩
 rw [← hD] at hA hn
 have HA := Aside0.mk hA
 have HD := Aside0.mk hD
 have HAD := Aside0.mk had
 have HCC := Aside0.mk HC
 have HK := Aside0.mk hk
 have HW0 := Aside0.mk hw0
 have HB := Aside0.mk (And.intro hP (And.intro hL (And.intro hR (And.intro hb (And.intro hn hN)))))
 have HS := Aside0.mk hS
 have hw1 : wrap64 ((im : Int) - (ia : Int)) = 1 := by unfold wrap64; omega
 have HX0 : Aside0 (x0 = D.getD (o + ia) 0) := ⟨by rw [hD, ← hP]; simp [List.getD_eq_getElem?_getD]⟩
 have HT : Aside0 (∀ s, s < R.length → (cmpf (D.getD (o + (im + s)) 0) x0 < 0 ↔ k (R.getD s 0) < k x0)) := ⟨fun s hs => by
  rw [hk, hD]
  have := at_behind P [x0] R Q s hs
  rw [List.length_singleton, show P.length + 1 + s = o + (im + s) by omega] at this
  rw [this]⟩
 clear hA hD had HC hk hw0 hP hL hR hS hb hn hN
 go_enter Try.func73, Try.ntmps73
 go_wp2_with fail
 rw [hw1]
 clear hw1
 go_loopw [10, 11] (fun vi vj wr => ∃ i j : Nat, vi = .int .i64 (i : Int) ∧ vj = .int .i64 (j : Int) ∧ Aside0 (Bis (fun h => cmpf (D.getD (o + h) 0) x0 < 0) im ib i j) ∧ Aside0 (Arr XX wr g D) ∧ Aside0 (On (· = g) w wr)) (fun vi vj _ => (intOf vj).toNat - (intOf vi).toNat)
 case atStart => exact ⟨im, ib, rfl, rfl, ⟨Bis.start (by have := HB.out; omega)⟩, HA, ⟨On.refl _ _⟩⟩
 case round =>
  obtain ⟨i, j, rfl, rfl, HBS, HAJ, HOJ⟩ := hrel
  have HIJ : Aside0 (im ≤ i ∧ i ≤ j ∧ j ≤ ib) := ⟨HBS.out.1, HBS.out.2.1, HBS.out.2.2.1⟩
  have HJN : Aside0 (j ≤ n ∧ o + n ≤ D.length ∧ n ≤ 1152921504606846975) := ⟨by have := HB.out; have := HIJ.out; omega⟩
  by_cases hlt : i < j
  ·
   have hc1 : ((i : Int) < (j : Int)) = True := eq_true (by omega)
   have hc1n : (i < j) = True := eq_true hlt
   obtain ⟨s, hs⟩ : ∃ s : Nat, s = i + j := ⟨_, rfl⟩
   obtain ⟨h, hh⟩ : ∃ h : Nat, h = s / 2 := ⟨_, rfl⟩
   have hsw : wrap64 ((i : Int) + (j : Int)) = (s : Int) := by have := HJN.out; unfold wrap64; omega
   have hsm : (s : Int) % 18446744073709551616 = (s : Int) := by have := HJN.out; omega
   have HHD : Aside0 ((s : Int) / 2 = (h : Int)) := ⟨by omega⟩
   have HH : Aside0 (i ≤ h ∧ h < j) := ⟨by omega⟩
   have HHW : Aside0 (wrap64 ((h : Int) + 1) = ((h + 1 : Nat) : Int)) := ⟨by rw [← i64_w]; have := HJN.out; have := HH.out; exact w64n _ _ (by omega) (by omega)⟩
   have h0 : ((0 : Int) ≤ (h : Int)) = True := eq_true (by omega)
   have h1 : ((h : Int) < (n : Int)) = True := eq_true (by have := HJN.out; have := HH.out; omega)
   have h2 : (h < n) = True := eq_true (by have := HJN.out; have := HH.out; omega)
   obtain ⟨x, hx⟩ : ∃ x, x = D.getD (o + h) 0 := ⟨_, rfl⟩
   obtain ⟨y, hy⟩ : ∃ y, y = D.getD (o + ia) 0 := ⟨_, rfl⟩
   have HXY := Aside0.mk (And.intro hx hy)
   have HXB : Aside0 (o + h < D.length ∧ o + ia < D.length) := ⟨by have := HJN.out; have := HH.out; have := HB.out; have := HIJ.out; omega⟩
   have HYX : Aside0 (y = x0) := ⟨by rw [hy, HX0.out]⟩
   have a0 : ((0 : Int) ≤ (ia : Int)) = True := eq_true (by omega)
   have a1 : ((ia : Int) < (n : Int)) = True := eq_true (by have := HJN.out; have := HB.out; have := HIJ.out; omega)
   have a2 : (ia < n) = True := eq_true (by have := HJN.out; have := HB.out; have := HIJ.out; omega)
   clear hx hy
   clear hlt hs hh
   go_wp2_with fail
   rw [HHD.out]
   try rw [hsw]
   clear hsw hsm hc1 hc1n
   by_cases hc : cmpf x y < 0
   ·
    have HCT : Aside0 ((cmpf x y < 0) = True) := ⟨eq_true hc⟩
    clear hc
    refine wp_reg 11 rfl rfl (by kernel_rfl) (fun z => [.slice (some ad) n c, .int .i64 (ia : Int), .int .i64 (im : Int), .int .i64 (ib : Int), .func (.func fc) #[] caps, undef, undef, undef, undef, undef, .int .i64 (i : Int), .int .i64 (j : Int), .int .i64 (h : Int), undef, undef, undef, undef, undef, undef, undef, undef, undef, undef, undef, undef, .int .i64 (im : Int), .int .i64 (ia : Int), .int .i64 1, .bool true, .int .i64 (im : Int), .int .i64 (ib : Int), .int .i64 (i : Int), .int .i64 (j : Int), .bool true, .int .i64 (i : Int), .int .i64 (j : Int), .int .i64 (s : Int), .int .u64 (s : Int), .int .u64 (h : Int), .int .i64 (h : Int), z 40, z 41, z 42, z 43, z 44, z 45, z 46, z 47, z 48, z 49, z 50, u51, u52, u53, undef, undef, undef, undef, undef, undef, undef, undef, undef, undef, undef, undef, undef, undef, undef, undef, undef, undef, undef, undef, undef, undef, undef, undef, undef, undef, undef, undef, undef, undef, undef, undef, undef, undef, undef, undef, undef, undef, undef, undef, undef, undef, undef, undef, undef, undef, undef, undef, undef, undef, undef, undef, undef, undef, undef, undef, undef, undef, undef, undef, undef, undef, undef, undef, undef, undef, undef, undef, undef, undef, undef, undef, undef, undef, undef, undef, undef, undef, undef, undef, undef, undef, undef, undef, undef, undef, undef, undef, undef, undef, undef, undef, undef, undef, undef, undef, undef, undef, undef, undef, undef, undef, undef, undef, undef, undef, undef, undef, undef, undef, undef, undef, undef, undef, undef, undef, undef, undef, undef, undef, undef, undef, undef, undef, undef, undef, undef, undef, undef, undef, undef, undef, undef, undef, undef, undef, undef, undef, undef, undef, undef, undef, undef, undef, undef, undef, undef, undef, undef, undef, undef, undef, undef, undef, undef, undef, undef, undef, undef, undef, undef, undef, undef, undef, undef, undef]) (fun (gg : Unit) => [(0, 40, .func (.func fc) #[] caps), (1, 41, .slice (some ad) n c), (2, 42, .int .i64 (h : Int)), (3, 43, .pointer (some (ad.add h))), (4, 44, .int .i32 x), (5, 45, .slice (some ad) n c), (6, 46, .int .i64 (ia : Int)), (7, 47, .pointer (some (ad.add ia))), (8, 48, .int .i32 y), (9, 49, .int .i64 (cmpf x y)), (10, 50, .bool true)]) (fun LL gg z wx => Aside0 (Below wr.heap.size wr wx)) () (zz [(40, u40), (41, u41), (42, u42), (43, u43), (44, u44), (45, u45), (46, u46), (47, u47), (48, u48), (49, u49), (50, u50)]) rfl rfl ⟨below_drew (Below.refl _ _)⟩ ?_ ?_
    ·
     refine Steps.cons ?_ (Steps.cons ?_ (Steps.cons ?_ (Steps.cons ?_ (Steps.cons ?_ (Steps.cons ?_ (Steps.cons ?_ (Steps.cons ?_ (Steps.cons ?_ (Steps.cons ?_ (Steps.cons ?_ (Steps.nil)))))))))))
     ·
      exact V0 0
     ·
      exact V0 1
     ·
      exact V0 2
     ·
      exact V2 3 1 2
     ·
      refine V1 4 3 (h := fun LL gg z wx hl hLk e3 K hK => ?_)
      obtain ⟨hb⟩ := hl
      have hq := HAJ.out.below hb.out
      have ck := hq.cell HAD.out h (by have := HXB.out; omega)
      rw [← HXY.out.1] at ck
      dsimp only [FA]
      refine wantd (by rfl) ?_
      go_simp
      exact hK.out
     ·
      exact V0 5
     ·
      exact V0 6
     ·
      exact V2 7 5 6
     ·
      refine V1 8 7 (h := fun LL gg z wx hl hLk e7 K hK => ?_)
      obtain ⟨hb⟩ := hl
      have hq := HAJ.out.below hb.out
      have ck := hq.cell HAD.out ia (by have := HXB.out; omega)
      rw [← HXY.out.2] at ck
      dsimp only [FA]
      refine wantd (by rfl) ?_
      go_simp
      exact hK.out
     ·
      refine CD 9 (fun _ => rfl) (fun _ => rfl) fun LL gg z wx hl hLk hd hI K hK => ?_
      obtain ⟨hb⟩ := hl
      have e0 := hI.at 0 rfl (hd 0 rfl)
      have e4 := hI.at 4 rfl (hd 4 rfl)
      have e8 := hI.at 8 rfl (hd 8 rfl)
      dsimp only [FA]
      refine wantd (by rfl) ?_
      go_simp
      refine (HCC.out x y wx ((HW0.out.trans HOJ.out).trans (On.of_below hb.out))).mono ?_
      rintro e w' ⟨rfl, hb1⟩
      exact hK gg _ _ (sm3 e0 e4 e8) rfl rfl ⟨below_step hb.out hb1⟩
     ·
      refine V1 10 9 (h := fun LL gg z wx hl hLk e9 K hK => ?_)
      obtain ⟨hb⟩ := hl
      have hw := HCT.out
      dsimp only [FA]
      refine wantd (by rfl) ?_
      go_simp
      exact hK.out
    ·
     intro LL gg z wc hall hI hl
     obtain ⟨hb⟩ := hl
     have e10 := hI.at 10 rfl (hall 10 (by decide))
     dsimp only [FA] at ⊢
     rw [e10]
     have HBC := hb
     clear hI hb e10 hall
     have HAK := Aside0.mk (HAJ.out.below HBC.out)
     have HOK := Aside0.mk (HOJ.out.trans (On.of_below HBC.out))
     clear HAJ HOJ
     go_wp2_with fail
     first
      | (refine ⟨⟨h + 1, j, by rw [HHW.out], rfl, ⟨HBS.out.up HH.out.1 HH.out.2 (by have h := of_eq_true HCT.out; rw [HXY.out.1, HYX.out] at h; exact h)⟩, HAK, HOK⟩, ?_⟩; rw [HHW.out]; simp only [intOf]; have := HH.out; omega)
      | (refine ⟨?_, ?_⟩; · (refine ⟨_, _, _, _, _, _, _, _, _, _, _, _, _, _, _, _, _, _, _, _, _, _, _, _, _, _, _, _, _, _, _, _, _, _, _, _, _, _, _, _, _, _, _, _, _, _, _, _, _, _, _, _, _, _, _, _, _, _, _, _, _, _, _, _, _, _, _, _, _, _, _, _, _, _, _, _, _, _, _, _, _, _, _, _, _, _, _, _, _, _, _, _, _, _, _, _, _, _, _, ?_, rfl⟩; exact ⟨h + 1, j, by rw [HHW.out], rfl, ⟨HBS.out.up HH.out.1 HH.out.2 (by have h := of_eq_true HCT.out; rw [HXY.out.1, HYX.out] at h; exact h)⟩, HAK, HOK⟩); · (show (intOf (.int .i64 (j : Int))).toNat - (intOf (.int .i64 (wrap64 ((h : Int) + 1)))).toNat < (intOf (.int .i64 (j : Int))).toNat - (intOf (.int .i64 (i : Int))).toNat; rw [HHW.out]; simp only [intOf]; have := HH.out; omega))
   ·
    have HCF : Aside0 ((cmpf x y < 0) = False) := ⟨eq_false hc⟩
    clear hc
    refine wp_reg 11 rfl rfl (by kernel_rfl) (fun z => [.slice (some ad) n c, .int .i64 (ia : Int), .int .i64 (im : Int), .int .i64 (ib : Int), .func (.func fc) #[] caps, undef, undef, undef, undef, undef, .int .i64 (i : Int), .int .i64 (j : Int), .int .i64 (h : Int), undef, undef, undef, undef, undef, undef, undef, undef, undef, undef, undef, undef, .int .i64 (im : Int), .int .i64 (ia : Int), .int .i64 1, .bool true, .int .i64 (im : Int), .int .i64 (ib : Int), .int .i64 (i : Int), .int .i64 (j : Int), .bool true, .int .i64 (i : Int), .int .i64 (j : Int), .int .i64 (s : Int), .int .u64 (s : Int), .int .u64 (h : Int), .int .i64 (h : Int), z 40, z 41, z 42, z 43, z 44, z 45, z 46, z 47, z 48, z 49, z 50, u51, u52, u53, undef, undef, undef, undef, undef, undef, undef, undef, undef, undef, undef, undef, undef, undef, undef, undef, undef, undef, undef, undef, undef, undef, undef, undef, undef, undef, undef, undef, undef, undef, undef, undef, undef, undef, undef, undef, undef, undef, undef, undef, undef, undef, undef, undef, undef, undef, undef, undef, undef, undef, undef, undef, undef, undef, undef, undef, undef, undef, undef, undef, undef, undef, undef, undef, undef, undef, undef, undef, undef, undef, undef, undef, undef, undef, undef, undef, undef, undef, undef, undef, undef, undef, undef, undef, undef, undef, undef, undef, undef, undef, undef, undef, undef, undef, undef, undef, undef, undef, undef, undef, undef, undef, undef, undef, undef, undef, undef, undef, undef, undef, undef, undef, undef, undef, undef, undef, undef, undef, undef, undef, undef, undef, undef, undef, undef, undef, undef, undef, undef, undef, undef, undef, undef, undef, undef, undef, undef, undef, undef, undef, undef, undef, undef, undef, undef, undef, undef, undef, undef, undef, undef, undef, undef, undef, undef, undef, undef, undef, undef, undef, undef, undef, undef, undef, undef, undef]) (fun (gg : Unit) => [(0, 40, .func (.func fc) #[] caps), (1, 41, .slice (some ad) n c), (2, 42, .int .i64 (h : Int)), (3, 43, .pointer (some (ad.add h))), (4, 44, .int .i32 x), (5, 45, .slice (some ad) n c), (6, 46, .int .i64 (ia : Int)), (7, 47, .pointer (some (ad.add ia))), (8, 48, .int .i32 y), (9, 49, .int .i64 (cmpf x y)), (10, 50, .bool false)]) (fun LL gg z wx => Aside0 (Below wr.heap.size wr wx)) () (zz [(40, u40), (41, u41), (42, u42), (43, u43), (44, u44), (45, u45), (46, u46), (47, u47), (48, u48), (49, u49), (50, u50)]) rfl rfl ⟨below_drew (Below.refl _ _)⟩ ?_ ?_
    ·
     refine Steps.cons ?_ (Steps.cons ?_ (Steps.cons ?_ (Steps.cons ?_ (Steps.cons ?_ (Steps.cons ?_ (Steps.cons ?_ (Steps.cons ?_ (Steps.cons ?_ (Steps.cons ?_ (Steps.cons ?_ (Steps.nil)))))))))))
     ·
      exact V0 0
     ·
      exact V0 1
     ·
      exact V0 2
     ·
      exact V2 3 1 2
     ·
      refine V1 4 3 (h := fun LL gg z wx hl hLk e3 K hK => ?_)
      obtain ⟨hb⟩ := hl
      have hq := HAJ.out.below hb.out
      have ck := hq.cell HAD.out h (by have := HXB.out; omega)
      rw [← HXY.out.1] at ck
      dsimp only [FA]
      refine wantd (by rfl) ?_
      go_simp
      exact hK.out
     ·
      exact V0 5
     ·
      exact V0 6
     ·
      exact V2 7 5 6
     ·
      refine V1 8 7 (h := fun LL gg z wx hl hLk e7 K hK => ?_)
      obtain ⟨hb⟩ := hl
      have hq := HAJ.out.below hb.out
      have ck := hq.cell HAD.out ia (by have := HXB.out; omega)
      rw [← HXY.out.2] at ck
      dsimp only [FA]
      refine wantd (by rfl) ?_
      go_simp
      exact hK.out
     ·
      refine CD 9 (fun _ => rfl) (fun _ => rfl) fun LL gg z wx hl hLk hd hI K hK => ?_
      obtain ⟨hb⟩ := hl
      have e0 := hI.at 0 rfl (hd 0 rfl)
      have e4 := hI.at 4 rfl (hd 4 rfl)
      have e8 := hI.at 8 rfl (hd 8 rfl)
      dsimp only [FA]
      refine wantd (by rfl) ?_
      go_simp
      refine (HCC.out x y wx ((HW0.out.trans HOJ.out).trans (On.of_below hb.out))).mono ?_
      rintro e w' ⟨rfl, hb1⟩
      exact hK gg _ _ (sm3 e0 e4 e8) rfl rfl ⟨below_step hb.out hb1⟩
     ·
      refine V1 10 9 (h := fun LL gg z wx hl hLk e9 K hK => ?_)
      obtain ⟨hb⟩ := hl
      have hw := HCF.out
      dsimp only [FA]
      refine wantd (by rfl) ?_
      go_simp
      exact hK.out
    ·
     intro LL gg z wc hall hI hl
     obtain ⟨hb⟩ := hl
     have e10 := hI.at 10 rfl (hall 10 (by decide))
     dsimp only [FA] at ⊢
     rw [e10]
     have HBC := hb
     clear hI hb e10 hall
     have HAK := Aside0.mk (HAJ.out.below HBC.out)
     have HOK := Aside0.mk (HOJ.out.trans (On.of_below HBC.out))
     clear HAJ HOJ
     go_wp2_with fail
     first
      | (refine ⟨⟨i, h, rfl, rfl, ⟨HBS.out.down HH.out.1 HH.out.2 (by have h := of_eq_false HCF.out; rw [HXY.out.1, HYX.out] at h; exact h)⟩, HAK, HOK⟩, ?_⟩; simp only [intOf]; have := HH.out; omega)
      | (refine ⟨?_, ?_⟩; · (refine ⟨_, _, _, _, _, _, _, _, _, _, _, _, _, _, _, _, _, _, _, _, _, _, _, _, _, _, _, _, _, _, _, _, _, _, _, _, _, _, _, _, _, _, _, _, _, _, _, _, _, _, _, _, _, _, _, _, _, _, _, _, _, _, _, _, _, _, _, _, _, _, _, _, _, _, _, _, _, _, _, _, _, _, _, _, _, _, _, _, _, _, _, _, _, _, _, _, _, _, _, ?_, rfl⟩; exact ⟨i, h, rfl, rfl, ⟨HBS.out.down HH.out.1 HH.out.2 (by have h := of_eq_false HCF.out; rw [HXY.out.1, HYX.out] at h; exact h)⟩, HAK, HOK⟩); · (simp only [intOf]; have := HH.out; omega))
  ·
   have hc1 : ((i : Int) < (j : Int)) = False := eq_false (by omega)
   have hc1n : (i < j) = False := eq_false hlt
   obtain rfl : i = j := by have := HIJ.out; omega
   clear hlt
   have HST : Aside0 (St k ([x0] ++ R) (R.take (i - im) ++ x0 :: R.drop (i - im))) := ⟨left_done (T := fun h => cmpf (D.getD (o + h) 0) x0 < 0) HS.out HT.out (by have h := HBS.out; rw [show ib = im + R.length by have := HB.out; omega] at h; exact h)⟩
   have HIW : Aside0 (wrap64 ((i : Int) - 1) = ((i - 1 : Nat) : Int)) := ⟨by rw [← i64_w]; have := HJN.out; have := HB.out; have := HIJ.out; exact w64n _ _ (by omega) (by omega)⟩
   go_wp2_with fail
   go_loopw [13] (fun vk wq => ∃ t : Nat, vk = .int .i64 ((ia + t : Nat) : Int) ∧ t ≤ i - im ∧ Aside0 (Arr XX wq g (P ++ R.take t ++ x0 :: R.drop t ++ Q)) ∧ Aside0 (On (· = g) w wq)) (fun vk _ => i - (intOf vk).toNat)
   case atStart => exact ⟨0, rfl, Nat.zero_le _, ⟨by rw [List.take_zero, List.drop_zero, List.append_nil]; have h := HAJ.out; rw [HD.out] at h; simpa using h⟩, HOJ⟩
   case round =>
    clear HAJ HOJ
    obtain ⟨t, rfl, ht, HAJ, HOJ⟩ := hrel
    obtain ⟨q, hq⟩ : ∃ q : Nat, q = ia + t := ⟨_, rfl⟩
    obtain ⟨i1, hi1⟩ : ∃ i1 : Nat, i1 = i - 1 := ⟨_, rfl⟩
    have hiw : wrap64 ((i : Int) - 1) = (i1 : Int) := by rw [hi1]; exact HIW.out
    rw [← hq]
    by_cases hlt : t < i - im
    ·
     have hc2 : ((q : Int) < (i1 : Int)) = True := eq_true (by have := HB.out; omega)
     have hc2n : (q < i1) = True := eq_true (by have := HB.out; omega)
     obtain ⟨E, hE⟩ : ∃ E, E = P ++ R.take t ++ x0 :: R.drop t ++ Q := ⟨_, rfl⟩
     rw [← hE] at HAJ
     have hEl : E.length = D.length := by rw [hE, HD.out]; simp only [List.length_append, List.length_cons, List.length_nil, List.length_take, List.length_drop]; omega
     obtain ⟨q1, hq1⟩ : ∃ q1 : Nat, q1 = q + 1 := ⟨_, rfl⟩
     have HQ : Aside0 (q = ia + t ∧ q1 = q + 1 ∧ t < i - im ∧ t < R.length ∧ q1 < n) := ⟨by have := HB.out; have := HIJ.out; have := HJN.out; omega⟩
     have HQW : Aside0 (IntKind.i64.wrap ((q : Int) + 1) = (q1 : Int)) := ⟨by have := HJN.out; have := HQ.out; exact w64n _ _ (by omega) (by omega)⟩
     have HQW2 : Aside0 (wrap64 ((q : Int) + 1) = (q1 : Int)) := ⟨by rw [← i64_w]; exact HQW.out⟩
     obtain ⟨x, hx⟩ : ∃ x, x = E.getD (o + q) 0 := ⟨_, rfl⟩
     obtain ⟨y, hy⟩ : ∃ y, y = E.getD (o + q1) 0 := ⟨_, rfl⟩
     have HXY := Aside0.mk (And.intro hx hy)
     have HBK : Aside0 (o + q < E.length ∧ o + q1 < E.length) := ⟨by rw [hEl]; have := HJN.out; have := HQ.out; omega⟩
     have HNX : Aside0 (swap E (o + q) (o + q1) = P ++ R.take (t + 1) ++ x0 :: R.drop (t + 1) ++ Q) := ⟨by rw [hE, ← up_step P R Q x0 t HQ.out.2.2.2.1]; congr 1 <;> (have := HB.out; have := HQ.out; omega)⟩
     have j0 : ((0 : Int) ≤ (q : Int)) = True := eq_true (by omega)
     have j1 : ((q : Int) < (n : Int)) = True := eq_true (by have := HQ.out; omega)
     have j2 : (q < n) = True := eq_true (by have := HQ.out; omega)
     have q0 : ((0 : Int) ≤ (q1 : Int)) = True := eq_true (by omega)
     have q3 : ((q1 : Int) < (n : Int)) = True := eq_true (by have := HQ.out; omega)
     have q2 : (q1 < n) = True := eq_true (by have := HQ.out; omega)
     clear hq hi1 hlt ht hE hEl hq1 hx hy hc1 hc1n
     go_wp2_with fail
     clear hiw hc2 hc2n
     refine wp_reg 18 rfl rfl (by kernel_rfl) (fun z2 => [.slice (some ad) n c, .int .i64 (ia : Int), .int .i64 (im : Int), .int .i64 (ib : Int), .func (.func fc) #[] caps, undef, undef, undef, undef, undef, .int .i64 (i : Int), .int .i64 (i : Int), u12, .int .i64 (q : Int), undef, undef, undef, undef, undef, undef, undef, undef, undef, undef, undef, .int .i64 (im : Int), .int .i64 (ia : Int), .int .i64 1, .bool true, .int .i64 (im : Int), .int .i64 (ib : Int), .int .i64 (i : Int), .int .i64 (i : Int), .bool false, u34, u35, u36, u37, u38, u39, u40, u41, u42, u43, u44, u45, u46, u47, u48, u49, u50, u51, u52, u53, .int .i64 (ia : Int), .int .i64 (q : Int), .int .i64 (i : Int), .int .i64 (wrap64 ((i : Int) - 1)), .bool true, u59, u60, z2 61, z2 62, z2 63, z2 64, z2 65, z2 66, z2 67, z2 68, z2 69, z2 70, z2 71, z2 72, z2 73, z2 74, z2 75, z2 76, undef, undef, undef, undef, undef, undef, undef, undef, undef, undef, undef, undef, undef, undef, undef, undef, undef, undef, undef, undef, undef, undef, undef, undef, undef, undef, undef, undef, undef, undef, undef, undef, undef, undef, undef, undef, undef, undef, undef, undef, undef, undef, undef, undef, undef, undef, undef, undef, undef, undef, undef, undef, undef, undef, undef, undef, undef, undef, undef, undef, undef, undef, undef, undef, undef, undef, undef, undef, undef, undef, undef, undef, undef, undef, undef, undef, undef, undef, undef, undef, undef, undef, undef, undef, undef, undef, undef, undef, undef, undef, undef, undef, undef, undef, undef, undef, undef, undef, undef, undef, undef, undef, undef, undef, undef, undef, undef, undef, undef, undef, undef, undef, undef, undef, undef, undef, undef, undef, undef, undef, undef, undef, undef, undef, undef, undef, undef, undef, undef, undef, undef, undef, undef, undef, undef, undef, undef, undef, undef, undef, undef, undef, undef]) (fun (gg : Unit) => [(0, 61, .slice (some ad) n c), (1, 62, .int .i64 (q : Int)), (2, 63, .slice (some ad) n c), (3, 64, .int .i64 (q : Int)), (4, 65, .int .i64 (q1 : Int)), (5, 66, .slice (some ad) n c), (6, 67, .int .i64 (q : Int)), (7, 68, .int .i64 (q1 : Int)), (8, 69, .pointer (some (ad.add q1))), (9, 70, .int .i32 y), (10, 71, .slice (some ad) n c), (11, 72, .int .i64 (q : Int)), (12, 73, .pointer (some (ad.add q))), (13, 74, .int .i32 x), (14, 75, .pointer (some (ad.add q))), (16, 76, .pointer (some (ad.add q1)))]) (fun LL gg z2 wx => Aside0 (Arr XX wx g (bif LL 17 then ((E.set (o + q) y).set (o + q1) x) else bif LL 15 then (E.set (o + q) y) else E)) ∧ Aside0 (On (· = g) wr wx) ∧ Aside0 ((LL 15 = true → LL 9 = true ∧ LL 13 = true) ∧ (LL 17 = true → LL 15 = true))) () (zz [(61, u61), (62, u62), (63, u63), (64, u64), (65, u65), (66, u66), (67, u67), (68, u68), (69, u69), (70, u70), (71, u71), (72, u72), (73, u73), (74, u74), (75, u75), (76, u76)]) rfl rfl ⟨⟨HAJ.out.below (below_drew (Below.refl _ _))⟩, ⟨On.of_below (below_drew (Below.refl _ _))⟩, ⟨⟨fun h => absurd h (by decide), fun h => absurd h (by decide)⟩⟩⟩ ?_ ?_
     ·
      refine Steps.cons ?_ (Steps.cons ?_ (Steps.cons ?_ (Steps.cons ?_ (Steps.cons ?_ (Steps.cons ?_ (Steps.cons ?_ (Steps.cons ?_ (Steps.cons ?_ (Steps.cons ?_ (Steps.cons ?_ (Steps.cons ?_ (Steps.cons ?_ (Steps.cons ?_ (Steps.cons ?_ (Steps.cons ?_ (Steps.cons ?_ (Steps.cons ?_ (Steps.nil))))))))))))))))))
      ·
       exact V0 0
      ·
       exact V0 1
      ·
       exact V0 2
      ·
       exact V0 3
      ·
       refine V1 4 3 (h := fun LL gg z2 wx hl hLk e3 K hK => ?_)
       obtain ⟨⟨hA, ho, hz⟩⟩ := hl
       have hw := HQW.out
       dsimp only [FA]
       refine wantd (by rfl) ?_
       go_simp
       exact hK.out
      ·
       exact V0 5
      ·
       exact V0 6
      ·
       refine V1 7 6 (h := fun LL gg z2 wx hl hLk e6 K hK => ?_)
       obtain ⟨⟨hA, ho, hz⟩⟩ := hl
       have hw := HQW.out
       dsimp only [FA]
       refine wantd (by rfl) ?_
       go_simp
       exact hK.out
      ·
       exact V2 8 5 7
      ·
       refine V1 9 8 (hT := fun _ => rfl) (hR := fun LL gg z2 wx hLk hd ⟨hA, ho, hz⟩ => ⟨hA, ho, ⟨⟨fun h => ⟨rfl, (hz.out.1 h).2⟩, hz.out.2⟩⟩⟩) (h := fun LL gg z2 wx hl hLk e8 K hK => ?_)
       obtain ⟨⟨hA, ho, hz⟩⟩ := hl
       have f15 := flag_off (fun h => (hz.out.1 h).1) hLk
       have f17 := flag_off (fun h => (hz.out.1 (hz.out.2 h)).1) hLk
       have hq : Arr XX wx g E := by have h := hA.out; rw [f17, f15] at h; exact h
       have ck := hq.cell HAD.out q1 (by have := HBK.out; omega)
       rw [← HXY.out.2] at ck
       dsimp only [FA]
       refine wantd (by rfl) ?_
       go_simp
       exact hK.out
      ·
       exact V0 10
      ·
       exact V0 11
      ·
       exact V2 12 10 11
      ·
       refine V1 13 12 (hT := fun _ => rfl) (hR := fun LL gg z2 wx hLk hd ⟨hA, ho, hz⟩ => ⟨hA, ho, ⟨⟨fun h => ⟨(hz.out.1 h).1, rfl⟩, hz.out.2⟩⟩⟩) (h := fun LL gg z2 wx hl hLk e12 K hK => ?_)
       obtain ⟨⟨hA, ho, hz⟩⟩ := hl
       have f15 := flag_off (fun h => (hz.out.1 h).2) hLk
       have f17 := flag_off (fun h => (hz.out.1 (hz.out.2 h)).2) hLk
       have hq : Arr XX wx g E := by have h := hA.out; rw [f17, f15] at h; exact h
       have ck := hq.cell HAD.out q (by have := HBK.out; omega)
       rw [← HXY.out.1] at ck
       dsimp only [FA]
       refine wantd (by rfl) ?_
       go_simp
       exact hK.out
      ·
       exact V2 14 0 1
      ·
       refine CS (fun _ => rfl) fun LL gg z2 wx hl hLk hd hI K hK => ?_
       obtain ⟨⟨hA, ho, hz⟩⟩ := hl
       have e14 := hI.at 14 rfl (hd 14 rfl)
       have e9 := hI.at 9 rfl (hd 9 rfl)
       have f17 := flag_off (fun h => hz.out.2 h) hLk
       have hq : Arr XX wx g E := by have h := hA.out; rw [f17, hLk] at h; exact h
       have ck := hq.cell HAD.out q (by have := HBK.out; omega)
       have fz := hq.frozen HAD.out q
       dsimp only [FA]
       refine wantd (by rfl) ?_
       go_simp
       exact hK _ _ (sm2 e14 e9) ⟨⟨(show Arr XX _ g (bif LL 17 then _ else (E.set (o + q) y)) by rw [f17]; exact (hq.set HAD.out q y (by have := HBK.out; omega)).1)⟩, ⟨ho.out.trans (hq.set HAD.out q y (by have := HBK.out; omega)).2⟩, ⟨⟨fun _ => ⟨hd 9 rfl, hd 13 rfl⟩, fun _ => rfl⟩⟩⟩
      ·
       exact V2 15 2 4
      ·
       refine CS (fun _ => rfl) fun LL gg z2 wx hl hLk hd hI K hK => ?_
       obtain ⟨⟨hA, ho, hz⟩⟩ := hl
       have e16 := hI.at 15 rfl (hd 16 rfl)
       have e13 := hI.at 13 rfl (hd 13 rfl)
       have hq : Arr XX wx g (E.set (o + q) y) := by have h := hA.out; rw [hLk, hd 15 rfl] at h; exact h
       have ck := hq.cell HAD.out q1 (by rw [List.length_set]; have := HBK.out; omega)
       have fz := hq.frozen HAD.out q1
       dsimp only [FA]
       refine wantd (by rfl) ?_
       go_simp
       exact hK _ _ (sm2 e16 e13) ⟨⟨(hq.set HAD.out q1 x (by rw [List.length_set]; have := HBK.out; omega)).1⟩, ⟨ho.out.trans (hq.set HAD.out q1 x (by rw [List.length_set]; have := HBK.out; omega)).2⟩, ⟨⟨hz.out.1, fun _ => hd 15 rfl⟩⟩⟩
     ·
      intro LL gg z2 wd hall hI hl
      obtain ⟨⟨hA, ho, hz⟩⟩ := hl
      dsimp only [FA] at ⊢
      have HA9 : Aside0 (Arr XX wd g (swap E (o + q) (o + q1))) := ⟨by rw [swap, ← HXY.out.1, ← HXY.out.2]; have h := hA.out; rw [hall 17 (by decide)] at h; exact h⟩
      have HO9 := ho
      clear hI hA ho hz hall
      have HA10 : Aside0 (Arr XX wd g (P ++ R.take (t + 1) ++ x0 :: R.drop (t + 1) ++ Q)) := ⟨by rw [← HNX.out]; exact HA9.out⟩
      have HO10 := Aside0.mk (HOJ.out.trans HO9.out)
      go_wp2_with fail
      first
       | (refine ⟨⟨t + 1, by rw [HQW2.out, HQ.out.2.1, HQ.out.1, Nat.add_assoc], by have := HQ.out; omega, HA10, HO10⟩, ?_⟩; rw [HQW2.out]; simp only [intOf]; have := HQ.out; have := HB.out; have := HIJ.out; omega)
       | (refine ⟨?_, ?_⟩; · (refine ⟨_, _, _, _, _, _, _, _, _, _, _, _, _, _, _, _, _, _, _, _, _, _, _, _, _, _, _, _, _, _, _, _, _, _, _, _, _, _, _, _, _, _, _, _, _, _, _, _, _, _, _, _, _, _, _, _, _, _, _, _, _, _, _, _, _, _, _, _, _, _, _, _, _, _, _, _, _, _, _, _, _, _, _, _, _, _, _, _, _, _, _, _, _, _, _, _, _, _, _, ?_, rfl⟩; exact ⟨t + 1, by rw [HQW2.out, HQ.out.2.1, HQ.out.1, Nat.add_assoc], by have := HQ.out; omega, HA10, HO10⟩); · (show i - (intOf (.int .i64 (wrap64 ((q : Int) + 1)))).toNat < i - (intOf (.int .i64 (q : Int))).toNat; rw [HQW2.out]; simp only [intOf]; have := HQ.out; have := HB.out; have := HIJ.out; omega))
    ·
     have hc2 : ((q : Int) < (i1 : Int)) = False := eq_false (by have := HB.out; omega)
     have hc2n : (q < i1) = False := eq_false (by have := HB.out; omega)
     obtain rfl : t = i - im := by omega
     clear hlt ht hq hi1
     go_wp2
     refine bodyPost_ret (results_none rfl _ _ _) rfl ?_
     exact ⟨rfl, _, by have h := HAJ.out; rw [List.append_assoc P] at h; exact h, HST.out, HOJ.out⟩
end Go.Proofs.YtfagobhhhljajaaW.PrintSort
/- The stable sort of package slices, the merge (gensort.py). No condition. -/
namespace Go.Proofs.YtfagobhhhljajaaW.PrintSort
open Go Go.RowKit Go.Proofs.YtfagobhhhljajaaW.PrintWords Go.Proofs.YtfagobhhhljajaaW.PrintLast Go.Proofs.YtfagobhhhljajaaW.PrintMore Go.Proofs.YtfagobhhhljajaaW.PrintReg Go.Proofs.YtfagobhhhljajaaW.PrintTree
set_option linter.unusedVariables false
set_option linter.unusedSimpArgs false
set_option maxHeartbeats 4000000 in
set_option maxRecDepth 100000 in
theorem symright_calls (XX : List Value) (g o n c : Nat) (ad : Addr) (had : ad = ⟨g, o, none⟩) (fc : Nat) (caps : Array Value) (hfc : ∀ args W, (callFunc fc args).run Try.prog W = .ok (.enter fc args) W) (cmpf : Int → Int → Int) (k : Int → Int) (hk : ∀ x y, cmpf x y < 0 ↔ k x < k y) (w0 : World) (HC : ∀ (x y : Int) (W : World), On (· = g) w0 W → Calls Try.prog fc (#[.int .i32 x, .int .i32 y] ++ caps) W fun e w' => e = .returned (.int .i64 (cmpf x y)) ∧ Below W.heap.size W w')
  (ia im ib : Nat) (y0 : Int) (P L Q : List Int) (w : World) (hA : Arr XX w g (P ++ L ++ [y0] ++ Q)) (hw0 : On (· = g) w0 w) (hP : P.length = o + ia) (hL : ia + L.length = im) (hR : im + 1 = ib) (hne : L.length ≠ 1) (hS : Srt k L) (hb : ib ≤ n) (hn : o + n ≤ (P ++ L ++ [y0] ++ Q).length) (hN : n ≤ 1152921504606846975) :
  Calls Try.prog 73 #[.slice (some ad) n c, .int .i64 (ia : Int), .int .i64 (im : Int), .int .i64 (ib : Int), .func (.func fc) #[] caps] w fun e w' => e = .returned (.tuple #[]) ∧ ∃ M, Arr XX w' g (P ++ M ++ Q) ∧ St k (L ++ [y0]) M ∧ On (· = g) w w' := by
 obtain ⟨D, hD⟩ : ∃ D, D = P ++ L ++ [y0] ++ Q := ⟨_, rfl⟩
 rw [← hD] at hA hn
 have HA := Aside0.mk hA
 have HD := Aside0.mk hD
 have HAD := Aside0.mk had
 have HCC := Aside0.mk HC
 have HK := Aside0.mk hk
 have HW0 := Aside0.mk hw0
 have HB := Aside0.mk (And.intro hP (And.intro hL (And.intro hR (And.intro hb (And.intro hn hN)))))
 have HS := Aside0.mk hS
 obtain ⟨l, hl⟩ : ∃ l, l = L.length := ⟨_, rfl⟩
 have hw1 : wrap64 ((im : Int) - (ia : Int)) = (l : Int) := by unfold wrap64; omega
 have hw2 : wrap64 ((ib : Int) - (im : Int)) = 1 := by unfold wrap64; omega
 have c1 : ((l : Int) == 1) = false := by rw [beq_eq_false_iff_ne]; omega
 have c1e : ((l : Int) = 1) = False := eq_false (by omega)
 have c1n : (l = 1) = False := eq_false (by omega)
 have HX0 : Aside0 (y0 = D.getD (o + im) 0) := ⟨by
  rw [hD, show o + im = P.length + L.length + 0 by omega, at_behind P L [y0] Q 0 (by simp)]; rfl⟩
 have HT : Aside0 (∀ s, s < L.length → (0 ≤ cmpf y0 (D.getD (o + (ia + s)) 0) ↔ k (L.getD s 0) ≤ k y0)) := ⟨fun s hs => by
  rw [← Int.not_lt, ← Int.not_lt, hk, hD, show o + (ia + s) = P.length + s by omega, at_ahead P L [y0] Q s hs]⟩
 clear hA hD had HC hk hw0 hP hL hR hS hb hn hN hl hne
 go_enter Try.func73, Try.ntmps73
 go_wp2_with fail
 try rw [hw1]
 try rw [hw2]
 clear hw1 hw2 c1 c1e c1n
 go_loopw [14, 15] (fun vi vj wr => ∃ i j : Nat, vi = .int .i64 (i : Int) ∧ vj = .int .i64 (j : Int) ∧ Aside0 (Bis (fun h => 0 ≤ cmpf y0 (D.getD (o + h) 0)) ia im i j) ∧ Aside0 (Arr XX wr g D) ∧ Aside0 (On (· = g) w wr)) (fun vi vj _ => (intOf vj).toNat - (intOf vi).toNat)
 case atStart => exact ⟨ia, im, rfl, rfl, ⟨Bis.start (by have := HB.out; omega)⟩, HA, ⟨On.refl _ _⟩⟩
 case round =>
  obtain ⟨i, j, rfl, rfl, HBS, HAJ, HOJ⟩ := hrel
  have HIJ : Aside0 (ia ≤ i ∧ i ≤ j ∧ j ≤ im) := ⟨HBS.out.1, HBS.out.2.1, HBS.out.2.2.1⟩
  have HJN : Aside0 (j ≤ n ∧ o + n ≤ D.length ∧ n ≤ 1152921504606846975) := ⟨by have := HB.out; have := HIJ.out; omega⟩
  by_cases hlt : i < j
  ·
   have hc1 : ((i : Int) < (j : Int)) = True := eq_true (by omega)
   have hc1n : (i < j) = True := eq_true hlt
   obtain ⟨s, hs⟩ : ∃ s : Nat, s = i + j := ⟨_, rfl⟩
   obtain ⟨h, hh⟩ : ∃ h : Nat, h = s / 2 := ⟨_, rfl⟩
   have hsw : wrap64 ((i : Int) + (j : Int)) = (s : Int) := by have := HJN.out; unfold wrap64; omega
   have hsm : (s : Int) % 18446744073709551616 = (s : Int) := by have := HJN.out; omega
   have HHD : Aside0 ((s : Int) / 2 = (h : Int)) := ⟨by omega⟩
   have HH : Aside0 (i ≤ h ∧ h < j) := ⟨by omega⟩
   have HHW : Aside0 (wrap64 ((h : Int) + 1) = ((h + 1 : Nat) : Int)) := ⟨by rw [← i64_w]; have := HJN.out; have := HH.out; exact w64n _ _ (by omega) (by omega)⟩
   have h0 : ((0 : Int) ≤ (h : Int)) = True := eq_true (by omega)
   have h1 : ((h : Int) < (n : Int)) = True := eq_true (by have := HJN.out; have := HH.out; omega)
   have h2 : (h < n) = True := eq_true (by have := HJN.out; have := HH.out; omega)
   obtain ⟨x, hx⟩ : ∃ x, x = D.getD (o + im) 0 := ⟨_, rfl⟩
   obtain ⟨y, hy⟩ : ∃ y, y = D.getD (o + h) 0 := ⟨_, rfl⟩
   have HXY := Aside0.mk (And.intro hx hy)
   have HXB : Aside0 (o + im < D.length ∧ o + h < D.length) := ⟨by have := HJN.out; have := HH.out; have := HB.out; have := HIJ.out; omega⟩
   have HYX : Aside0 (x = y0) := ⟨by rw [hx, HX0.out]⟩
   have a0 : ((0 : Int) ≤ (im : Int)) = True := eq_true (by omega)
   have a1 : ((im : Int) < (n : Int)) = True := eq_true (by have := HJN.out; have := HB.out; have := HIJ.out; omega)
   have a2 : (im < n) = True := eq_true (by have := HJN.out; have := HB.out; have := HIJ.out; omega)
   clear hx hy
   clear hlt hs hh
   go_wp2_with fail
   rw [HHD.out]
   try rw [hsw]
   clear hsw hsm hc1 hc1n
   by_cases hc : cmpf x y < 0
   ·
    have HCT : Aside0 ((cmpf x y < 0) = True) := ⟨eq_true hc⟩
    clear hc
    refine wp_reg 12 rfl rfl (by kernel_rfl) (fun z => [.slice (some ad) n c, .int .i64 (ia : Int), .int .i64 (im : Int), .int .i64 (ib : Int), .func (.func fc) #[] caps, undef, undef, undef, undef, undef, undef, undef, undef, undef, .int .i64 (i : Int), .int .i64 (j : Int), .int .i64 (h : Int), undef, undef, undef, undef, undef, undef, undef, undef, .int .i64 (im : Int), .int .i64 (ia : Int), .int .i64 (l : Int), .bool false, undef, undef, undef, undef, undef, undef, undef, undef, undef, undef, undef, undef, undef, undef, undef, undef, undef, undef, undef, undef, undef, undef, undef, undef, undef, undef, undef, undef, undef, undef, undef, undef, undef, undef, undef, undef, undef, undef, undef, undef, undef, undef, undef, undef, undef, undef, undef, undef, .int .i64 (ib : Int), .int .i64 (im : Int), .int .i64 1, .bool true, .int .i64 (ia : Int), .int .i64 (im : Int), .int .i64 (i : Int), .int .i64 (j : Int), .bool true, .int .i64 (i : Int), .int .i64 (j : Int), .int .i64 (s : Int), .int .u64 (s : Int), .int .u64 (h : Int), .int .i64 (h : Int), z 92, z 93, z 94, z 95, z 96, z 97, z 98, z 99, z 100, z 101, z 102, z 103, u104, u105, u106, undef, undef, undef, undef, undef, undef, undef, undef, undef, undef, undef, undef, undef, undef, undef, undef, undef, undef, undef, undef, undef, undef, undef, undef, undef, undef, undef, undef, undef, undef, undef, undef, undef, undef, undef, undef, undef, undef, undef, undef, undef, undef, undef, undef, undef, undef, undef, undef, undef, undef, undef, undef, undef, undef, undef, undef, undef, undef, undef, undef, undef, undef, undef, undef, undef, undef, undef, undef, undef, undef, undef, undef, undef, undef, undef, undef, undef, undef, undef, undef, undef, undef, undef, undef, undef, undef, undef, undef, undef, undef, undef, undef, undef, undef, undef, undef, undef, undef, undef, undef, undef, undef, undef, undef, undef, undef, undef, undef, undef, undef, undef, undef, undef]) (fun (gg : Unit) => [(0, 92, .func (.func fc) #[] caps), (1, 93, .slice (some ad) n c), (2, 94, .int .i64 (im : Int)), (3, 95, .pointer (some (ad.add im))), (4, 96, .int .i32 x), (5, 97, .slice (some ad) n c), (6, 98, .int .i64 (h : Int)), (7, 99, .pointer (some (ad.add h))), (8, 100, .int .i32 y), (9, 101, .int .i64 (cmpf x y)), (10, 102, .bool true), (11, 103, .bool false)]) (fun LL gg z wx => Aside0 (Below wr.heap.size wr wx)) () (zz [(92, u92), (93, u93), (94, u94), (95, u95), (96, u96), (97, u97), (98, u98), (99, u99), (100, u100), (101, u101), (102, u102), (103, u103)]) rfl rfl ⟨below_drew (Below.refl _ _)⟩ ?_ ?_
    ·
     refine Steps.cons ?_ (Steps.cons ?_ (Steps.cons ?_ (Steps.cons ?_ (Steps.cons ?_ (Steps.cons ?_ (Steps.cons ?_ (Steps.cons ?_ (Steps.cons ?_ (Steps.cons ?_ (Steps.cons ?_ (Steps.cons ?_ (Steps.nil))))))))))))
     ·
      exact V0 0
     ·
      exact V0 1
     ·
      exact V0 2
     ·
      exact V2 3 1 2
     ·
      refine V1 4 3 (h := fun LL gg z wx hl hLk e3 K hK => ?_)
      obtain ⟨hb⟩ := hl
      have hq := HAJ.out.below hb.out
      have ck := hq.cell HAD.out im (by have := HXB.out; omega)
      rw [← HXY.out.1] at ck
      dsimp only [FA]
      refine wantd (by rfl) ?_
      go_simp
      exact hK.out
     ·
      exact V0 5
     ·
      exact V0 6
     ·
      exact V2 7 5 6
     ·
      refine V1 8 7 (h := fun LL gg z wx hl hLk e7 K hK => ?_)
      obtain ⟨hb⟩ := hl
      have hq := HAJ.out.below hb.out
      have ck := hq.cell HAD.out h (by have := HXB.out; omega)
      rw [← HXY.out.2] at ck
      dsimp only [FA]
      refine wantd (by rfl) ?_
      go_simp
      exact hK.out
     ·
      refine CD 9 (fun _ => rfl) (fun _ => rfl) fun LL gg z wx hl hLk hd hI K hK => ?_
      obtain ⟨hb⟩ := hl
      have e0 := hI.at 0 rfl (hd 0 rfl)
      have e4 := hI.at 4 rfl (hd 4 rfl)
      have e8 := hI.at 8 rfl (hd 8 rfl)
      dsimp only [FA]
      refine wantd (by rfl) ?_
      go_simp
      refine (HCC.out x y wx ((HW0.out.trans HOJ.out).trans (On.of_below hb.out))).mono ?_
      rintro e w' ⟨rfl, hb1⟩
      exact hK gg _ _ (sm3 e0 e4 e8) rfl rfl ⟨below_step hb.out hb1⟩
     ·
      refine V1 10 9 (h := fun LL gg z wx hl hLk e9 K hK => ?_)
      obtain ⟨hb⟩ := hl
      have hw := HCT.out
      dsimp only [FA]
      refine wantd (by rfl) ?_
      go_simp
      exact hK.out
     ·
      exact V1 11 10
    ·
     intro LL gg z wc hall hI hl
     obtain ⟨hb⟩ := hl
     have e11 := hI.at 11 rfl (hall 11 (by decide))
     dsimp only [FA] at ⊢
     rw [e11]
     have HBC := hb
     clear hI hb e11 hall
     have HAK := Aside0.mk (HAJ.out.below HBC.out)
     have HOK := Aside0.mk (HOJ.out.trans (On.of_below HBC.out))
     clear HAJ HOJ
     go_wp2_with fail
     first
      | (refine ⟨⟨i, h, rfl, rfl, ⟨HBS.out.down HH.out.1 HH.out.2 (by have h := of_eq_true HCT.out; rw [HXY.out.2, HYX.out] at h; exact Int.not_le.2 h)⟩, HAK, HOK⟩, ?_⟩; simp only [intOf]; have := HH.out; omega)
      | (refine ⟨?_, ?_⟩; · (refine ⟨_, _, _, _, _, _, _, _, _, _, _, _, _, _, _, _, _, _, _, _, _, _, _, _, _, _, _, _, _, _, _, _, _, _, _, _, _, _, _, _, _, _, _, _, _, _, _, _, _, _, _, _, _, _, _, _, _, _, _, _, _, _, _, _, _, _, _, _, _, _, _, _, _, _, _, _, _, _, _, _, _, _, _, _, _, _, _, _, _, _, _, _, _, _, _, _, _, _, _, ?_, rfl⟩; exact ⟨i, h, rfl, rfl, ⟨HBS.out.down HH.out.1 HH.out.2 (by have h := of_eq_true HCT.out; rw [HXY.out.2, HYX.out] at h; exact Int.not_le.2 h)⟩, HAK, HOK⟩); · (simp only [intOf]; have := HH.out; omega))
   ·
    have HCF : Aside0 ((cmpf x y < 0) = False) := ⟨eq_false hc⟩
    clear hc
    refine wp_reg 12 rfl rfl (by kernel_rfl) (fun z => [.slice (some ad) n c, .int .i64 (ia : Int), .int .i64 (im : Int), .int .i64 (ib : Int), .func (.func fc) #[] caps, undef, undef, undef, undef, undef, undef, undef, undef, undef, .int .i64 (i : Int), .int .i64 (j : Int), .int .i64 (h : Int), undef, undef, undef, undef, undef, undef, undef, undef, .int .i64 (im : Int), .int .i64 (ia : Int), .int .i64 (l : Int), .bool false, undef, undef, undef, undef, undef, undef, undef, undef, undef, undef, undef, undef, undef, undef, undef, undef, undef, undef, undef, undef, undef, undef, undef, undef, undef, undef, undef, undef, undef, undef, undef, undef, undef, undef, undef, undef, undef, undef, undef, undef, undef, undef, undef, undef, undef, undef, undef, undef, .int .i64 (ib : Int), .int .i64 (im : Int), .int .i64 1, .bool true, .int .i64 (ia : Int), .int .i64 (im : Int), .int .i64 (i : Int), .int .i64 (j : Int), .bool true, .int .i64 (i : Int), .int .i64 (j : Int), .int .i64 (s : Int), .int .u64 (s : Int), .int .u64 (h : Int), .int .i64 (h : Int), z 92, z 93, z 94, z 95, z 96, z 97, z 98, z 99, z 100, z 101, z 102, z 103, u104, u105, u106, undef, undef, undef, undef, undef, undef, undef, undef, undef, undef, undef, undef, undef, undef, undef, undef, undef, undef, undef, undef, undef, undef, undef, undef, undef, undef, undef, undef, undef, undef, undef, undef, undef, undef, undef, undef, undef, undef, undef, undef, undef, undef, undef, undef, undef, undef, undef, undef, undef, undef, undef, undef, undef, undef, undef, undef, undef, undef, undef, undef, undef, undef, undef, undef, undef, undef, undef, undef, undef, undef, undef, undef, undef, undef, undef, undef, undef, undef, undef, undef, undef, undef, undef, undef, undef, undef, undef, undef, undef, undef, undef, undef, undef, undef, undef, undef, undef, undef, undef, undef, undef, undef, undef, undef, undef, undef, undef, undef, undef, undef, undef, undef, undef]) (fun (gg : Unit) => [(0, 92, .func (.func fc) #[] caps), (1, 93, .slice (some ad) n c), (2, 94, .int .i64 (im : Int)), (3, 95, .pointer (some (ad.add im))), (4, 96, .int .i32 x), (5, 97, .slice (some ad) n c), (6, 98, .int .i64 (h : Int)), (7, 99, .pointer (some (ad.add h))), (8, 100, .int .i32 y), (9, 101, .int .i64 (cmpf x y)), (10, 102, .bool false), (11, 103, .bool true)]) (fun LL gg z wx => Aside0 (Below wr.heap.size wr wx)) () (zz [(92, u92), (93, u93), (94, u94), (95, u95), (96, u96), (97, u97), (98, u98), (99, u99), (100, u100), (101, u101), (102, u102), (103, u103)]) rfl rfl ⟨below_drew (Below.refl _ _)⟩ ?_ ?_
    ·
     refine Steps.cons ?_ (Steps.cons ?_ (Steps.cons ?_ (Steps.cons ?_ (Steps.cons ?_ (Steps.cons ?_ (Steps.cons ?_ (Steps.cons ?_ (Steps.cons ?_ (Steps.cons ?_ (Steps.cons ?_ (Steps.cons ?_ (Steps.nil))))))))))))
     ·
      exact V0 0
     ·
      exact V0 1
     ·
      exact V0 2
     ·
      exact V2 3 1 2
     ·
      refine V1 4 3 (h := fun LL gg z wx hl hLk e3 K hK => ?_)
      obtain ⟨hb⟩ := hl
      have hq := HAJ.out.below hb.out
      have ck := hq.cell HAD.out im (by have := HXB.out; omega)
      rw [← HXY.out.1] at ck
      dsimp only [FA]
      refine wantd (by rfl) ?_
      go_simp
      exact hK.out
     ·
      exact V0 5
     ·
      exact V0 6
     ·
      exact V2 7 5 6
     ·
      refine V1 8 7 (h := fun LL gg z wx hl hLk e7 K hK => ?_)
      obtain ⟨hb⟩ := hl
      have hq := HAJ.out.below hb.out
      have ck := hq.cell HAD.out h (by have := HXB.out; omega)
      rw [← HXY.out.2] at ck
      dsimp only [FA]
      refine wantd (by rfl) ?_
      go_simp
      exact hK.out
     ·
      refine CD 9 (fun _ => rfl) (fun _ => rfl) fun LL gg z wx hl hLk hd hI K hK => ?_
      obtain ⟨hb⟩ := hl
      have e0 := hI.at 0 rfl (hd 0 rfl)
      have e4 := hI.at 4 rfl (hd 4 rfl)
      have e8 := hI.at 8 rfl (hd 8 rfl)
      dsimp only [FA]
      refine wantd (by rfl) ?_
      go_simp
      refine (HCC.out x y wx ((HW0.out.trans HOJ.out).trans (On.of_below hb.out))).mono ?_
      rintro e w' ⟨rfl, hb1⟩
      exact hK gg _ _ (sm3 e0 e4 e8) rfl rfl ⟨below_step hb.out hb1⟩
     ·
      refine V1 10 9 (h := fun LL gg z wx hl hLk e9 K hK => ?_)
      obtain ⟨hb⟩ := hl
      have hw := HCF.out
      dsimp only [FA]
      refine wantd (by rfl) ?_
      go_simp
      exact hK.out
     ·
      exact V1 11 10
    ·
     intro LL gg z wc hall hI hl
     obtain ⟨hb⟩ := hl
     have e11 := hI.at 11 rfl (hall 11 (by decide))
     dsimp only [FA] at ⊢
     rw [e11]
     have HBC := hb
     clear hI hb e11 hall
     have HAK := Aside0.mk (HAJ.out.below HBC.out)
     have HOK := Aside0.mk (HOJ.out.trans (On.of_below HBC.out))
     clear HAJ HOJ
     go_wp2_with fail
     first
      | (refine ⟨⟨h + 1, j, by rw [HHW.out], rfl, ⟨HBS.out.up HH.out.1 HH.out.2 (by have h := of_eq_false HCF.out; rw [HXY.out.2, HYX.out] at h; exact Int.not_lt.1 h)⟩, HAK, HOK⟩, ?_⟩; rw [HHW.out]; simp only [intOf]; have := HH.out; omega)
      | (refine ⟨?_, ?_⟩; · (refine ⟨_, _, _, _, _, _, _, _, _, _, _, _, _, _, _, _, _, _, _, _, _, _, _, _, _, _, _, _, _, _, _, _, _, _, _, _, _, _, _, _, _, _, _, _, _, _, _, _, _, _, _, _, _, _, _, _, _, _, _, _, _, _, _, _, _, _, _, _, _, _, _, _, _, _, _, _, _, _, _, _, _, _, _, _, _, _, _, _, _, _, _, _, _, _, _, _, _, _, _, ?_, rfl⟩; exact ⟨h + 1, j, by rw [HHW.out], rfl, ⟨HBS.out.up HH.out.1 HH.out.2 (by have h := of_eq_false HCF.out; rw [HXY.out.2, HYX.out] at h; exact Int.not_lt.1 h)⟩, HAK, HOK⟩); · (show (intOf (.int .i64 (j : Int))).toNat - (intOf (.int .i64 (wrap64 ((h : Int) + 1)))).toNat < (intOf (.int .i64 (j : Int))).toNat - (intOf (.int .i64 (i : Int))).toNat; rw [HHW.out]; simp only [intOf]; have := HH.out; omega))
  ·
   have hc1 : ((i : Int) < (j : Int)) = False := eq_false (by omega)
   have hc1n : (i < j) = False := eq_false hlt
   obtain rfl : i = j := by have := HIJ.out; omega
   clear hlt
   have HST : Aside0 (St k (L ++ [y0]) (L.take (i - ia) ++ y0 :: L.drop (i - ia))) := ⟨right_done (T := fun h => 0 ≤ cmpf y0 (D.getD (o + h) 0)) HS.out (fun s hs => by rw [Int.not_lt]; exact HT.out s hs) (by have h := HBS.out; rw [show im = ia + L.length by have := HB.out; omega] at h; exact h)⟩
   go_wp2_with fail
   go_loopw [17] (fun vk wq => ∃ t : Nat, vk = .int .i64 ((ia + t : Nat) : Int) ∧ i - ia ≤ t ∧ t ≤ L.length ∧ Aside0 (Arr XX wq g (P ++ L.take t ++ y0 :: L.drop t ++ Q)) ∧ Aside0 (On (· = g) w wq)) (fun vk _ => (intOf vk).toNat)
   case atStart => exact ⟨L.length, by rw [HB.out.2.1], by have := HB.out; have := HIJ.out; omega, Nat.le_refl _, ⟨by rw [List.take_length, List.drop_length]; have h := HAJ.out; rw [HD.out] at h; simpa using h⟩, HOJ⟩
   case round =>
    clear HAJ HOJ
    obtain ⟨t, rfl, ht, ht3, HAJ, HOJ⟩ := hrel
    obtain ⟨q, hq⟩ : ∃ q : Nat, q = ia + t := ⟨_, rfl⟩
    rw [← hq]
    by_cases hlt : i - ia < t
    ·
     have hc2 : ((i : Int) < (q : Int)) = True := eq_true (by have := HB.out; have := HIJ.out; omega)
     have hc2n : (i < q) = True := eq_true (by have := HB.out; have := HIJ.out; omega)
     obtain ⟨t', rfl⟩ : ∃ t', t = t' + 1 := ⟨t - 1, by omega⟩
     obtain ⟨E, hE⟩ : ∃ E, E = P ++ L.take (t' + 1) ++ y0 :: L.drop (t' + 1) ++ Q := ⟨_, rfl⟩
     rw [← hE] at HAJ
     have hEl : E.length = D.length := by rw [hE, HD.out]; simp only [List.length_append, List.length_cons, List.length_nil, List.length_take, List.length_drop]; omega
     obtain ⟨q1, hq1⟩ : ∃ q1 : Nat, q1 = q - 1 := ⟨_, rfl⟩
     have HQ : Aside0 (q = ia + t' + 1 ∧ q1 + 1 = q ∧ i - ia ≤ t' ∧ t' < L.length ∧ q < n) := ⟨by have := HB.out; have := HIJ.out; have := HJN.out; omega⟩
     have HQW : Aside0 (IntKind.i64.wrap ((q : Int) - 1) = (q1 : Int)) := ⟨by have := HJN.out; have := HQ.out; exact w64n _ _ (by omega) (by omega)⟩
     have HQW2 : Aside0 (wrap64 ((q : Int) - 1) = (q1 : Int)) := ⟨by rw [← i64_w]; exact HQW.out⟩
     obtain ⟨x, hx⟩ : ∃ x, x = E.getD (o + q) 0 := ⟨_, rfl⟩
     obtain ⟨y, hy⟩ : ∃ y, y = E.getD (o + q1) 0 := ⟨_, rfl⟩
     have HXY := Aside0.mk (And.intro hx hy)
     have HBK : Aside0 (o + q < E.length ∧ o + q1 < E.length) := ⟨by rw [hEl]; have := HB.out; have := HQ.out; omega⟩
     have HNX : Aside0 (swap E (o + q) (o + q1) = P ++ L.take t' ++ y0 :: L.drop t' ++ Q) := ⟨by rw [hE, ← down_step P L Q y0 t' HQ.out.2.2.2.1]; congr 1 <;> (have := HB.out; have := HQ.out; omega)⟩
     have j0 : ((0 : Int) ≤ (q : Int)) = True := eq_true (by omega)
     have j1 : ((q : Int) < (n : Int)) = True := eq_true (by have := HQ.out; omega)
     have j2 : (q < n) = True := eq_true (by have := HQ.out; omega)
     have q0 : ((0 : Int) ≤ (q1 : Int)) = True := eq_true (by omega)
     have q3 : ((q1 : Int) < (n : Int)) = True := eq_true (by have := HQ.out; omega)
     have q2 : (q1 < n) = True := eq_true (by have := HQ.out; omega)
     clear hq hlt ht ht3 hE hEl hq1 hx hy hc1 hc1n
     go_wp2_with fail
     clear hc2 hc2n
     refine wp_reg 18 rfl rfl (by kernel_rfl) (fun z2 => [.slice (some ad) n c, .int .i64 (ia : Int), .int .i64 (im : Int), .int .i64 (ib : Int), .func (.func fc) #[] caps, undef, undef, undef, undef, undef, undef, undef, undef, undef, .int .i64 (i : Int), .int .i64 (i : Int), u16, .int .i64 (q : Int), undef, undef, undef, undef, undef, undef, undef, .int .i64 (im : Int), .int .i64 (ia : Int), .int .i64 (l : Int), .bool false, undef, undef, undef, undef, undef, undef, undef, undef, undef, undef, undef, undef, undef, undef, undef, undef, undef, undef, undef, undef, undef, undef, undef, undef, undef, undef, undef, undef, undef, undef, undef, undef, undef, undef, undef, undef, undef, undef, undef, undef, undef, undef, undef, undef, undef, undef, undef, undef, .int .i64 (ib : Int), .int .i64 (im : Int), .int .i64 1, .bool true, .int .i64 (ia : Int), .int .i64 (im : Int), .int .i64 (i : Int), .int .i64 (i : Int), .bool false, u86, u87, u88, u89, u90, u91, u92, u93, u94, u95, u96, u97, u98, u99, u100, u101, u102, u103, u104, u105, u106, .int .i64 (im : Int), .int .i64 (q : Int), .int .i64 (i : Int), .bool true, u111, u112, z2 113, z2 114, z2 115, z2 116, z2 117, z2 118, z2 119, z2 120, z2 121, z2 122, z2 123, z2 124, z2 125, z2 126, z2 127, z2 128, undef, undef, undef, undef, undef, undef, undef, undef, undef, undef, undef, undef, undef, undef, undef, undef, undef, undef, undef, undef, undef, undef, undef, undef, undef, undef, undef, undef, undef, undef, undef, undef, undef, undef, undef, undef, undef, undef, undef, undef, undef, undef, undef, undef, undef, undef, undef, undef, undef, undef, undef, undef, undef, undef, undef, undef, undef, undef, undef, undef, undef, undef, undef, undef, undef, undef, undef, undef, undef, undef, undef, undef, undef, undef, undef, undef, undef, undef, undef, undef, undef, undef, undef, undef, undef, undef, undef, undef, undef, undef, undef]) (fun (gg : Unit) => [(0, 113, .slice (some ad) n c), (1, 114, .int .i64 (q : Int)), (2, 115, .slice (some ad) n c), (3, 116, .int .i64 (q : Int)), (4, 117, .int .i64 (q1 : Int)), (5, 118, .slice (some ad) n c), (6, 119, .int .i64 (q : Int)), (7, 120, .int .i64 (q1 : Int)), (8, 121, .pointer (some (ad.add q1))), (9, 122, .int .i32 y), (10, 123, .slice (some ad) n c), (11, 124, .int .i64 (q : Int)), (12, 125, .pointer (some (ad.add q))), (13, 126, .int .i32 x), (14, 127, .pointer (some (ad.add q))), (16, 128, .pointer (some (ad.add q1)))]) (fun LL gg z2 wx => Aside0 (Arr XX wx g (bif LL 17 then ((E.set (o + q) y).set (o + q1) x) else bif LL 15 then (E.set (o + q) y) else E)) ∧ Aside0 (On (· = g) wr wx) ∧ Aside0 ((LL 15 = true → LL 9 = true ∧ LL 13 = true) ∧ (LL 17 = true → LL 15 = true))) () (zz [(113, u113), (114, u114), (115, u115), (116, u116), (117, u117), (118, u118), (119, u119), (120, u120), (121, u121), (122, u122), (123, u123), (124, u124), (125, u125), (126, u126), (127, u127), (128, u128)]) rfl rfl ⟨⟨HAJ.out.below (below_drew (Below.refl _ _))⟩, ⟨On.of_below (below_drew (Below.refl _ _))⟩, ⟨⟨fun h => absurd h (by decide), fun h => absurd h (by decide)⟩⟩⟩ ?_ ?_
     ·
      refine Steps.cons ?_ (Steps.cons ?_ (Steps.cons ?_ (Steps.cons ?_ (Steps.cons ?_ (Steps.cons ?_ (Steps.cons ?_ (Steps.cons ?_ (Steps.cons ?_ (Steps.cons ?_ (Steps.cons ?_ (Steps.cons ?_ (Steps.cons ?_ (Steps.cons ?_ (Steps.cons ?_ (Steps.cons ?_ (Steps.cons ?_ (Steps.cons ?_ (Steps.nil))))))))))))))))))
      ·
       exact V0 0
      ·
       exact V0 1
      ·
       exact V0 2
      ·
       exact V0 3
      ·
       refine V1 4 3 (h := fun LL gg z2 wx hl hLk e3 K hK => ?_)
       obtain ⟨⟨hA, ho, hz⟩⟩ := hl
       have hw := HQW.out
       dsimp only [FA]
       refine wantd (by rfl) ?_
       go_simp
       exact hK.out
      ·
       exact V0 5
      ·
       exact V0 6
      ·
       refine V1 7 6 (h := fun LL gg z2 wx hl hLk e6 K hK => ?_)
       obtain ⟨⟨hA, ho, hz⟩⟩ := hl
       have hw := HQW.out
       dsimp only [FA]
       refine wantd (by rfl) ?_
       go_simp
       exact hK.out
      ·
       exact V2 8 5 7
      ·
       refine V1 9 8 (hT := fun _ => rfl) (hR := fun LL gg z2 wx hLk hd ⟨hA, ho, hz⟩ => ⟨hA, ho, ⟨⟨fun h => ⟨rfl, (hz.out.1 h).2⟩, hz.out.2⟩⟩⟩) (h := fun LL gg z2 wx hl hLk e8 K hK => ?_)
       obtain ⟨⟨hA, ho, hz⟩⟩ := hl
       have f15 := flag_off (fun h => (hz.out.1 h).1) hLk
       have f17 := flag_off (fun h => (hz.out.1 (hz.out.2 h)).1) hLk
       have hq : Arr XX wx g E := by have h := hA.out; rw [f17, f15] at h; exact h
       have ck := hq.cell HAD.out q1 (by have := HBK.out; omega)
       rw [← HXY.out.2] at ck
       dsimp only [FA]
       refine wantd (by rfl) ?_
       go_simp
       exact hK.out
      ·
       exact V0 10
      ·
       exact V0 11
      ·
       exact V2 12 10 11
      ·
       refine V1 13 12 (hT := fun _ => rfl) (hR := fun LL gg z2 wx hLk hd ⟨hA, ho, hz⟩ => ⟨hA, ho, ⟨⟨fun h => ⟨(hz.out.1 h).1, rfl⟩, hz.out.2⟩⟩⟩) (h := fun LL gg z2 wx hl hLk e12 K hK => ?_)
       obtain ⟨⟨hA, ho, hz⟩⟩ := hl
       have f15 := flag_off (fun h => (hz.out.1 h).2) hLk
       have f17 := flag_off (fun h => (hz.out.1 (hz.out.2 h)).2) hLk
       have hq : Arr XX wx g E := by have h := hA.out; rw [f17, f15] at h; exact h
       have ck := hq.cell HAD.out q (by have := HBK.out; omega)
       rw [← HXY.out.1] at ck
       dsimp only [FA]
       refine wantd (by rfl) ?_
       go_simp
       exact hK.out
      ·
       exact V2 14 0 1
      ·
       refine CS (fun _ => rfl) fun LL gg z2 wx hl hLk hd hI K hK => ?_
       obtain ⟨⟨hA, ho, hz⟩⟩ := hl
       have e14 := hI.at 14 rfl (hd 14 rfl)
       have e9 := hI.at 9 rfl (hd 9 rfl)
       have f17 := flag_off (fun h => hz.out.2 h) hLk
       have hq : Arr XX wx g E := by have h := hA.out; rw [f17, hLk] at h; exact h
       have ck := hq.cell HAD.out q (by have := HBK.out; omega)
       have fz := hq.frozen HAD.out q
       dsimp only [FA]
       refine wantd (by rfl) ?_
       go_simp
       exact hK _ _ (sm2 e14 e9) ⟨⟨(show Arr XX _ g (bif LL 17 then _ else (E.set (o + q) y)) by rw [f17]; exact (hq.set HAD.out q y (by have := HBK.out; omega)).1)⟩, ⟨ho.out.trans (hq.set HAD.out q y (by have := HBK.out; omega)).2⟩, ⟨⟨fun _ => ⟨hd 9 rfl, hd 13 rfl⟩, fun _ => rfl⟩⟩⟩
      ·
       exact V2 15 2 4
      ·
       refine CS (fun _ => rfl) fun LL gg z2 wx hl hLk hd hI K hK => ?_
       obtain ⟨⟨hA, ho, hz⟩⟩ := hl
       have e16 := hI.at 15 rfl (hd 16 rfl)
       have e13 := hI.at 13 rfl (hd 13 rfl)
       have hq : Arr XX wx g (E.set (o + q) y) := by have h := hA.out; rw [hLk, hd 15 rfl] at h; exact h
       have ck := hq.cell HAD.out q1 (by rw [List.length_set]; have := HBK.out; omega)
       have fz := hq.frozen HAD.out q1
       dsimp only [FA]
       refine wantd (by rfl) ?_
       go_simp
       exact hK _ _ (sm2 e16 e13) ⟨⟨(hq.set HAD.out q1 x (by rw [List.length_set]; have := HBK.out; omega)).1⟩, ⟨ho.out.trans (hq.set HAD.out q1 x (by rw [List.length_set]; have := HBK.out; omega)).2⟩, ⟨⟨hz.out.1, fun _ => hd 15 rfl⟩⟩⟩
     ·
      intro LL gg z2 wd hall hI hl
      obtain ⟨⟨hA, ho, hz⟩⟩ := hl
      dsimp only [FA] at ⊢
      have HA9 : Aside0 (Arr XX wd g (swap E (o + q) (o + q1))) := ⟨by rw [swap, ← HXY.out.1, ← HXY.out.2]; have h := hA.out; rw [hall 17 (by decide)] at h; exact h⟩
      have HO9 := ho
      clear hI hA ho hz hall
      have HA10 : Aside0 (Arr XX wd g (P ++ L.take t' ++ y0 :: L.drop t' ++ Q)) := ⟨by rw [← HNX.out]; exact HA9.out⟩
      have HO10 := Aside0.mk (HOJ.out.trans HO9.out)
      go_wp2_with fail
      first
       | (refine ⟨⟨t', by rw [HQW2.out, show q1 = ia + t' by have := HQ.out; omega], HQ.out.2.2.1, Nat.le_of_lt HQ.out.2.2.2.1, HA10, HO10⟩, ?_⟩; rw [HQW2.out]; simp only [intOf]; have := HQ.out; omega)
       | (refine ⟨?_, ?_⟩; · (refine ⟨_, _, _, _, _, _, _, _, _, _, _, _, _, _, _, _, _, _, _, _, _, _, _, _, _, _, _, _, _, _, _, _, _, _, _, _, _, _, _, _, _, _, _, _, _, _, _, _, _, _, _, _, _, _, _, _, _, _, _, _, _, _, _, _, _, _, _, _, _, _, _, _, _, _, _, _, _, _, _, _, _, _, _, _, _, _, _, _, _, _, _, _, _, _, _, _, _, _, _, ?_, rfl⟩; exact ⟨t', by rw [HQW2.out, show q1 = ia + t' by have := HQ.out; omega], HQ.out.2.2.1, Nat.le_of_lt HQ.out.2.2.2.1, HA10, HO10⟩); · (show (intOf (.int .i64 (wrap64 ((q : Int) - 1)))).toNat < (intOf (.int .i64 (q : Int))).toNat; rw [HQW2.out]; simp only [intOf]; have := HQ.out; omega))
    ·
     have hc2 : ((i : Int) < (q : Int)) = False := eq_false (by have := HB.out; have := HIJ.out; omega)
     have hc2n : (i < q) = False := eq_false (by have := HB.out; have := HIJ.out; omega)
     obtain rfl : t = i - ia := by omega
     clear hlt ht ht3 hq
     go_wp2
     refine bodyPost_ret (results_none rfl _ _ _) rfl ?_
     exact ⟨rfl, _, by have h := HAJ.out; rw [List.append_assoc P] at h; exact h, HST.out, HOJ.out⟩
end Go.Proofs.YtfagobhhhljajaaW.PrintSort

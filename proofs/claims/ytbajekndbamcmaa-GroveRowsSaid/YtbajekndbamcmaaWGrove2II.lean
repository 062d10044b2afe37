/- The grove's methods, by hand (gengrove.py), further part. No condition. -/
import Derived.Test.YtbajekndbamcmaaWGroveII
import Derived.Test.YtbajekndbamcmaaWTree2
namespace Go.Proofs.YtbajekndbamcmaaW.GroveII
open Go.RowKit Go.Proofs.YtbajekndbamcmaaW.PrintWords Go.Proofs.YtbajekndbamcmaaW.PrintLast Go.Proofs.YtbajekndbamcmaaW.PrintMore Go.Proofs.YtbajekndbamcmaaW.PrintReg Go.Proofs.YtbajekndbamcmaaW.PrintTree
set_option linter.unusedVariables false
set_option linter.unusedSimpArgs false
set_option maxHeartbeats 4000000 in
set_option maxRecDepth 100000 in
theorem put_calls (fc : Nat) (hfc : ∀ args W, (callFunc fc args).run Try.prog W = .ok (.enter fc args) W) (cmp : Int → Int → Int) (OK : Int → Prop) (HC : ∀ (x y : Int) (W : World), OK x → OK y → Calls Try.prog fc #[kv x, kv y] W fun e w' => e = .returned (.int .i64 (cmp x y)) ∧ Below W.heap.size W w')
    (gg : Nat) (x : Int) (y : Int) (hx : OK x) : ∀ (t : Tree) (w : World), w.cell? ⟨gg, 0, none⟩ = some (.func (.func fc) #[] #[]) → gg ∉ t.blocks → gg < w.heap.size → Lies w t → t.blocks.Nodup → t.Fit → t.count ≤ 1000000000 → (∀ p ∈ t.list, OK p.1) →
    Calls Try.prog 69 #[.pointer (some ⟨gg, 0, none⟩), .pointer t.at_, kv x, vv y] w fun e w' => ∃ n, w.heap.size ≤ n ∧ e = .returned (.tuple #[.pointer (Tr.put cmp n x y t).1.at_, .bool (Tr.put cmp n x y t).2]) ∧ Lies w' (Tr.put cmp n x y t).1 ∧ On (· ∈ t.blocks) w w' := by
  intro t
  induction t with
  | nil =>
    intro w hf hg hgs hl hn ht hc hk
    clear hf hg hgs hl hn ht hc hk HC
    rw [show (Tr.nil : Tree).at_ = none from rfl]
    go_enter Try.func69, Try.ntmps69
    go_wp2_with fail
    go_wp2
    go_ret2
    refine ⟨w.heap.size, Nat.le_refl _, rfl, ⟨?_, trivial, trivial⟩, ?_⟩
    · exact blk_new w _
    · exact On.of_below (below_alloc (Below.refl _ _) _)
  | node g k v d l r ihl ihr =>
    intro w hf hg hgs hl hn ht hc hk
    have hnn := fun wx => run_eql_ptr_nil (P := Try.prog) wx 98 104 ⟨g, 0, none⟩ Try.underlying98
    have P := Aside0.mk (And.intro hf (And.intro hg (And.intro hgs (And.intro hl (And.intro hn (And.intro ht (And.intro hc hk)))))))
    have IL := Aside0.mk ihl
    have IR := Aside0.mk ihr
    have HCC := Aside0.mk HC
    have HX := Aside0.mk hx
    have C0 : Aside0 (w.cell? ⟨g, 0, none⟩ = some (kv k)) := ⟨(blk_cell hl.1 0).trans rfl⟩
    clear hf hg hgs hl hn ht hc hk ihl ihr HC hx
    rw [show (Tr.node g k v d l r : Tree).at_ = some ⟨g, 0, none⟩ from rfl]
    go_enter Try.func69, Try.ntmps69
    go_wp2_with fail
    refine wp_region_steps 11 rfl rfl (by kernel_rfl) (fun LL a wx => ∃ u : Nat → Value, Aside0 (a = { tmps := List.toArray (.pointer (some ⟨gg, 0, none⟩) :: .pointer (some ⟨g, 0, none⟩) :: kv x :: vv y :: undef :: undef :: undef :: undef :: .pointer none :: .bool false :: .bool false :: u 11 :: .pointer (some ⟨g, 0, none⟩) :: .bool false :: undef :: undef :: undef :: undef :: u 18 :: u 19 :: u 20 :: u 21 :: u 22 :: u 23 :: u 24 :: u 25 :: u 26 :: u 27 :: undef :: undef :: undef :: undef :: undef :: undef :: undef :: undef :: undef :: undef :: undef :: undef :: undef :: undef :: undef :: undef :: undef :: undef :: undef :: undef :: undef :: undef :: undef :: undef :: undef :: undef :: undef :: undef :: undef :: undef :: undef :: undef :: undef :: undef :: undef :: undef :: undef :: undef :: undef :: undef :: undef :: undef :: undef :: undef :: undef :: undef :: []), defers := [] } ∧ Tab LL u [(0, 18, .pointer (some ⟨gg, 0, none⟩)), (1, 19, .pointer (some ⟨gg, 0, none⟩)), (2, 20, .pointer (some ⟨gg, 0, none⟩)), (3, 21, .func (.func fc) #[] #[]), (4, 22, kv x), (5, 23, .pointer (some ⟨g, 0, none⟩)), (6, 24, .pointer (some ⟨g, 0, none⟩)), (7, 25, .pointer (some ⟨g, 0, none⟩)), (8, 26, kv k), (9, 27, .int .i64 (cmp x k)), (10, 11, .int .i64 (cmp x k))] ∧ Aside0 (Below w.heap.size w wx))) ?_ ?_ ?_
    · exact ⟨fun _ => undef, ⟨rfl, Tab.start 11 rfl rfl, ⟨below_drew (Below.refl _ _)⟩⟩⟩
    · refine Steps.cons ?_ (Steps.cons ?_ (Steps.cons ?_ (Steps.cons ?_ (Steps.cons ?_ (Steps.cons ?_ (Steps.cons ?_ (Steps.cons ?_ (Steps.cons ?_ (Steps.cons ?_ (Steps.cons ?_ (Steps.nil)))))))))))
      · intro LL a wx hI hLk hd K' hK
        obtain ⟨u, hI⟩ := hI
        obtain rfl := hI.out.1
        rw [if_pos (by rfl)]
        go_simp
        exact hK.out _ _ ⟨(put1 u 18 (.pointer (some ⟨gg, 0, none⟩))), ⟨rfl, hI.out.2.1.upd 0 rfl rfl rfl rfl, hI.out.2.2⟩⟩
      · intro LL a wx hI hLk hd K' hK
        obtain ⟨u, hI⟩ := hI
        obtain rfl := hI.out.1
        have e0 := hI.out.2.1.at 0 rfl (hd 0 rfl)
        rw [if_pos (by rfl)]
        go_simp
        exact hK.out _ _ ⟨(put1 (put1 u 18 (.pointer (some ⟨gg, 0, none⟩))) 19 (.pointer (some ⟨gg, 0, none⟩))), ⟨rfl, (hI.out.2.1.same (s := 18) (v := .pointer (some ⟨gg, 0, none⟩)) e0).upd 1 rfl rfl rfl rfl, hI.out.2.2⟩⟩
      · intro LL a wx hI hLk hd K' hK
        obtain ⟨u, hI⟩ := hI
        obtain rfl := hI.out.1
        have e1 := hI.out.2.1.at 1 rfl (hd 1 rfl)
        rw [if_pos (by rfl)]
        go_simp
        exact hK.out _ _ ⟨(put1 (put1 u 19 (.pointer (some ⟨gg, 0, none⟩))) 20 (.pointer (some ⟨gg, 0, none⟩))), ⟨rfl, (hI.out.2.1.same (s := 19) (v := .pointer (some ⟨gg, 0, none⟩)) e1).upd 2 rfl rfl rfl rfl, hI.out.2.2⟩⟩
      · intro LL a wx hI hLk hd K' hK
        obtain ⟨u, hI⟩ := hI
        obtain rfl := hI.out.1
        have e2 := hI.out.2.1.at 2 rfl (hd 2 rfl)
        have hb := hI.out.2.2
        have ck := cell_keep hb.out P.out.1
        rw [if_pos (by rfl)]
        go_simp
        exact hK.out _ _ ⟨(put1 (put1 u 20 (.pointer (some ⟨gg, 0, none⟩))) 21 (.func (.func fc) #[] #[])), ⟨rfl, (hI.out.2.1.same (s := 20) (v := .pointer (some ⟨gg, 0, none⟩)) e2).upd 3 rfl rfl rfl rfl, hI.out.2.2⟩⟩
      · intro LL a wx hI hLk hd K' hK
        obtain ⟨u, hI⟩ := hI
        obtain rfl := hI.out.1
        rw [if_pos (by rfl)]
        go_simp
        exact hK.out _ _ ⟨(put1 u 22 (kv x)), ⟨rfl, hI.out.2.1.upd 4 rfl rfl rfl rfl, hI.out.2.2⟩⟩
      · intro LL a wx hI hLk hd K' hK
        obtain ⟨u, hI⟩ := hI
        obtain rfl := hI.out.1
        rw [if_pos (by rfl)]
        go_simp
        exact hK.out _ _ ⟨(put1 u 23 (.pointer (some ⟨g, 0, none⟩))), ⟨rfl, hI.out.2.1.upd 5 rfl rfl rfl rfl, hI.out.2.2⟩⟩
      · intro LL a wx hI hLk hd K' hK
        obtain ⟨u, hI⟩ := hI
        obtain rfl := hI.out.1
        have e5 := hI.out.2.1.at 5 rfl (hd 5 rfl)
        rw [if_pos (by rfl)]
        go_simp
        exact hK.out _ _ ⟨(put1 (put1 u 23 (.pointer (some ⟨g, 0, none⟩))) 24 (.pointer (some ⟨g, 0, none⟩))), ⟨rfl, (hI.out.2.1.same (s := 23) (v := .pointer (some ⟨g, 0, none⟩)) e5).upd 6 rfl rfl rfl rfl, hI.out.2.2⟩⟩
      · intro LL a wx hI hLk hd K' hK
        obtain ⟨u, hI⟩ := hI
        obtain rfl := hI.out.1
        have e6 := hI.out.2.1.at 6 rfl (hd 6 rfl)
        rw [if_pos (by rfl)]
        go_simp
        exact hK.out _ _ ⟨(put1 (put1 u 24 (.pointer (some ⟨g, 0, none⟩))) 25 (.pointer (some ⟨g, 0, none⟩))), ⟨rfl, (hI.out.2.1.same (s := 24) (v := .pointer (some ⟨g, 0, none⟩)) e6).upd 7 rfl rfl rfl rfl, hI.out.2.2⟩⟩
      · intro LL a wx hI hLk hd K' hK
        obtain ⟨u, hI⟩ := hI
        obtain rfl := hI.out.1
        have e7 := hI.out.2.1.at 7 rfl (hd 7 rfl)
        have hb := hI.out.2.2
        have ck := cell_keep hb.out C0.out
        rw [if_pos (by rfl)]
        go_simp
        exact hK.out _ _ ⟨(put1 (put1 u 25 (.pointer (some ⟨g, 0, none⟩))) 26 (kv k)), ⟨rfl, (hI.out.2.1.same (s := 25) (v := .pointer (some ⟨g, 0, none⟩)) e7).upd 8 rfl rfl rfl rfl, hI.out.2.2⟩⟩
      · intro LL a wx hI hLk hd K' hK
        obtain ⟨u, hI⟩ := hI
        obtain rfl := hI.out.1
        have e3 := hI.out.2.1.at 3 rfl (hd 3 rfl)
        have e4 := hI.out.2.1.at 4 rfl (hd 4 rfl)
        have e8 := hI.out.2.1.at 8 rfl (hd 8 rfl)
        have hb := hI.out.2.2
        rw [if_pos (by rfl)]
        go_simp
        refine (HCC.out x k wx HX.out (P.out.2.2.2.2.2.2.2 (k, v) (by simp [Tr.list]))).mono ?_
        rintro e w' ⟨rfl, hb1⟩
        exact hK.out _ _ ⟨(put1 (put1 (put1 (put1 u 21 (.func (.func fc) #[] #[])) 22 (kv x)) 26 (kv k)) 27 (.int .i64 (cmp x k))), ⟨rfl, (((hI.out.2.1.same (s := 21) (v := .func (.func fc) #[] #[]) e3).same (s := 22) (v := kv x) e4).same (s := 26) (v := kv k) e8).upd 9 rfl rfl rfl rfl, ⟨below_step hb.out hb1⟩⟩⟩
      · intro LL a wx hI hLk hd K' hK
        obtain ⟨u, hI⟩ := hI
        obtain rfl := hI.out.1
        have e9 := hI.out.2.1.at 9 rfl (hd 9 rfl)
        rw [if_pos (by rfl)]
        go_simp
        exact hK.out _ _ ⟨(put1 (put1 u 27 (.int .i64 (cmp x k))) 11 (.int .i64 (cmp x k))), ⟨rfl, (hI.out.2.1.same (s := 27) (v := .int .i64 (cmp x k)) e9).upd 10 rfl rfl rfl rfl, hI.out.2.2⟩⟩
    · intro LL a wq hall hI
      obtain ⟨u, hI⟩ := hI
      obtain rfl := hI.out.1
      have hb := hI.out.2.2
      have e10 := hI.out.2.1.at 10 rfl (hall 10 (by decide))
      rw [e10]
      have HB := hb
      clear hI hb e10 hall
      by_cases c1 : cmp x k < 0
      · have c1t : (cmp x k < 0) = True := eq_true c1
        have hL := P.out.2.2.2.1.below HB.out
        have ck2 : wq.cell? ⟨g, 2, none⟩ = some (.pointer l.at_) := (blk_cell hL.1 2).trans rfl
        have HL := Aside0.mk hL
        clear hL
        go_wp2_with fail
        go_at_call 69
        refine (IL.out wq (cell_keep HB.out P.out.1) (fun q => P.out.2.1 (by simp [Tr.blocks, q])) (Nat.lt_of_lt_of_le P.out.2.2.1 HB.out.size) HL.out.2.1 (Tr.parts P.out.2.2.2.2.1).2.2.1 P.out.2.2.2.2.2.1.2.1 (by have := P.out.2.2.2.2.2.2.1; simp only [Tr.count] at this; omega) (fun p hp => P.out.2.2.2.2.2.2.2 p (by simp [Tr.list, hp]))).mono ?_
        rintro e w2 ⟨n, hn, rfl, hl2, ho2⟩
        obtain ⟨ckl, fkl, hl3, hn3, ho3, hs3⟩ := Tr.relink_l HL.out P.out.2.2.2.2.1 ho2 hl2 (fun q hq => (Tr.put_mem cmp x y hq).elim (fun e => .inr (e ▸ hn)) .inl) (Tr.put_nodup cmp x y (Tr.parts P.out.2.2.2.2.1).2.2.1 (fun q => absurd (HL.out.2.1.lt _ q) (Nat.not_lt.mpr hn)))
        have H3 := Aside0.mk (And.intro hl3 (And.intro hn3 (And.intro ho3 (And.intro hs3 hn))))
        clear hl2 ho2 hl3 hn3 ho3 hs3 ck2 hn HL
        go_wp2_with fail
        clear ckl fkl
        obtain ⟨w3, hw3⟩ : ∃ W, W = w2.setCell ⟨g, 2, none⟩ (.pointer (Tr.put cmp n x y l).1.at_) := ⟨_, rfl⟩
        rw [← hw3] at H3 ⊢
        clear hw3
        go_at_call 91
        refine (even_calls g k v d (Tr.put cmp n x y l).1 r w3 H3.out.1.1 H3.out.1.2.1 H3.out.1.2.2 H3.out.2.1 (Tr.put_fit cmp n x y P.out.2.2.2.2.2.1.2.1) P.out.2.2.2.2.2.1.2.2 (by have := P.out.2.2.2.2.2.2.1; have := Tr.put_count cmp n x y l; simp only [Tr.count] at *; omega)).mono ?_
        rintro e w4 ⟨rfl, hl4, ho4⟩
        have HR : Tr.put cmp n x y (.node g k v d l r) = (Tr.even g k v (Tr.put cmp n x y l).1 r, (Tr.put cmp n x y l).2) := by rw [Tr.put, if_pos (of_eq_true c1t)]
        have H4 := Aside0.mk (And.intro hl4 (And.intro ((On.of_below HB.out).trans (H3.out.2.2.1.then ho4 H3.out.2.2.2.1)) (And.intro (Nat.le_trans HB.out.size H3.out.2.2.2.2) HR)))
        clear hl4 ho4 H3 HR
        go_wp2
        go_ret2
        refine ⟨n, H4.out.2.2.1, ?_⟩
        rw [H4.out.2.2.2]
        exact ⟨rfl, H4.out.1, H4.out.2.1⟩
      · have c1f : (cmp x k < 0) = False := eq_false c1
        by_cases c2 : 0 < cmp x k
        · have c1t : ((0 : Int) < cmp x k) = True := eq_true c2
          have hL := P.out.2.2.2.1.below HB.out
          have ck2 : wq.cell? ⟨g, 3, none⟩ = some (.pointer r.at_) := (blk_cell hL.1 3).trans rfl
          have HL := Aside0.mk hL
          clear hL
          go_wp2_with fail
          go_at_call 69
          refine (IR.out wq (cell_keep HB.out P.out.1) (fun q => P.out.2.1 (by simp [Tr.blocks, q])) (Nat.lt_of_lt_of_le P.out.2.2.1 HB.out.size) HL.out.2.2 (Tr.parts P.out.2.2.2.2.1).2.2.2.1 P.out.2.2.2.2.2.1.2.2 (by have := P.out.2.2.2.2.2.2.1; simp only [Tr.count] at this; omega) (fun p hp => P.out.2.2.2.2.2.2.2 p (by simp [Tr.list, hp]))).mono ?_
          rintro e w2 ⟨n, hn, rfl, hl2, ho2⟩
          obtain ⟨ckl, fkl, hl3, hn3, ho3, hs3⟩ := Tr.relink_r HL.out P.out.2.2.2.2.1 ho2 hl2 (fun q hq => (Tr.put_mem cmp x y hq).elim (fun e => .inr (e ▸ hn)) .inl) (Tr.put_nodup cmp x y (Tr.parts P.out.2.2.2.2.1).2.2.2.1 (fun q => absurd (HL.out.2.2.lt _ q) (Nat.not_lt.mpr hn)))
          have H3 := Aside0.mk (And.intro hl3 (And.intro hn3 (And.intro ho3 (And.intro hs3 hn))))
          clear hl2 ho2 hl3 hn3 ho3 hs3 ck2 hn HL
          go_wp2_with fail
          clear ckl fkl
          obtain ⟨w3, hw3⟩ : ∃ W, W = w2.setCell ⟨g, 3, none⟩ (.pointer (Tr.put cmp n x y r).1.at_) := ⟨_, rfl⟩
          rw [← hw3] at H3 ⊢
          clear hw3
          go_at_call 91
          refine (even_calls g k v d l (Tr.put cmp n x y r).1 w3 H3.out.1.1 H3.out.1.2.1 H3.out.1.2.2 H3.out.2.1 P.out.2.2.2.2.2.1.2.1 (Tr.put_fit cmp n x y P.out.2.2.2.2.2.1.2.2) (by have := P.out.2.2.2.2.2.2.1; have := Tr.put_count cmp n x y r; simp only [Tr.count] at *; omega)).mono ?_
          rintro e w4 ⟨rfl, hl4, ho4⟩
          have HR : Tr.put cmp n x y (.node g k v d l r) = (Tr.even g k v l (Tr.put cmp n x y r).1, (Tr.put cmp n x y r).2) := by rw [Tr.put, if_neg (of_eq_false c1f), if_pos (of_eq_true c1t)]
          have H4 := Aside0.mk (And.intro hl4 (And.intro ((On.of_below HB.out).trans (H3.out.2.2.1.then ho4 H3.out.2.2.2.1)) (And.intro (Nat.le_trans HB.out.size H3.out.2.2.2.2) HR)))
          clear hl4 ho4 H3 HR
          go_wp2
          go_ret2
          refine ⟨n, H4.out.2.2.1, ?_⟩
          rw [H4.out.2.2.2]
          exact ⟨rfl, H4.out.1, H4.out.2.1⟩
        · have c2f : ((0 : Int) < cmp x k) = False := eq_false c2
          have hL := P.out.2.2.2.1.below HB.out
          have ck0 : wq.cell? ⟨g, 0, none⟩ = some (kv k) := (blk_cell hL.1 0).trans rfl
          have fk0 := blk_frozen hL.1 0
          have hx1 : (wq.setCell ⟨g, 0, none⟩ (kv x)).heap[g]? = some (cells x v (.pointer l.at_) (.pointer r.at_) d) := blk_put hL.1 0 _ rfl
          have ck1 : (wq.setCell ⟨g, 0, none⟩ (kv x)).cell? ⟨g, 1, none⟩ = some (vv v) := (blk_cell hx1 1).trans rfl
          have fk1 := blk_frozen hx1 1
          have o3 : On (fun q => q = g) wq ((wq.setCell ⟨g, 0, none⟩ (kv x)).setCell ⟨g, 1, none⟩ (vv y)) := On.set (P := fun q => q = g) (On.set (P := fun q => q = g) (On.refl _ _) (p := ⟨g, 0, none⟩) rfl _) (p := ⟨g, 1, none⟩) rfl _
          have hl3 : Lies ((wq.setCell ⟨g, 0, none⟩ (kv x)).setCell ⟨g, 1, none⟩ (vv y)) (.node g x y d l r) := ⟨blk_put hx1 1 _ rfl, hL.2.1.on o3 (fun q hq e => (Tr.parts P.out.2.2.2.2.1).1 (e ▸ hq)), hL.2.2.on o3 (fun q hq e => (Tr.parts P.out.2.2.2.2.1).2.1 (e ▸ hq))⟩
          have HR : Tr.put cmp w.heap.size x y (.node g k v d l r) = (.node g x y d l r, true) := by rw [Tr.put, if_neg c1, if_neg c2]
          have H3 := Aside0.mk (And.intro hl3 (And.intro (show On (· ∈ (Tr.node g k v d l r : Tree).blocks) w _ from (On.of_below HB.out).trans (o3.mono (fun q e => by rw [e]; simp [Tr.blocks]))) HR))
          clear hL hx1 o3 hl3 HR
          go_wp2
          go_ret2
          refine ⟨w.heap.size, Nat.le_refl _, ?_⟩
          rw [H3.out.2.2]
          exact ⟨rfl, H3.out.1, H3.out.2.1⟩

set_option maxHeartbeats 4000000 in
set_option maxRecDepth 100000 in
theorem first_calls : ∀ (l : Tree) (g : Nat) (k : Int) (v : Int) (d : Int) (r : Tree) (w : World), Lies w (.node g k v d l r) → (Tr.node g k v d l r : Tree).blocks.Nodup → l.Fit → r.Fit → l.count + r.count ≤ 1000000000 →
    Calls Try.prog 104 #[.pointer (some ⟨g, 0, none⟩)] w fun e w' => e = .returned (.tuple #[.pointer (Tr.first g k v l r).1.at_, .pointer (some ⟨(Tr.first g k v l r).2.1, 0, none⟩)]) ∧ Lies w' (Tr.first g k v l r).1 ∧
      (∃ (lv rv : Value) (dv : Int), w'.heap[(Tr.first g k v l r).2.1]? = some (cells (Tr.first g k v l r).2.2.1 (Tr.first g k v l r).2.2.2 lv rv dv)) ∧ On (· ∈ (Tr.node g k v d l r : Tree).blocks) w w' := by
  intro l
  induction l with
  | nil =>
    intro g k v d r w hl hn fl fr hc
    have c2 : w.cell? ⟨g, 2, none⟩ = some (.pointer none) := (blk_cell hl.1 2).trans rfl
    have c3 : w.cell? ⟨g, 3, none⟩ = some (.pointer r.at_) := (blk_cell hl.1 3).trans rfl
    have H := Aside0.mk hl
    clear hl hn fl fr hc
    have hu := Try.underlying98
    go_enter Try.func104, Try.ntmps104
    go_wp2
    go_ret2
    exact ⟨rfl, H.out.2.2, ⟨_, _, _, H.out.1⟩, On.refl _ _⟩
  | node g1 k1 v1 d1 l1 r1 ih _ =>
    intro g k v d r w hl hn fl fr hc
    have hnn := fun wx => run_eql_ptr_nil (P := Try.prog) wx 98 104 ⟨g1, 0, none⟩ Try.underlying98
    have c2 : w.cell? ⟨g, 2, none⟩ = some (.pointer (some ⟨g1, 0, none⟩)) := (blk_cell hl.1 2).trans rfl
    have P := Aside0.mk (And.intro hl (And.intro hn (And.intro fl (And.intro fr hc))))
    have IL := Aside0.mk ih
    clear hl hn fl fr hc ih
    go_enter Try.func104, Try.ntmps104
    go_wp2_with fail
    go_at_call 104
    refine (IL.out g1 k1 v1 d1 r1 w P.out.1.2.1 (Tr.parts P.out.2.1).2.2.1 P.out.2.2.1.2.1 P.out.2.2.1.2.2 (by have := P.out.2.2.2.2; simp only [Tr.count] at this; omega)).mono ?_
    rintro e w2 ⟨rfl, hl2, ⟨lv, rv, dv, hm2⟩, ho2⟩
    have gn := Tr.first_gone (k := k1) (v := v1) (Tr.parts P.out.2.1).2.2.1
    obtain ⟨ckl, fkl, hl3, hn3, ho3, hs3⟩ := Tr.relink_l P.out.1 P.out.2.1 ho2 hl2 (fun q hq => .inl (by have := Tr.first_sub hq; simpa [Tr.blocks] using this)) gn.2.2
    have gm : (Tr.first g1 k1 v1 l1 r1).2.1 ∈ (Tr.node g1 k1 v1 d1 l1 r1 : Tree).blocks := by have := gn.1; simpa [Tr.blocks] using this
    have gne : (Tr.first g1 k1 v1 l1 r1).2.1 ≠ g := fun e => (Tr.parts P.out.2.1).1 (e ▸ gm)
    have hm3 := blk_far hm2 (p := ⟨g, 2, none⟩) gne (.pointer (Tr.first g1 k1 v1 l1 r1).1.at_)
    have gno : (Tr.first g1 k1 v1 l1 r1).2.1 ∉ (Tr.node g k v d (Tr.first g1 k1 v1 l1 r1).1 r : Tree).blocks := by
      simp only [Tr.blocks, List.mem_cons, List.mem_append, not_or]
      exact ⟨gne, gn.2.1, (Tr.parts P.out.2.1).2.2.2.2 _ gm⟩
    have H3 := Aside0.mk (And.intro hl3 (And.intro hn3 (And.intro ho3 (And.intro hs3 (And.intro hm3 gno)))))
    clear hl2 ho2 hl3 hn3 ho3 hs3 hm2 hm3 gn gm gne gno c2
    go_wp2_with fail
    clear ckl fkl
    obtain ⟨w3, hw3⟩ : ∃ W, W = w2.setCell ⟨g, 2, none⟩ (.pointer (Tr.first g1 k1 v1 l1 r1).1.at_) := ⟨_, rfl⟩
    rw [← hw3] at H3 ⊢
    clear hw3
    go_at_call 91
    refine (even_calls g k v d (Tr.first g1 k1 v1 l1 r1).1 r w3 H3.out.1.1 H3.out.1.2.1 H3.out.1.2.2 H3.out.2.1 (Tr.first_fit P.out.2.2.1.2.1 P.out.2.2.1.2.2) P.out.2.2.2.1 (by have := P.out.2.2.2.2; have := Tr.first_count (g := g1) (k := k1) (v := v1) (l := l1) (r := r1); simp only [Tr.count] at *; omega)).mono ?_
    rintro e w4 ⟨rfl, hl4, ho4⟩
    have H4 := Aside0.mk (And.intro hl4 (And.intro (show On (· ∈ (Tr.node g k v d (Tr.node g1 k1 v1 d1 l1 r1) r : Tree).blocks) w w4 from H3.out.2.2.1.then ho4 H3.out.2.2.2.1) (ho4.blk H3.out.2.2.2.2.1 H3.out.2.2.2.2.2)))
    clear hl4 ho4 H3
    go_wp2
    go_ret2
    exact ⟨rfl, H4.out.1, ⟨_, _, _, H4.out.2.2⟩, H4.out.2.1⟩

set_option maxHeartbeats 4000000 in
set_option maxRecDepth 100000 in
theorem joined_calls (g : Nat) (k : Int) (v : Int) (d : Int) (l r : Tree) (w : World) (hl : Lies w (.node g k v d l r)) (hn : (Tr.node g k v d l r : Tree).blocks.Nodup) (fl : l.Fit) (fr : r.Fit) (hc : l.count + r.count ≤ 1000000000) :
    Calls Try.prog 92 #[.pointer (some ⟨g, 0, none⟩)] w fun e w' => e = .returned (.pointer (Tr.joined l r).at_) ∧ Lies w' (Tr.joined l r) ∧ On (fun q => q ∈ l.blocks ∨ q ∈ r.blocks) w w' := by
  have c2 : w.cell? ⟨g, 2, none⟩ = some (.pointer l.at_) := (blk_cell hl.1 2).trans rfl
  have c3 : w.cell? ⟨g, 3, none⟩ = some (.pointer r.at_) := (blk_cell hl.1 3).trans rfl
  have P := Aside0.mk (And.intro hl (And.intro hn (And.intro fl (And.intro fr hc))))
  clear hl hn fl fr hc
  have hu := Try.underlying98
  cases l with
  | nil =>
    rw [show (Tr.nil : Tree).at_ = none from rfl] at c2
    go_enter Try.func92, Try.ntmps92
    go_wp2
    go_ret
    exact ⟨rfl, P.out.1.2.2, On.refl _ _⟩
  | node g1 k1 v1 d1 a1 b1 =>
    have hnn := fun wx => run_eql_ptr_nil (P := Try.prog) wx 98 104 ⟨g1, 0, none⟩ Try.underlying98
    have hnq := fun wx => run_neq_ptr_nil (P := Try.prog) wx 98 104 ⟨g1, 0, none⟩ Try.underlying98
    rw [show (Tr.node g1 k1 v1 d1 a1 b1 : Tree).at_ = some ⟨g1, 0, none⟩ from rfl] at c2
    cases r with
    | nil =>
      rw [show (Tr.nil : Tree).at_ = none from rfl] at c3
      go_enter Try.func92, Try.ntmps92
      go_wp2
      go_ret
      exact ⟨rfl, P.out.1.2.1, On.refl _ _⟩
    | node g2 k2 v2 d2 a2 b2 =>
      have hnn2 := fun wx => run_eql_ptr_nil (P := Try.prog) wx 98 104 ⟨g2, 0, none⟩ Try.underlying98
      rw [show (Tr.node g2 k2 v2 d2 a2 b2 : Tree).at_ = some ⟨g2, 0, none⟩ from rfl] at c3
      clear hu
      go_enter Try.func92, Try.ntmps92
      go_wp2_with fail
      go_at_call 104
      refine (first_calls a2 g2 k2 v2 d2 b2 w P.out.1.2.2 (Tr.parts P.out.2.1).2.2.2.1 P.out.2.2.2.1.2.1 P.out.2.2.2.1.2.2 (by have := P.out.2.2.2.2; simp only [Tr.count] at this; omega)).mono ?_
      rintro e w2 ⟨rfl, hl2, ⟨lv, rv, dv, hm2⟩, ho2⟩
      have gn := Tr.first_gone (k := k2) (v := v2) (Tr.parts P.out.2.1).2.2.2.1
      have gm : (Tr.first g2 k2 v2 a2 b2).2.1 ∈ (Tr.node g2 k2 v2 d2 a2 b2 : Tree).blocks := by have := gn.1; simpa [Tr.blocks] using this
      have hs2 : ∀ q ∈ (Tr.first g2 k2 v2 a2 b2).1.blocks, q ∈ (Tr.node g2 k2 v2 d2 a2 b2 : Tree).blocks := fun q hq => by have := Tr.first_sub hq; simpa [Tr.blocks] using this
      have dis := (Tr.parts P.out.2.1).2.2.2.2
      have gml : (Tr.first g2 k2 v2 a2 b2).2.1 ∉ (Tr.node g1 k1 v1 d1 a1 b1 : Tree).blocks := fun q => dis _ q gm
      have C2 : w2.cell? ⟨g, 2, none⟩ = some (.pointer (some ⟨g1, 0, none⟩)) := (blk_cell (ho2.blk P.out.1.1 (Tr.parts P.out.2.1).2.1) 2).trans rfl
      have hx1 : (w2.setCell ⟨(Tr.first g2 k2 v2 a2 b2).2.1, 2, none⟩ (.pointer (some ⟨g1, 0, none⟩))).heap[(Tr.first g2 k2 v2 a2 b2).2.1]? = some (cells (Tr.first g2 k2 v2 a2 b2).2.2.1 (Tr.first g2 k2 v2 a2 b2).2.2.2 (.pointer (some ⟨g1, 0, none⟩)) rv dv) := blk_put hm2 2 _ rfl
      have M1 : w2.cell? ⟨(Tr.first g2 k2 v2 a2 b2).2.1, 2, none⟩ = some lv := (blk_cell hm2 2).trans rfl
      have F1 := blk_frozen hm2 2
      have M2 : (w2.setCell ⟨(Tr.first g2 k2 v2 a2 b2).2.1, 2, none⟩ (.pointer (some ⟨g1, 0, none⟩))).cell? ⟨(Tr.first g2 k2 v2 a2 b2).2.1, 3, none⟩ = some rv := (blk_cell hx1 3).trans rfl
      have F2 := blk_frozen hx1 3
      have o3 : On (fun q => q = (Tr.first g2 k2 v2 a2 b2).2.1) w2 ((w2.setCell ⟨(Tr.first g2 k2 v2 a2 b2).2.1, 2, none⟩ (.pointer (some ⟨g1, 0, none⟩))).setCell ⟨(Tr.first g2 k2 v2 a2 b2).2.1, 3, none⟩ (.pointer (Tr.first g2 k2 v2 a2 b2).1.at_)) := On.set (P := fun q => q = (Tr.first g2 k2 v2 a2 b2).2.1) (On.set (P := fun q => q = (Tr.first g2 k2 v2 a2 b2).2.1) (On.refl _ _) (p := ⟨_, 2, none⟩) rfl _) (p := ⟨_, 3, none⟩) rfl _
      have hl3 : Lies ((w2.setCell ⟨(Tr.first g2 k2 v2 a2 b2).2.1, 2, none⟩ (.pointer (some ⟨g1, 0, none⟩))).setCell ⟨(Tr.first g2 k2 v2 a2 b2).2.1, 3, none⟩ (.pointer (Tr.first g2 k2 v2 a2 b2).1.at_)) (.node (Tr.first g2 k2 v2 a2 b2).2.1 (Tr.first g2 k2 v2 a2 b2).2.2.1 (Tr.first g2 k2 v2 a2 b2).2.2.2 dv (.node g1 k1 v1 d1 a1 b1) (Tr.first g2 k2 v2 a2 b2).1) :=
        ⟨blk_put hx1 3 _ rfl, (P.out.1.2.1.on ho2 (fun q hq e => dis q hq e)).on o3 (fun q hq e => gml (e ▸ hq)), hl2.on o3 (fun q hq e => gn.2.1 (e ▸ hq))⟩
      have hn3 : (Tr.node (Tr.first g2 k2 v2 a2 b2).2.1 (Tr.first g2 k2 v2 a2 b2).2.2.1 (Tr.first g2 k2 v2 a2 b2).2.2.2 dv (.node g1 k1 v1 d1 a1 b1) (Tr.first g2 k2 v2 a2 b2).1 : Tree).blocks.Nodup := Tr.of_parts ⟨gml, gn.2.1, (Tr.parts P.out.2.1).2.2.1, gn.2.2, fun q hq hq2 => dis q hq (hs2 q hq2)⟩
      have ho3 : On (fun q => q ∈ (Tr.node g1 k1 v1 d1 a1 b1 : Tree).blocks ∨ q ∈ (Tr.node g2 k2 v2 d2 a2 b2 : Tree).blocks) w ((w2.setCell ⟨(Tr.first g2 k2 v2 a2 b2).2.1, 2, none⟩ (.pointer (some ⟨g1, 0, none⟩))).setCell ⟨(Tr.first g2 k2 v2 a2 b2).2.1, 3, none⟩ (.pointer (Tr.first g2 k2 v2 a2 b2).1.at_)) := (ho2.mono (fun q hq => .inr hq)).trans (o3.mono (fun q e => .inr (e ▸ gm)))
      have hs3 : ∀ q, q ∈ (Tr.node (Tr.first g2 k2 v2 a2 b2).2.1 (Tr.first g2 k2 v2 a2 b2).2.2.1 (Tr.first g2 k2 v2 a2 b2).2.2.2 dv (.node g1 k1 v1 d1 a1 b1) (Tr.first g2 k2 v2 a2 b2).1 : Tree).blocks → q ∈ (Tr.node g1 k1 v1 d1 a1 b1 : Tree).blocks ∨ q ∈ (Tr.node g2 k2 v2 d2 a2 b2 : Tree).blocks := fun q hq => by
        rw [Tr.blocks, List.mem_cons, List.mem_append] at hq
        rcases hq with rfl | hq | hq
        · exact .inr gm
        · exact .inl hq
        · exact .inr (hs2 q hq)
      have H3 := Aside0.mk (And.intro hl3 (And.intro hn3 (And.intro ho3 hs3)))
      clear hl2 ho2 hl3 hn3 ho3 hs3 hm2 hx1 gn gm gml o3 hs2 dis c2 c3
      go_wp2_with fail
      obtain ⟨w3, hw3⟩ : ∃ W, W = (w2.setCell ⟨(Tr.first g2 k2 v2 a2 b2).2.1, 2, none⟩ (.pointer (some ⟨g1, 0, none⟩))).setCell ⟨(Tr.first g2 k2 v2 a2 b2).2.1, 3, none⟩ (.pointer (Tr.first g2 k2 v2 a2 b2).1.at_) := ⟨_, rfl⟩
      clear M1 M2 F1 F2 C2
      rw [← hw3] at H3 ⊢
      clear hw3
      go_at_call 91
      refine (even_calls (Tr.first g2 k2 v2 a2 b2).2.1 (Tr.first g2 k2 v2 a2 b2).2.2.1 (Tr.first g2 k2 v2 a2 b2).2.2.2 dv (.node g1 k1 v1 d1 a1 b1) (Tr.first g2 k2 v2 a2 b2).1 w3 H3.out.1.1 H3.out.1.2.1 H3.out.1.2.2 H3.out.2.1 P.out.2.2.1 (Tr.first_fit P.out.2.2.2.1.2.1 P.out.2.2.2.1.2.2) (by have := P.out.2.2.2.2; have := Tr.first_count (g := g2) (k := k2) (v := v2) (l := a2) (r := b2); simp only [Tr.count] at *; omega)).mono ?_
      rintro e w4 ⟨rfl, hl4, ho4⟩
      have H4 := Aside0.mk (And.intro hl4 (show On (fun q => q ∈ (Tr.node g1 k1 v1 d1 a1 b1 : Tree).blocks ∨ q ∈ (Tr.node g2 k2 v2 d2 a2 b2 : Tree).blocks) w w4 from H3.out.2.2.1.trans (ho4.mono H3.out.2.2.2)))
      clear hl4 ho4 H3
      go_wp2
      go_ret
      exact ⟨rfl, H4.out.1, H4.out.2⟩

set_option maxHeartbeats 4000000 in
set_option maxRecDepth 100000 in
theorem take_calls (fc : Nat) (hfc : ∀ args W, (callFunc fc args).run Try.prog W = .ok (.enter fc args) W) (cmp : Int → Int → Int) (OK : Int → Prop) (HC : ∀ (x y : Int) (W : World), OK x → OK y → Calls Try.prog fc #[kv x, kv y] W fun e w' => e = .returned (.int .i64 (cmp x y)) ∧ Below W.heap.size W w')
    (gg : Nat) (x : Int) (hx : OK x) : ∀ (t : Tree) (w : World), w.cell? ⟨gg, 0, none⟩ = some (.func (.func fc) #[] #[]) → gg ∉ t.blocks → gg < w.heap.size → Lies w t → t.blocks.Nodup → t.Fit → t.count ≤ 1000000000 → (∀ p ∈ t.list, OK p.1) →
    Calls Try.prog 70 #[.pointer (some ⟨gg, 0, none⟩), .pointer t.at_, kv x] w fun e w' => e = .returned (.tuple #[.pointer (Tr.take cmp x t).1.at_, .pointer ((Tr.take cmp x t).2.map (fun p => ⟨p.1, 0, none⟩))]) ∧ Lies w' (Tr.take cmp x t).1 ∧
      (∀ p, (Tr.take cmp x t).2 = some p → ∃ (kk lv rv dv : Value), w'.heap[p.1]? = some (.cells #[kk, vv p.2, lv, rv, dv] 104 (0, 0))) ∧ On (· ∈ t.blocks) w w' := by
  intro t
  induction t with
  | nil =>
    intro w hf hg hgs hl hn ht hc hk
    clear hf hg hgs hl hn ht hc hk HC
    rw [show (Tr.nil : Tree).at_ = none from rfl]
    go_enter Try.func70, Try.ntmps70
    go_wp2_with fail
    go_wp2
    go_ret2
    exact ⟨rfl, trivial, fun p hp => by simp [Tr.take] at hp, On.refl _ _⟩
  | node g k v d l r ihl ihr =>
    intro w hf hg hgs hl hn ht hc hk
    have hnn := fun wx => run_eql_ptr_nil (P := Try.prog) wx 98 104 ⟨g, 0, none⟩ Try.underlying98
    have P := Aside0.mk (And.intro hf (And.intro hg (And.intro hgs (And.intro hl (And.intro hn (And.intro ht (And.intro hc hk)))))))
    have IL := Aside0.mk ihl
    have IR := Aside0.mk ihr
    have HCC := Aside0.mk HC
    have HX := Aside0.mk hx
    have C0 : Aside0 (w.cell? ⟨g, 0, none⟩ = some (kv k)) := ⟨(blk_cell hl.1 0).trans rfl⟩
    clear hf hg hgs hl hn ht hc hk ihl ihr HC hx
    rw [show (Tr.node g k v d l r : Tree).at_ = some ⟨g, 0, none⟩ from rfl]
    go_enter Try.func70, Try.ntmps70
    go_wp2_with fail
    refine wp_region_steps 11 rfl rfl (by kernel_rfl) (fun LL a wx => ∃ u : Nat → Value, Aside0 (a = { tmps := List.toArray (.pointer (some ⟨gg, 0, none⟩) :: .pointer (some ⟨g, 0, none⟩) :: kv x :: undef :: undef :: undef :: .pointer none :: .pointer none :: .pointer none :: u 9 :: .pointer (some ⟨g, 0, none⟩) :: .bool false :: u 12 :: u 13 :: u 14 :: u 15 :: u 16 :: u 17 :: u 18 :: u 19 :: u 20 :: u 21 :: undef :: undef :: undef :: undef :: undef :: undef :: undef :: undef :: undef :: undef :: undef :: undef :: undef :: undef :: undef :: undef :: undef :: undef :: undef :: undef :: undef :: undef :: undef :: undef :: undef :: undef :: undef :: undef :: undef :: undef :: undef :: undef :: undef :: undef :: undef :: undef :: undef :: undef :: []), defers := [] } ∧ Tab LL u [(0, 12, .pointer (some ⟨gg, 0, none⟩)), (1, 13, .pointer (some ⟨gg, 0, none⟩)), (2, 14, .pointer (some ⟨gg, 0, none⟩)), (3, 15, .func (.func fc) #[] #[]), (4, 16, kv x), (5, 17, .pointer (some ⟨g, 0, none⟩)), (6, 18, .pointer (some ⟨g, 0, none⟩)), (7, 19, .pointer (some ⟨g, 0, none⟩)), (8, 20, kv k), (9, 21, .int .i64 (cmp x k)), (10, 9, .int .i64 (cmp x k))] ∧ Aside0 (Below w.heap.size w wx))) ?_ ?_ ?_
    · exact ⟨fun _ => undef, ⟨rfl, Tab.start 11 rfl rfl, ⟨below_drew (Below.refl _ _)⟩⟩⟩
    · refine Steps.cons ?_ (Steps.cons ?_ (Steps.cons ?_ (Steps.cons ?_ (Steps.cons ?_ (Steps.cons ?_ (Steps.cons ?_ (Steps.cons ?_ (Steps.cons ?_ (Steps.cons ?_ (Steps.cons ?_ (Steps.nil)))))))))))
      · intro LL a wx hI hLk hd K' hK
        obtain ⟨u, hI⟩ := hI
        obtain rfl := hI.out.1
        rw [if_pos (by rfl)]
        go_simp
        exact hK.out _ _ ⟨(put1 u 12 (.pointer (some ⟨gg, 0, none⟩))), ⟨rfl, hI.out.2.1.upd 0 rfl rfl rfl rfl, hI.out.2.2⟩⟩
      · intro LL a wx hI hLk hd K' hK
        obtain ⟨u, hI⟩ := hI
        obtain rfl := hI.out.1
        have e0 := hI.out.2.1.at 0 rfl (hd 0 rfl)
        rw [if_pos (by rfl)]
        go_simp
        exact hK.out _ _ ⟨(put1 (put1 u 12 (.pointer (some ⟨gg, 0, none⟩))) 13 (.pointer (some ⟨gg, 0, none⟩))), ⟨rfl, (hI.out.2.1.same (s := 12) (v := .pointer (some ⟨gg, 0, none⟩)) e0).upd 1 rfl rfl rfl rfl, hI.out.2.2⟩⟩
      · intro LL a wx hI hLk hd K' hK
        obtain ⟨u, hI⟩ := hI
        obtain rfl := hI.out.1
        have e1 := hI.out.2.1.at 1 rfl (hd 1 rfl)
        rw [if_pos (by rfl)]
        go_simp
        exact hK.out _ _ ⟨(put1 (put1 u 13 (.pointer (some ⟨gg, 0, none⟩))) 14 (.pointer (some ⟨gg, 0, none⟩))), ⟨rfl, (hI.out.2.1.same (s := 13) (v := .pointer (some ⟨gg, 0, none⟩)) e1).upd 2 rfl rfl rfl rfl, hI.out.2.2⟩⟩
      · intro LL a wx hI hLk hd K' hK
        obtain ⟨u, hI⟩ := hI
        obtain rfl := hI.out.1
        have e2 := hI.out.2.1.at 2 rfl (hd 2 rfl)
        have hb := hI.out.2.2
        have ck := cell_keep hb.out P.out.1
        rw [if_pos (by rfl)]
        go_simp
        exact hK.out _ _ ⟨(put1 (put1 u 14 (.pointer (some ⟨gg, 0, none⟩))) 15 (.func (.func fc) #[] #[])), ⟨rfl, (hI.out.2.1.same (s := 14) (v := .pointer (some ⟨gg, 0, none⟩)) e2).upd 3 rfl rfl rfl rfl, hI.out.2.2⟩⟩
      · intro LL a wx hI hLk hd K' hK
        obtain ⟨u, hI⟩ := hI
        obtain rfl := hI.out.1
        rw [if_pos (by rfl)]
        go_simp
        exact hK.out _ _ ⟨(put1 u 16 (kv x)), ⟨rfl, hI.out.2.1.upd 4 rfl rfl rfl rfl, hI.out.2.2⟩⟩
      · intro LL a wx hI hLk hd K' hK
        obtain ⟨u, hI⟩ := hI
        obtain rfl := hI.out.1
        rw [if_pos (by rfl)]
        go_simp
        exact hK.out _ _ ⟨(put1 u 17 (.pointer (some ⟨g, 0, none⟩))), ⟨rfl, hI.out.2.1.upd 5 rfl rfl rfl rfl, hI.out.2.2⟩⟩
      · intro LL a wx hI hLk hd K' hK
        obtain ⟨u, hI⟩ := hI
        obtain rfl := hI.out.1
        have e5 := hI.out.2.1.at 5 rfl (hd 5 rfl)
        rw [if_pos (by rfl)]
        go_simp
        exact hK.out _ _ ⟨(put1 (put1 u 17 (.pointer (some ⟨g, 0, none⟩))) 18 (.pointer (some ⟨g, 0, none⟩))), ⟨rfl, (hI.out.2.1.same (s := 17) (v := .pointer (some ⟨g, 0, none⟩)) e5).upd 6 rfl rfl rfl rfl, hI.out.2.2⟩⟩
      · intro LL a wx hI hLk hd K' hK
        obtain ⟨u, hI⟩ := hI
        obtain rfl := hI.out.1
        have e6 := hI.out.2.1.at 6 rfl (hd 6 rfl)
        rw [if_pos (by rfl)]
        go_simp
        exact hK.out _ _ ⟨(put1 (put1 u 18 (.pointer (some ⟨g, 0, none⟩))) 19 (.pointer (some ⟨g, 0, none⟩))), ⟨rfl, (hI.out.2.1.same (s := 18) (v := .pointer (some ⟨g, 0, none⟩)) e6).upd 7 rfl rfl rfl rfl, hI.out.2.2⟩⟩
      · intro LL a wx hI hLk hd K' hK
        obtain ⟨u, hI⟩ := hI
        obtain rfl := hI.out.1
        have e7 := hI.out.2.1.at 7 rfl (hd 7 rfl)
        have hb := hI.out.2.2
        have ck := cell_keep hb.out C0.out
        rw [if_pos (by rfl)]
        go_simp
        exact hK.out _ _ ⟨(put1 (put1 u 19 (.pointer (some ⟨g, 0, none⟩))) 20 (kv k)), ⟨rfl, (hI.out.2.1.same (s := 19) (v := .pointer (some ⟨g, 0, none⟩)) e7).upd 8 rfl rfl rfl rfl, hI.out.2.2⟩⟩
      · intro LL a wx hI hLk hd K' hK
        obtain ⟨u, hI⟩ := hI
        obtain rfl := hI.out.1
        have e3 := hI.out.2.1.at 3 rfl (hd 3 rfl)
        have e4 := hI.out.2.1.at 4 rfl (hd 4 rfl)
        have e8 := hI.out.2.1.at 8 rfl (hd 8 rfl)
        have hb := hI.out.2.2
        rw [if_pos (by rfl)]
        go_simp
        refine (HCC.out x k wx HX.out (P.out.2.2.2.2.2.2.2 (k, v) (by simp [Tr.list]))).mono ?_
        rintro e w' ⟨rfl, hb1⟩
        exact hK.out _ _ ⟨(put1 (put1 (put1 (put1 u 15 (.func (.func fc) #[] #[])) 16 (kv x)) 20 (kv k)) 21 (.int .i64 (cmp x k))), ⟨rfl, (((hI.out.2.1.same (s := 15) (v := .func (.func fc) #[] #[]) e3).same (s := 16) (v := kv x) e4).same (s := 20) (v := kv k) e8).upd 9 rfl rfl rfl rfl, ⟨below_step hb.out hb1⟩⟩⟩
      · intro LL a wx hI hLk hd K' hK
        obtain ⟨u, hI⟩ := hI
        obtain rfl := hI.out.1
        have e9 := hI.out.2.1.at 9 rfl (hd 9 rfl)
        rw [if_pos (by rfl)]
        go_simp
        exact hK.out _ _ ⟨(put1 (put1 u 21 (.int .i64 (cmp x k))) 9 (.int .i64 (cmp x k))), ⟨rfl, (hI.out.2.1.same (s := 21) (v := .int .i64 (cmp x k)) e9).upd 10 rfl rfl rfl rfl, hI.out.2.2⟩⟩
    · intro LL a wq hall hI
      obtain ⟨u, hI⟩ := hI
      obtain rfl := hI.out.1
      have hb := hI.out.2.2
      have e10 := hI.out.2.1.at 10 rfl (hall 10 (by decide))
      rw [e10]
      have HB := hb
      clear hI hb e10 hall
      by_cases c1 : cmp x k < 0
      · have c1t : (cmp x k < 0) = True := eq_true c1
        have hL := P.out.2.2.2.1.below HB.out
        have ck2 : wq.cell? ⟨g, 2, none⟩ = some (.pointer l.at_) := (blk_cell hL.1 2).trans rfl
        have HL := Aside0.mk hL
        clear hL
        go_wp2_with fail
        go_at_call 70
        refine (IL.out wq (cell_keep HB.out P.out.1) (fun q => P.out.2.1 (by simp [Tr.blocks, q])) (Nat.lt_of_lt_of_le P.out.2.2.1 HB.out.size) HL.out.2.1 (Tr.parts P.out.2.2.2.2.1).2.2.1 P.out.2.2.2.2.2.1.2.1 (by have := P.out.2.2.2.2.2.2.1; simp only [Tr.count] at this; omega) (fun p hp => P.out.2.2.2.2.2.2.2 p (by simp [Tr.list, hp]))).mono ?_
        rintro e w2 ⟨rfl, hl2, hm2, ho2⟩
        obtain ⟨ckl, fkl, hl3, hn3, ho3, hs3⟩ := Tr.relink_l HL.out P.out.2.2.2.2.1 ho2 hl2 (fun q hq => .inl (Tr.take_sub cmp x l hq)) (Tr.take_nodup cmp x (Tr.parts P.out.2.2.2.2.1).2.2.1)
        have hm3 : ∀ p, (Tr.take cmp x l).2 = some p → (∃ (kk lv rv dv : Value), (w2.setCell ⟨g, 2, none⟩ (.pointer (Tr.take cmp x l).1.at_)).heap[p.1]? = some (.cells #[kk, vv p.2, lv, rv, dv] 104 (0, 0))) ∧ p.1 ∉ (Tr.node g k v d (Tr.take cmp x l).1 r : Tree).blocks := fun p hp => by
          obtain ⟨kk, lv, rv, dv, h⟩ := hm2 p hp
          have gn := Tr.take_gone cmp x (Tr.parts P.out.2.2.2.2.1).2.2.1 hp
          have gne : p.1 ≠ g := fun e => (Tr.parts P.out.2.2.2.2.1).1 (e ▸ gn.1)
          refine ⟨⟨kk, lv, rv, dv, blk_far h (p := ⟨g, 2, none⟩) gne _⟩, ?_⟩
          simp only [Tr.blocks, List.mem_cons, List.mem_append, not_or]
          exact ⟨gne, gn.2, (Tr.parts P.out.2.2.2.2.1).2.2.2.2 _ gn.1⟩
        have H3 := Aside0.mk (And.intro hl3 (And.intro hn3 (And.intro ho3 (And.intro hs3 hm3))))
        clear hl2 ho2 hl3 hn3 ho3 hs3 ck2 hm2 hm3 HL
        go_wp2_with fail
        clear ckl fkl
        obtain ⟨w3, hw3⟩ : ∃ W, W = w2.setCell ⟨g, 2, none⟩ (.pointer (Tr.take cmp x l).1.at_) := ⟨_, rfl⟩
        rw [← hw3] at H3 ⊢
        clear hw3
        go_at_call 91
        refine (even_calls g k v d (Tr.take cmp x l).1 r w3 H3.out.1.1 H3.out.1.2.1 H3.out.1.2.2 H3.out.2.1 (Tr.take_fit cmp x P.out.2.2.2.2.2.1.2.1) P.out.2.2.2.2.2.1.2.2 (by have := P.out.2.2.2.2.2.2.1; have := Tr.take_count cmp x l; simp only [Tr.count] at *; omega)).mono ?_
        rintro e w4 ⟨rfl, hl4, ho4⟩
        have HR : Tr.take cmp x (.node g k v d l r) = (Tr.even g k v (Tr.take cmp x l).1 r, (Tr.take cmp x l).2) := by rw [Tr.take, if_pos (of_eq_true c1t)]
        have H4 := Aside0.mk (And.intro hl4 (And.intro (show On (· ∈ (Tr.node g k v d l r : Tree).blocks) w w4 from (On.of_below HB.out).trans (H3.out.2.2.1.then ho4 H3.out.2.2.2.1)) (And.intro (show ∀ p, (Tr.take cmp x l).2 = some p → ∃ (kk lv rv dv : Value), w4.heap[p.1]? = some (.cells #[kk, vv p.2, lv, rv, dv] 104 (0, 0)) from fun p hp => (H3.out.2.2.2.2 p hp).1.elim fun kk h => h.elim fun lv h => h.elim fun rv h => h.elim fun dv h => ⟨kk, lv, rv, dv, ho4.blk h (H3.out.2.2.2.2 p hp).2⟩) HR)))
        clear hl4 ho4 H3 HR
        go_wp2
        go_ret2
        rw [H4.out.2.2.2]
        exact ⟨rfl, H4.out.1, H4.out.2.2.1, H4.out.2.1⟩
      · have c1f : (cmp x k < 0) = False := eq_false c1
        by_cases c2 : 0 < cmp x k
        · have c1t : ((0 : Int) < cmp x k) = True := eq_true c2
          have hL := P.out.2.2.2.1.below HB.out
          have ck2 : wq.cell? ⟨g, 3, none⟩ = some (.pointer r.at_) := (blk_cell hL.1 3).trans rfl
          have HL := Aside0.mk hL
          clear hL
          go_wp2_with fail
          go_at_call 70
          refine (IR.out wq (cell_keep HB.out P.out.1) (fun q => P.out.2.1 (by simp [Tr.blocks, q])) (Nat.lt_of_lt_of_le P.out.2.2.1 HB.out.size) HL.out.2.2 (Tr.parts P.out.2.2.2.2.1).2.2.2.1 P.out.2.2.2.2.2.1.2.2 (by have := P.out.2.2.2.2.2.2.1; simp only [Tr.count] at this; omega) (fun p hp => P.out.2.2.2.2.2.2.2 p (by simp [Tr.list, hp]))).mono ?_
          rintro e w2 ⟨rfl, hl2, hm2, ho2⟩
          obtain ⟨ckl, fkl, hl3, hn3, ho3, hs3⟩ := Tr.relink_r HL.out P.out.2.2.2.2.1 ho2 hl2 (fun q hq => .inl (Tr.take_sub cmp x r hq)) (Tr.take_nodup cmp x (Tr.parts P.out.2.2.2.2.1).2.2.2.1)
          have hm3 : ∀ p, (Tr.take cmp x r).2 = some p → (∃ (kk lv rv dv : Value), (w2.setCell ⟨g, 3, none⟩ (.pointer (Tr.take cmp x r).1.at_)).heap[p.1]? = some (.cells #[kk, vv p.2, lv, rv, dv] 104 (0, 0))) ∧ p.1 ∉ (Tr.node g k v d l (Tr.take cmp x r).1 : Tree).blocks := fun p hp => by
            obtain ⟨kk, lv, rv, dv, h⟩ := hm2 p hp
            have gn := Tr.take_gone cmp x (Tr.parts P.out.2.2.2.2.1).2.2.2.1 hp
            have gne : p.1 ≠ g := fun e => (Tr.parts P.out.2.2.2.2.1).2.1 (e ▸ gn.1)
            refine ⟨⟨kk, lv, rv, dv, blk_far h (p := ⟨g, 3, none⟩) gne _⟩, ?_⟩
            simp only [Tr.blocks, List.mem_cons, List.mem_append, not_or]
            exact ⟨gne, fun q => (Tr.parts P.out.2.2.2.2.1).2.2.2.2 _ q gn.1, gn.2⟩
          have H3 := Aside0.mk (And.intro hl3 (And.intro hn3 (And.intro ho3 (And.intro hs3 hm3))))
          clear hl2 ho2 hl3 hn3 ho3 hs3 ck2 hm2 hm3 HL
          go_wp2_with fail
          clear ckl fkl
          obtain ⟨w3, hw3⟩ : ∃ W, W = w2.setCell ⟨g, 3, none⟩ (.pointer (Tr.take cmp x r).1.at_) := ⟨_, rfl⟩
          rw [← hw3] at H3 ⊢
          clear hw3
          go_at_call 91
          refine (even_calls g k v d l (Tr.take cmp x r).1 w3 H3.out.1.1 H3.out.1.2.1 H3.out.1.2.2 H3.out.2.1 P.out.2.2.2.2.2.1.2.1 (Tr.take_fit cmp x P.out.2.2.2.2.2.1.2.2) (by have := P.out.2.2.2.2.2.2.1; have := Tr.take_count cmp x r; simp only [Tr.count] at *; omega)).mono ?_
          rintro e w4 ⟨rfl, hl4, ho4⟩
          have HR : Tr.take cmp x (.node g k v d l r) = (Tr.even g k v l (Tr.take cmp x r).1, (Tr.take cmp x r).2) := by rw [Tr.take, if_neg (of_eq_false c1f), if_pos (of_eq_true c1t)]
          have H4 := Aside0.mk (And.intro hl4 (And.intro (show On (· ∈ (Tr.node g k v d l r : Tree).blocks) w w4 from (On.of_below HB.out).trans (H3.out.2.2.1.then ho4 H3.out.2.2.2.1)) (And.intro (show ∀ p, (Tr.take cmp x r).2 = some p → ∃ (kk lv rv dv : Value), w4.heap[p.1]? = some (.cells #[kk, vv p.2, lv, rv, dv] 104 (0, 0)) from fun p hp => (H3.out.2.2.2.2 p hp).1.elim fun kk h => h.elim fun lv h => h.elim fun rv h => h.elim fun dv h => ⟨kk, lv, rv, dv, ho4.blk h (H3.out.2.2.2.2 p hp).2⟩) HR)))
          clear hl4 ho4 H3 HR
          go_wp2
          go_ret2
          rw [H4.out.2.2.2]
          exact ⟨rfl, H4.out.1, H4.out.2.2.1, H4.out.2.1⟩
        · have c2f : ((0 : Int) < cmp x k) = False := eq_false c2
          have hL := P.out.2.2.2.1.below HB.out
          have HL := Aside0.mk hL
          clear hL
          go_wp2_with fail
          go_at_call 92
          refine (joined_calls g k v d l r wq HL.out P.out.2.2.2.2.1 P.out.2.2.2.2.2.1.2.1 P.out.2.2.2.2.2.1.2.2 (by have := P.out.2.2.2.2.2.2.1; simp only [Tr.count] at this; omega)).mono ?_
          rintro e w3 ⟨rfl, hl3, ho3⟩
          have HR : Tr.take cmp x (.node g k v d l r) = (Tr.joined l r, some (g, v)) := by rw [Tr.take, if_neg (by omega), if_neg (by omega)]
          have H3 := Aside0.mk (And.intro hl3 (And.intro (show On (· ∈ (Tr.node g k v d l r : Tree).blocks) w w3 from (On.of_below HB.out).trans (ho3.mono (fun q e => by simpa [Tr.blocks] using .inr e))) (And.intro (ho3.blk HL.out.1 (fun e => e.elim (Tr.parts P.out.2.2.2.2.1).1 (Tr.parts P.out.2.2.2.2.1).2.1)) HR)))
          clear hl3 ho3 HL HR
          go_wp2
          go_ret2
          rw [H3.out.2.2.2]
          exact ⟨rfl, H3.out.1, fun p hp => by obtain rfl := Option.some.inj hp; exact ⟨_, _, _, _, H3.out.2.2.1⟩, H3.out.2.1⟩

end Go.Proofs.YtbajekndbamcmaaW.GroveII

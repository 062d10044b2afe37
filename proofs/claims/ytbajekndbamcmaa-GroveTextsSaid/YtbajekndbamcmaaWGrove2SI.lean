/- The grove's methods, by hand (gengrove.py), further part. No condition. -/
import Derived.Test.YtbajekndbamcmaaWGroveSI
import Derived.Test.YtbajekndbamcmaaWTree2
namespace Go.Proofs.YtbajekndbamcmaaW.GroveSI
open Go.RowKit Go.Proofs.YtbajekndbamcmaaW.PrintWords Go.Proofs.YtbajekndbamcmaaW.PrintLast Go.Proofs.YtbajekndbamcmaaW.PrintMore Go.Proofs.YtbajekndbamcmaaW.PrintReg Go.Proofs.YtbajekndbamcmaaW.PrintTree
set_option linter.unusedVariables false
set_option linter.unusedSimpArgs false
set_option maxHeartbeats 4000000 in
set_option maxRecDepth 100000 in
theorem put_calls (fc : Nat) (hfc : ∀ args W, (callFunc fc args).run Try.prog W = .ok (.enter fc args) W) (cmp : ByteArray → ByteArray → Int) (OK : ByteArray → Prop) (HC : ∀ (x y : ByteArray) (W : World), OK x → OK y → Calls Try.prog fc #[kv x, kv y] W fun e w' => e = .returned (.int .i64 (cmp x y)) ∧ Below W.heap.size W w')
    (gg : Nat) (x : ByteArray) (y : Int) (hx : OK x) : ∀ (t : Tree) (w : World), w.cell? ⟨gg, 0, none⟩ = some (.func (.func fc) #[] #[]) → gg ∉ t.blocks → gg < w.heap.size → Lies w t → t.blocks.Nodup → t.Fit → t.count ≤ 1000000000 → (∀ p ∈ t.list, OK p.1) →
    Calls Try.prog 63 #[.pointer (some ⟨gg, 0, none⟩), .pointer t.at_, kv x, vv y] w fun e w' => ∃ n, w.heap.size ≤ n ∧ e = .returned (.tuple #[.pointer (Tr.put cmp n x y t).1.at_, .bool (Tr.put cmp n x y t).2]) ∧ Lies w' (Tr.put cmp n x y t).1 ∧ On (· ∈ t.blocks) w w' := by
  intro t
  induction t with
  | nil =>
    intro w hf hg hgs hl hn ht hc hk
    clear hf hg hgs hl hn ht hc hk HC
    rw [show (Tr.nil : Tree).at_ = none from rfl]
    go_enter Try.func63, Try.ntmps63
    go_wp2_with fail
    go_wp2
    go_ret2
    refine ⟨w.heap.size, Nat.le_refl _, rfl, ⟨?_, trivial, trivial⟩, ?_⟩
    · exact blk_new w _
    · exact On.of_below (below_alloc (Below.refl _ _) _)
  | node g k v d l r ihl ihr =>
    intro w hf hg hgs hl hn ht hc hk
    have hnn := fun wx => run_eql_ptr_nil (P := Try.prog) wx 91 132 ⟨g, 0, none⟩ Try.underlying91
    have P := Aside0.mk (And.intro hf (And.intro hg (And.intro hgs (And.intro hl (And.intro hn (And.intro ht (And.intro hc hk)))))))
    have IL := Aside0.mk ihl
    have IR := Aside0.mk ihr
    have HCC := Aside0.mk HC
    have HX := Aside0.mk hx
    have C0 : Aside0 (w.cell? ⟨g, 0, none⟩ = some (kv k)) := ⟨(blk_cell hl.1 0).trans rfl⟩
    clear hf hg hgs hl hn ht hc hk ihl ihr HC hx
    rw [show (Tr.node g k v d l r : Tree).at_ = some ⟨g, 0, none⟩ from rfl]
    go_enter Try.func63, Try.ntmps63
    go_wp2_with fail
    refine wp_region_steps 11 rfl rfl (by kernel_rfl) (fun LL a wx => ∃ u : Nat → Value, Aside0 (a = { tmps := List.toArray (.pointer (some ⟨gg, 0, none⟩) :: .pointer (some ⟨g, 0, none⟩) :: kv x :: vv y :: undef :: undef :: undef :: undef :: .pointer none :: .bool false :: .bool false :: u 11 :: .pointer (some ⟨g, 0, none⟩) :: .bool false :: undef :: undef :: undef :: undef :: u 18 :: u 19 :: u 20 :: u 21 :: u 22 :: u 23 :: u 24 :: u 25 :: u 26 :: u 27 :: undef :: undef :: undef :: undef :: undef :: undef :: undef :: undef :: undef :: undef :: undef :: undef :: undef :: undef :: undef :: undef :: undef :: undef :: undef :: undef :: undef :: undef :: undef :: undef :: undef :: undef :: undef :: undef :: undef :: undef :: undef :: undef :: undef :: undef :: undef :: undef :: undef :: undef :: undef :: undef :: undef :: undef :: undef :: undef :: undef :: undef :: []), defers := [] } ∧ Tab LL u [(0, 18, .pointer (some ⟨gg, 0, none⟩)), (1, 19, .pointer (some ⟨gg, 0, none⟩)), (2, 20, .pointer (some ⟨gg, 0, none⟩)), (3, 21, .func (.func fc) #[] #[]), (4, 22, kv x), (5, 23, .pointer (some ⟨g, 0, none⟩)), (6, 24, .pointer (some ⟨g, 0, none⟩)), (7, 25, .pointer (some ⟨g, 0, none⟩)), (8, 26, kv k), (9, 27, .int .i64 (cmp x k)), (10, 11, .int .i64 (cmp x k))] ∧ Aside0 (Below w.heap.size w wx))) ?_ ?_ ?_
    · exact ⟨fun _ => undef, ⟨rfl, Tab.start 11 rfl rfl, ⟨below_drew (Below.refl _ _)⟩⟩⟩
    · refine Steps.cons ?_ (Steps.cons ?_ (Steps.cons ?_ (Steps.cons ?_ (Steps.cons ?_ (Steps.cons ?_ (Steps.cons ?_ (Steps.cons ?_ (Steps.cons ?_ (Steps.cons ?_ (Steps.cons ?_ (Steps.nil)))))))))))
      · intro LL a wx hI hLk hd K' hK
        obtain ⟨u, hI⟩ := hI
        obtain rfl := hI.out.1
        rw [if_pos (by rfl)]
        go_simp
        exact hK.out _ _ ⟨(put1 u 18 (.pointer (some ⟨gg, 0, none⟩))), ⟨rfl, hI.out.2.1.upd 0 rfl rfl rfl rfl, hI.out.2.2⟩⟩
      · intro LL a wx hI hLk hd K' hK
        obtain ⟨u, hI⟩ := hI
        obtain rfl := hI.out.1
        have e0 := hI.out.2.1.at 0 rfl (hd 0 rfl)
        rw [if_pos (by rfl)]
        go_simp
        exact hK.out _ _ ⟨(put1 (put1 u 18 (.pointer (some ⟨gg, 0, none⟩))) 19 (.pointer (some ⟨gg, 0, none⟩))), ⟨rfl, (hI.out.2.1.same (s := 18) (v := .pointer (some ⟨gg, 0, none⟩)) e0).upd 1 rfl rfl rfl rfl, hI.out.2.2⟩⟩
      · intro LL a wx hI hLk hd K' hK
        obtain ⟨u, hI⟩ := hI
        obtain rfl := hI.out.1
        have e1 := hI.out.2.1.at 1 rfl (hd 1 rfl)
        rw [if_pos (by rfl)]
        go_simp
        exact hK.out _ _ ⟨(put1 (put1 u 19 (.pointer (some ⟨gg, 0, none⟩))) 20 (.pointer (some ⟨gg, 0, none⟩))), ⟨rfl, (hI.out.2.1.same (s := 19) (v := .pointer (some ⟨gg, 0, none⟩)) e1).upd 2 rfl rfl rfl rfl, hI.out.2.2⟩⟩
      · intro LL a wx hI hLk hd K' hK
        obtain ⟨u, hI⟩ := hI
        obtain rfl := hI.out.1
        have e2 := hI.out.2.1.at 2 rfl (hd 2 rfl)
        have hb := hI.out.2.2
        have ck := cell_keep hb.out P.out.1
        rw [if_pos (by rfl)]
        go_simp
        exact hK.out _ _ ⟨(put1 (put1 u 20 (.pointer (some ⟨gg, 0, none⟩))) 21 (.func (.func fc) #[] #[])), ⟨rfl, (hI.out.2.1.same (s := 20) (v := .pointer (some ⟨gg, 0, none⟩)) e2).upd 3 rfl rfl rfl rfl, hI.out.2.2⟩⟩
      · intro LL a wx hI hLk hd K' hK
        obtain ⟨u, hI⟩ := hI
        obtain rfl := hI.out.1
        rw [if_pos (by rfl)]
        go_simp
        exact hK.out _ _ ⟨(put1 u 22 (kv x)), ⟨rfl, hI.out.2.1.upd 4 rfl rfl rfl rfl, hI.out.2.2⟩⟩
      · intro LL a wx hI hLk hd K' hK
        obtain ⟨u, hI⟩ := hI
        obtain rfl := hI.out.1
        rw [if_pos (by rfl)]
        go_simp
        exact hK.out _ _ ⟨(put1 u 23 (.pointer (some ⟨g, 0, none⟩))), ⟨rfl, hI.out.2.1.upd 5 rfl rfl rfl rfl, hI.out.2.2⟩⟩
      · intro LL a wx hI hLk hd K' hK
        obtain ⟨u, hI⟩ := hI
        obtain rfl := hI.out.1
        have e5 := hI.out.2.1.at 5 rfl (hd 5 rfl)
        rw [if_pos (by rfl)]
        go_simp
        exact hK.out _ _ ⟨(put1 (put1 u 23 (.pointer (some ⟨g, 0, none⟩))) 24 (.pointer (some ⟨g, 0, none⟩))), ⟨rfl, (hI.out.2.1.same (s := 23) (v := .pointer (some ⟨g, 0, none⟩)) e5).upd 6 rfl rfl rfl rfl, hI.out.2.2⟩⟩
      · intro LL a wx hI hLk hd K' hK
        obtain ⟨u, hI⟩ := hI
        obtain rfl := hI.out.1
        have e6 := hI.out.2.1.at 6 rfl (hd 6 rfl)
        rw [if_pos (by rfl)]
        go_simp
        exact hK.out _ _ ⟨(put1 (put1 u 24 (.pointer (some ⟨g, 0, none⟩))) 25 (.pointer (some ⟨g, 0, none⟩))), ⟨rfl, (hI.out.2.1.same (s := 24) (v := .pointer (some ⟨g, 0, none⟩)) e6).upd 7 rfl rfl rfl rfl, hI.out.2.2⟩⟩
      · intro LL a wx hI hLk hd K' hK
        obtain ⟨u, hI⟩ := hI
        obtain rfl := hI.out.1
        have e7 := hI.out.2.1.at 7 rfl (hd 7 rfl)
        have hb := hI.out.2.2
        have ck := cell_keep hb.out C0.out
        rw [if_pos (by rfl)]
        go_simp
        exact hK.out _ _ ⟨(put1 (put1 u 25 (.pointer (some ⟨g, 0, none⟩))) 26 (kv k)), ⟨rfl, (hI.out.2.1.same (s := 25) (v := .pointer (some ⟨g, 0, none⟩)) e7).upd 8 rfl rfl rfl rfl, hI.out.2.2⟩⟩
      · intro LL a wx hI hLk hd K' hK
        obtain ⟨u, hI⟩ := hI
        obtain rfl := hI.out.1
        have e3 := hI.out.2.1.at 3 rfl (hd 3 rfl)
        have e4 := hI.out.2.1.at 4 rfl (hd 4 rfl)
        have e8 := hI.out.2.1.at 8 rfl (hd 8 rfl)
        have hb := hI.out.2.2
        rw [if_pos (by rfl)]
        go_simp
        refine (HCC.out x k wx HX.out (P.out.2.2.2.2.2.2.2 (k, v) (by simp [Tr.list]))).mono ?_
        rintro e w' ⟨rfl, hb1⟩
        exact hK.out _ _ ⟨(put1 (put1 (put1 (put1 u 21 (.func (.func fc) #[] #[])) 22 (kv x)) 26 (kv k)) 27 (.int .i64 (cmp x k))), ⟨rfl, (((hI.out.2.1.same (s := 21) (v := .func (.func fc) #[] #[]) e3).same (s := 22) (v := kv x) e4).same (s := 26) (v := kv k) e8).upd 9 rfl rfl rfl rfl, ⟨below_step hb.out hb1⟩⟩⟩
      · intro LL a wx hI hLk hd K' hK
        obtain ⟨u, hI⟩ := hI
        obtain rfl := hI.out.1
        have e9 := hI.out.2.1.at 9 rfl (hd 9 rfl)
        rw [if_pos (by rfl)]
        go_simp
        exact hK.out _ _ ⟨(put1 (put1 u 27 (.int .i64 (cmp x k))) 11 (.int .i64 (cmp x k))), ⟨rfl, (hI.out.2.1.same (s := 27) (v := .int .i64 (cmp x k)) e9).upd 10 rfl rfl rfl rfl, hI.out.2.2⟩⟩
    · intro LL a wq hall hI
      obtain ⟨u, hI⟩ := hI
      obtain rfl := hI.out.1
      have hb := hI.out.2.2
      have e10 := hI.out.2.1.at 10 rfl (hall 10 (by decide))
      rw [e10]
      have HB := hb
      clear hI hb e10 hall
      by_cases c1 : cmp x k < 0
      · have c1t : (cmp x k < 0) = True := eq_true c1
        have hL := P.out.2.2.2.1.below HB.out
        have ck2 : wq.cell? ⟨g, 2, none⟩ = some (.pointer l.at_) := (blk_cell hL.1 2).trans rfl
        have HL := Aside0.mk hL
        clear hL
        go_wp2_with fail
        go_at_call 63
        refine (IL.out wq (cell_keep HB.out P.out.1) (fun q => P.out.2.1 (by simp [Tr.blocks, q])) (Nat.lt_of_lt_of_le P.out.2.2.1 HB.out.size) HL.out.2.1 (Tr.parts P.out.2.2.2.2.1).2.2.1 P.out.2.2.2.2.2.1.2.1 (by have := P.out.2.2.2.2.2.2.1; simp only [Tr.count] at this; omega) (fun p hp => P.out.2.2.2.2.2.2.2 p (by simp [Tr.list, hp]))).mono ?_
        rintro e w2 ⟨n, hn, rfl, hl2, ho2⟩
        obtain ⟨ckl, fkl, hl3, hn3, ho3, hs3⟩ := Tr.relink_l HL.out P.out.2.2.2.2.1 ho2 hl2 (fun q hq => (Tr.put_mem cmp x y hq).elim (fun e => .inr (e ▸ hn)) .inl) (Tr.put_nodup cmp x y (Tr.parts P.out.2.2.2.2.1).2.2.1 (fun q => absurd (HL.out.2.1.lt _ q) (Nat.not_lt.mpr hn)))
        have H3 := Aside0.mk (And.intro hl3 (And.intro hn3 (And.intro ho3 (And.intro hs3 hn))))
        clear hl2 ho2 hl3 hn3 ho3 hs3 ck2 hn HL
        go_wp2_with fail
        clear ckl fkl
        obtain ⟨w3, hw3⟩ : ∃ W, W = w2.setCell ⟨g, 2, none⟩ (.pointer (Tr.put cmp n x y l).1.at_) := ⟨_, rfl⟩
        rw [← hw3] at H3 ⊢
        clear hw3
        go_at_call 88
        refine (even_calls g k v d (Tr.put cmp n x y l).1 r w3 H3.out.1.1 H3.out.1.2.1 H3.out.1.2.2 H3.out.2.1 (Tr.put_fit cmp n x y P.out.2.2.2.2.2.1.2.1) P.out.2.2.2.2.2.1.2.2 (by have := P.out.2.2.2.2.2.2.1; have := Tr.put_count cmp n x y l; simp only [Tr.count] at *; omega)).mono ?_
        rintro e w4 ⟨rfl, hl4, ho4⟩
        have HR : Tr.put cmp n x y (.node g k v d l r) = (Tr.even g k v (Tr.put cmp n x y l).1 r, (Tr.put cmp n x y l).2) := by rw [Tr.put, if_pos (of_eq_true c1t)]
        have H4 := Aside0.mk (And.intro hl4 (And.intro ((On.of_below HB.out).trans (H3.out.2.2.1.then ho4 H3.out.2.2.2.1)) (And.intro (Nat.le_trans HB.out.size H3.out.2.2.2.2) HR)))
        clear hl4 ho4 H3 HR
        go_wp2
        go_ret2
        refine ⟨n, H4.out.2.2.1, ?_⟩
        rw [H4.out.2.2.2]
        exact ⟨rfl, H4.out.1, H4.out.2.1⟩
      · have c1f : (cmp x k < 0) = False := eq_false c1
        by_cases c2 : 0 < cmp x k
        · have c1t : ((0 : Int) < cmp x k) = True := eq_true c2
          have hL := P.out.2.2.2.1.below HB.out
          have ck2 : wq.cell? ⟨g, 3, none⟩ = some (.pointer r.at_) := (blk_cell hL.1 3).trans rfl
          have HL := Aside0.mk hL
          clear hL
          go_wp2_with fail
          go_at_call 63
          refine (IR.out wq (cell_keep HB.out P.out.1) (fun q => P.out.2.1 (by simp [Tr.blocks, q])) (Nat.lt_of_lt_of_le P.out.2.2.1 HB.out.size) HL.out.2.2 (Tr.parts P.out.2.2.2.2.1).2.2.2.1 P.out.2.2.2.2.2.1.2.2 (by have := P.out.2.2.2.2.2.2.1; simp only [Tr.count] at this; omega) (fun p hp => P.out.2.2.2.2.2.2.2 p (by simp [Tr.list, hp]))).mono ?_
          rintro e w2 ⟨n, hn, rfl, hl2, ho2⟩
          obtain ⟨ckl, fkl, hl3, hn3, ho3, hs3⟩ := Tr.relink_r HL.out P.out.2.2.2.2.1 ho2 hl2 (fun q hq => (Tr.put_mem cmp x y hq).elim (fun e => .inr (e ▸ hn)) .inl) (Tr.put_nodup cmp x y (Tr.parts P.out.2.2.2.2.1).2.2.2.1 (fun q => absurd (HL.out.2.2.lt _ q) (Nat.not_lt.mpr hn)))
          have H3 := Aside0.mk (And.intro hl3 (And.intro hn3 (And.intro ho3 (And.intro hs3 hn))))
          clear hl2 ho2 hl3 hn3 ho3 hs3 ck2 hn HL
          go_wp2_with fail
          clear ckl fkl
          obtain ⟨w3, hw3⟩ : ∃ W, W = w2.setCell ⟨g, 3, none⟩ (.pointer (Tr.put cmp n x y r).1.at_) := ⟨_, rfl⟩
          rw [← hw3] at H3 ⊢
          clear hw3
          go_at_call 88
          refine (even_calls g k v d l (Tr.put cmp n x y r).1 w3 H3.out.1.1 H3.out.1.2.1 H3.out.1.2.2 H3.out.2.1 P.out.2.2.2.2.2.1.2.1 (Tr.put_fit cmp n x y P.out.2.2.2.2.2.1.2.2) (by have := P.out.2.2.2.2.2.2.1; have := Tr.put_count cmp n x y r; simp only [Tr.count] at *; omega)).mono ?_
          rintro e w4 ⟨rfl, hl4, ho4⟩
          have HR : Tr.put cmp n x y (.node g k v d l r) = (Tr.even g k v l (Tr.put cmp n x y r).1, (Tr.put cmp n x y r).2) := by rw [Tr.put, if_neg (of_eq_false c1f), if_pos (of_eq_true c1t)]
          have H4 := Aside0.mk (And.intro hl4 (And.intro ((On.of_below HB.out).trans (H3.out.2.2.1.then ho4 H3.out.2.2.2.1)) (And.intro (Nat.le_trans HB.out.size H3.out.2.2.2.2) HR)))
          clear hl4 ho4 H3 HR
          go_wp2
          go_ret2
          refine ⟨n, H4.out.2.2.1, ?_⟩
          rw [H4.out.2.2.2]
          exact ⟨rfl, H4.out.1, H4.out.2.1⟩
        · have c2f : ((0 : Int) < cmp x k) = False := eq_false c2
          have hL := P.out.2.2.2.1.below HB.out
          have ck0 : wq.cell? ⟨g, 0, none⟩ = some (kv k) := (blk_cell hL.1 0).trans rfl
          have fk0 := blk_frozen hL.1 0
          have hx1 : (wq.setCell ⟨g, 0, none⟩ (kv x)).heap[g]? = some (cells x v (.pointer l.at_) (.pointer r.at_) d) := blk_put hL.1 0 _ rfl
          have ck1 : (wq.setCell ⟨g, 0, none⟩ (kv x)).cell? ⟨g, 1, none⟩ = some (vv v) := (blk_cell hx1 1).trans rfl
          have fk1 := blk_frozen hx1 1
          have o3 : On (fun q => q = g) wq ((wq.setCell ⟨g, 0, none⟩ (kv x)).setCell ⟨g, 1, none⟩ (vv y)) := On.set (P := fun q => q = g) (On.set (P := fun q => q = g) (On.refl _ _) (p := ⟨g, 0, none⟩) rfl _) (p := ⟨g, 1, none⟩) rfl _
          have hl3 : Lies ((wq.setCell ⟨g, 0, none⟩ (kv x)).setCell ⟨g, 1, none⟩ (vv y)) (.node g x y d l r) := ⟨blk_put hx1 1 _ rfl, hL.2.1.on o3 (fun q hq e => (Tr.parts P.out.2.2.2.2.1).1 (e ▸ hq)), hL.2.2.on o3 (fun q hq e => (Tr.parts P.out.2.2.2.2.1).2.1 (e ▸ hq))⟩
          have HR : Tr.put cmp w.heap.size x y (.node g k v d l r) = (.node g x y d l r, true) := by rw [Tr.put, if_neg c1, if_neg c2]
          have H3 := Aside0.mk (And.intro hl3 (And.intro (show On (· ∈ (Tr.node g k v d l r : Tree).blocks) w _ from (On.of_below HB.out).trans (o3.mono (fun q e => by rw [e]; simp [Tr.blocks]))) HR))
          clear hL hx1 o3 hl3 HR
          go_wp2
          go_ret2
          refine ⟨w.heap.size, Nat.le_refl _, ?_⟩
          rw [H3.out.2.2]
          exact ⟨rfl, H3.out.1, H3.out.2.1⟩

end Go.Proofs.YtbajekndbamcmaaW.GroveSI

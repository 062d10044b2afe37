/- The grove's methods, by hand (gengrove.py), further part. No condition. -/
import Derived.Test.YtbajekndbamcmaaWGrove2SI
import Derived.Test.YtbajekndbamcmaaWTree2
namespace Go.Proofs.YtbajekndbamcmaaW.GroveSI
open Go.RowKit Go.Proofs.YtbajekndbamcmaaW.PrintWords Go.Proofs.YtbajekndbamcmaaW.PrintLast Go.Proofs.YtbajekndbamcmaaW.PrintMore Go.Proofs.YtbajekndbamcmaaW.PrintReg Go.Proofs.YtbajekndbamcmaaW.PrintTree
set_option linter.unusedVariables false
set_option linter.unusedSimpArgs false
set_option maxHeartbeats 4000000 in
set_option maxRecDepth 100000 in
theorem walk_calls {σ : Type} (fc : Nat) (hfc : ∀ args W, (callFunc fc args).run Try.prog W = .ok (.enter fc args) W) (cmp : ByteArray → ByteArray → Int) (OK : ByteArray → Prop) (HC : ∀ (x y : ByteArray) (W : World), OK x → OK y → Calls Try.prog fc #[kv x, kv y] W fun e w' => e = .returned (.int .i64 (cmp x y)) ∧ Below W.heap.size W w')
    (gg : Nat) (x : ByteArray) (hx : OK x) (fs : Nat) (hfs : ∀ args W, (callFunc fs args).run Try.prog W = .ok (.enter fs args) W) (caps : Array Value) (Inv : σ → World → Prop) (step : σ → ByteArray → Int → σ × Bool) (KV : ByteArray → Int → Prop) (mu : σ → Nat) (M : Nat) (hmu : ∀ s k v, KV k v → mu (step s k v).1 ≤ mu s + 1)
    (IB : ∀ s W W', Inv s W → Below W.heap.size W W' → Inv s W') (IG : ∀ s W, Inv s W → W.cell? ⟨gg, 0, none⟩ = some (.func (.func fc) #[] #[]))
    (HS : ∀ s k v W, KV k v → mu s < M → Inv s W → Calls Try.prog fs (#[kv k, vv v] ++ caps) W fun e w' => e = .returned (.bool (step s k v).2) ∧ Inv (step s k v).1 w') :
    ∀ (t : Tree) (s : σ) (w : World), (∀ s W, Inv s W → Lies W t) → (∀ p ∈ t.list, OK p.1 ∧ KV p.1 p.2) → mu s + t.count ≤ M → Inv s w →
    Calls Try.prog 64 #[.pointer (some ⟨gg, 0, none⟩), .pointer t.at_, kv x, .func (.func fs) #[] caps] w fun e w' => e = .returned (.bool (Tr.walk cmp step x t s).2) ∧ Inv (Tr.walk cmp step x t s).1 w' := by
  intro t
  induction t with
  | nil =>
    intro s w hl hk hm hi
    have HI := Aside0.mk hi
    clear hl hk hm hi HS IB IG HC
    simp only [Tr.at_, Tr.walk]
    go_enter Try.func64, Try.ntmps64
    go_wp2
    go_ret
    exact ⟨rfl, HI.out⟩
  | node g k v d l r ihl ihr =>
    intro s w hl hk hm hi
    have hnn := fun wx => run_eql_ptr_nil (P := Try.prog) wx 91 132 ⟨g, 0, none⟩ Try.underlying91
    have HT := Aside0.mk hl
    have HI := Aside0.mk hi
    have HK : Aside0 (OK k ∧ KV k v) := ⟨hk (k, v) (by simp [Tr.list])⟩
    have IL := Aside0.mk (ihl s · (fun s W h => (hl s W h).2.1) (fun p hp => hk p (by simp [Tr.list, hp])) (by simp only [Tr.count] at hm; omega))
    have IR := Aside0.mk (ihr · · (fun s W h => (hl s W h).2.2) (fun p hp => hk p (by simp [Tr.list, hp])))
    have HM : Aside0 (mu s + r.count ≤ M ∧ mu (Tr.walk cmp step x l s).1 < M ∧ mu (step (Tr.walk cmp step x l s).1 k v).1 + r.count ≤ M) := ⟨by
      have h1 := Tr.walk_mu cmp step x KV mu hmu l s (fun p hp => (hk p (by simp [Tr.list, hp])).2)
      have h2 := hmu (Tr.walk cmp step x l s).1 k v (hk (k, v) (by simp [Tr.list])).2
      simp only [Tr.count] at hm
      omega⟩
    have IBB := Aside0.mk IB
    have IGG := Aside0.mk IG
    have HCC := Aside0.mk HC
    have HSS := Aside0.mk HS
    have HX := Aside0.mk hx
    clear hl hk hm hi ihl ihr IB IG HC HS hx hmu
    simp only [Tr.at_]
    go_enter Try.func64, Try.ntmps64
    go_wp2_with fail
    refine wp_region_steps 11 rfl rfl (by kernel_rfl) (fun LL a wx => ∃ u : Nat → Value, Aside0 (a = { tmps := List.toArray (.pointer (some ⟨gg, 0, none⟩) :: .pointer (some ⟨g, 0, none⟩) :: kv x :: .func (.func fs) #[] caps :: undef :: undef :: undef :: undef :: .bool false :: .pointer (some ⟨g, 0, none⟩) :: .bool false :: u 11 :: u 12 :: u 13 :: u 14 :: u 15 :: u 16 :: u 17 :: u 18 :: u 19 :: u 20 :: u 21 :: undef :: undef :: undef :: undef :: undef :: undef :: undef :: undef :: undef :: undef :: undef :: undef :: undef :: undef :: undef :: undef :: undef :: undef :: undef :: undef :: undef :: undef :: undef :: undef :: undef :: undef :: undef :: undef :: undef :: undef :: undef :: undef :: undef :: undef :: undef :: undef :: undef :: undef :: []), defers := [] } ∧ Tab LL u [(0, 11, .pointer (some ⟨gg, 0, none⟩)), (1, 12, .pointer (some ⟨gg, 0, none⟩)), (2, 13, .pointer (some ⟨gg, 0, none⟩)), (3, 14, .func (.func fc) #[] #[]), (4, 15, .pointer (some ⟨g, 0, none⟩)), (5, 16, .pointer (some ⟨g, 0, none⟩)), (6, 17, .pointer (some ⟨g, 0, none⟩)), (7, 18, kv k), (8, 19, kv x), (9, 20, .int .i64 (cmp k x)), (10, 21, .bool (decide (cmp k x < 0)))] ∧ Aside0 (Inv s wx))) ?_ ?_ ?_
    · exact ⟨fun _ => undef, ⟨rfl, Tab.start 11 rfl rfl, ⟨IBB.out _ _ _ HI.out (below_drew (Below.refl _ _))⟩⟩⟩
    · refine Steps.cons ?_ (Steps.cons ?_ (Steps.cons ?_ (Steps.cons ?_ (Steps.cons ?_ (Steps.cons ?_ (Steps.cons ?_ (Steps.cons ?_ (Steps.cons ?_ (Steps.cons ?_ (Steps.cons ?_ (Steps.nil)))))))))))
      · intro LL a wx hI hLk hd K' hK
        obtain ⟨u, hI⟩ := hI
        obtain rfl := hI.out.1
        rw [if_pos (by rfl)]
        go_simp
        exact hK.out _ _ ⟨(put1 u 11 (.pointer (some ⟨gg, 0, none⟩))), ⟨rfl, hI.out.2.1.upd 0 rfl rfl rfl rfl, hI.out.2.2⟩⟩
      · intro LL a wx hI hLk hd K' hK
        obtain ⟨u, hI⟩ := hI
        obtain rfl := hI.out.1
        have e0 := hI.out.2.1.at 0 rfl (hd 0 rfl)
        rw [if_pos (by rfl)]
        go_simp
        exact hK.out _ _ ⟨(put1 (put1 u 11 (.pointer (some ⟨gg, 0, none⟩))) 12 (.pointer (some ⟨gg, 0, none⟩))), ⟨rfl, (hI.out.2.1.same (s := 11) (v := .pointer (some ⟨gg, 0, none⟩)) e0).upd 1 rfl rfl rfl rfl, hI.out.2.2⟩⟩
      · intro LL a wx hI hLk hd K' hK
        obtain ⟨u, hI⟩ := hI
        obtain rfl := hI.out.1
        have e1 := hI.out.2.1.at 1 rfl (hd 1 rfl)
        rw [if_pos (by rfl)]
        go_simp
        exact hK.out _ _ ⟨(put1 (put1 u 12 (.pointer (some ⟨gg, 0, none⟩))) 13 (.pointer (some ⟨gg, 0, none⟩))), ⟨rfl, (hI.out.2.1.same (s := 12) (v := .pointer (some ⟨gg, 0, none⟩)) e1).upd 2 rfl rfl rfl rfl, hI.out.2.2⟩⟩
      · intro LL a wx hI hLk hd K' hK
        obtain ⟨u, hI⟩ := hI
        obtain rfl := hI.out.1
        have e2 := hI.out.2.1.at 2 rfl (hd 2 rfl)
        have hv := hI.out.2.2
        have hw0 := hv.out
        have ck := IGG.out _ _ hw0
        have ck2 := (blk_cell (HT.out _ _ hw0).1 0).trans rfl
        rw [if_pos (by rfl)]
        go_simp
        exact hK.out _ _ ⟨(put1 (put1 u 13 (.pointer (some ⟨gg, 0, none⟩))) 14 (.func (.func fc) #[] #[])), ⟨rfl, (hI.out.2.1.same (s := 13) (v := .pointer (some ⟨gg, 0, none⟩)) e2).upd 3 rfl rfl rfl rfl, hI.out.2.2⟩⟩
      · intro LL a wx hI hLk hd K' hK
        obtain ⟨u, hI⟩ := hI
        obtain rfl := hI.out.1
        rw [if_pos (by rfl)]
        go_simp
        exact hK.out _ _ ⟨(put1 u 15 (.pointer (some ⟨g, 0, none⟩))), ⟨rfl, hI.out.2.1.upd 4 rfl rfl rfl rfl, hI.out.2.2⟩⟩
      · intro LL a wx hI hLk hd K' hK
        obtain ⟨u, hI⟩ := hI
        obtain rfl := hI.out.1
        have e4 := hI.out.2.1.at 4 rfl (hd 4 rfl)
        rw [if_pos (by rfl)]
        go_simp
        exact hK.out _ _ ⟨(put1 (put1 u 15 (.pointer (some ⟨g, 0, none⟩))) 16 (.pointer (some ⟨g, 0, none⟩))), ⟨rfl, (hI.out.2.1.same (s := 15) (v := .pointer (some ⟨g, 0, none⟩)) e4).upd 5 rfl rfl rfl rfl, hI.out.2.2⟩⟩
      · intro LL a wx hI hLk hd K' hK
        obtain ⟨u, hI⟩ := hI
        obtain rfl := hI.out.1
        have e5 := hI.out.2.1.at 5 rfl (hd 5 rfl)
        rw [if_pos (by rfl)]
        go_simp
        exact hK.out _ _ ⟨(put1 (put1 u 16 (.pointer (some ⟨g, 0, none⟩))) 17 (.pointer (some ⟨g, 0, none⟩))), ⟨rfl, (hI.out.2.1.same (s := 16) (v := .pointer (some ⟨g, 0, none⟩)) e5).upd 6 rfl rfl rfl rfl, hI.out.2.2⟩⟩
      · intro LL a wx hI hLk hd K' hK
        obtain ⟨u, hI⟩ := hI
        obtain rfl := hI.out.1
        have e6 := hI.out.2.1.at 6 rfl (hd 6 rfl)
        have hv := hI.out.2.2
        have hw0 := hv.out
        have ck := IGG.out _ _ hw0
        have ck2 := (blk_cell (HT.out _ _ hw0).1 0).trans rfl
        rw [if_pos (by rfl)]
        go_simp
        exact hK.out _ _ ⟨(put1 (put1 u 17 (.pointer (some ⟨g, 0, none⟩))) 18 (kv k)), ⟨rfl, (hI.out.2.1.same (s := 17) (v := .pointer (some ⟨g, 0, none⟩)) e6).upd 7 rfl rfl rfl rfl, hI.out.2.2⟩⟩
      · intro LL a wx hI hLk hd K' hK
        obtain ⟨u, hI⟩ := hI
        obtain rfl := hI.out.1
        rw [if_pos (by rfl)]
        go_simp
        exact hK.out _ _ ⟨(put1 u 19 (kv x)), ⟨rfl, hI.out.2.1.upd 8 rfl rfl rfl rfl, hI.out.2.2⟩⟩
      · intro LL a wx hI hLk hd K' hK
        obtain ⟨u, hI⟩ := hI
        obtain rfl := hI.out.1
        have e3 := hI.out.2.1.at 3 rfl (hd 3 rfl)
        have e7 := hI.out.2.1.at 7 rfl (hd 7 rfl)
        have e8 := hI.out.2.1.at 8 rfl (hd 8 rfl)
        have hv := hI.out.2.2
        rw [if_pos (by rfl)]
        go_simp
        refine (HCC.out k x wx HK.out.1 HX.out).mono ?_
        rintro e w' ⟨rfl, hb1⟩
        exact hK.out _ _ ⟨(put1 (put1 (put1 (put1 u 14 (.func (.func fc) #[] #[])) 18 (kv k)) 19 (kv x)) 20 (.int .i64 (cmp k x))), ⟨rfl, (((hI.out.2.1.same (s := 14) (v := .func (.func fc) #[] #[]) e3).same (s := 18) (v := kv k) e7).same (s := 19) (v := kv x) e8).upd 9 rfl rfl rfl rfl, ⟨IBB.out _ _ _ hv.out hb1⟩⟩⟩
      · intro LL a wx hI hLk hd K' hK
        obtain ⟨u, hI⟩ := hI
        obtain rfl := hI.out.1
        have e9 := hI.out.2.1.at 9 rfl (hd 9 rfl)
        rw [if_pos (by rfl)]
        go_simp
        exact hK.out _ _ ⟨(put1 (put1 u 20 (.int .i64 (cmp k x))) 21 (.bool (decide (cmp k x < 0)))), ⟨rfl, (hI.out.2.1.same (s := 20) (v := .int .i64 (cmp k x)) e9).upd 10 rfl rfl rfl rfl, hI.out.2.2⟩⟩
    · intro LL a wq hall hI
      obtain ⟨u, hI⟩ := hI
      obtain rfl := hI.out.1
      have hv := hI.out.2.2
      have e10 := hI.out.2.1.at 10 rfl (hall 10 (by decide))
      rw [e10]
      have HI := hv
      clear hI hv e10 hall
      by_cases c1 : cmp k x < 0
      · have c1t : (cmp k x < 0) = True := eq_true c1
        have ck3 : wq.cell? ⟨g, 3, none⟩ = some (.pointer r.at_) := (blk_cell (HT.out _ _ HI.out).1 3).trans rfl
        go_wp2_with fail
        go_at_call 64
        refine (IR.out s wq HM.out.1 HI.out).mono ?_
        rintro e w2 ⟨rfl, hi2⟩
        have HI2 := Aside0.mk hi2
        clear hi2 ck3
        go_wp2
        go_ret
        rw [Tr.walk, if_pos (of_eq_true c1t)]
        exact ⟨rfl, HI2.out⟩
      · have c1f : (cmp k x < 0) = False := eq_false c1
        cases hb1 : (Tr.walk cmp step x l s).2 with
        | false =>
          have HB1 := Aside0.mk hb1
          clear hb1
          go_wp2_with fail
          refine wp_region_steps 31 rfl rfl (by kernel_rfl) (fun LL a wx => ∃ u2 : Nat → Value, Aside0 (a = { tmps := List.toArray (.pointer (some ⟨gg, 0, none⟩) :: .pointer (some ⟨g, 0, none⟩) :: kv x :: .func (.func fs) #[] caps :: undef :: undef :: undef :: undef :: u2 8 :: .pointer (some ⟨g, 0, none⟩) :: .bool false :: u 11 :: u 12 :: u 13 :: u 14 :: u 15 :: u 16 :: u 17 :: u 18 :: u 19 :: u 20 :: .bool false :: undef :: undef :: undef :: undef :: undef :: undef :: undef :: undef :: u2 30 :: u2 31 :: u2 32 :: u2 33 :: u2 34 :: u2 35 :: u2 36 :: u2 37 :: u2 38 :: u2 39 :: u2 40 :: u2 41 :: u2 42 :: u2 43 :: u2 44 :: u2 45 :: u2 46 :: u2 47 :: u2 48 :: u2 49 :: u2 50 :: u2 51 :: u2 52 :: u2 53 :: u2 54 :: u2 55 :: u2 56 :: u2 57 :: u2 58 :: u2 59 :: []), defers := [] } ∧ Tab LL u2 [(0, 30, .pointer (some ⟨gg, 0, none⟩)), (1, 31, .pointer (some ⟨g, 0, none⟩)), (2, 32, .pointer (some ⟨g, 0, none⟩)), (3, 33, .pointer (some ⟨g, 2, none⟩)), (4, 34, .pointer l.at_), (5, 35, kv x), (6, 36, .func (.func fs) #[] caps), (7, 37, .bool false), (8, 38, .bool false), (9, 39, undef), (10, 40, undef), (11, 41, undef), (12, 42, undef), (13, 43, undef), (14, 44, undef), (15, 45, undef), (16, 46, undef), (17, 47, undef), (18, 48, undef), (19, 49, .bool false), (20, 50, .bool false), (21, 51, undef), (22, 52, undef), (23, 53, undef), (24, 54, undef), (25, 55, undef), (26, 56, undef), (27, 57, undef), (28, 58, undef), (29, 59, .bool false), (30, 8, .bool false)] ∧ Aside0 (Inv (bif LL 7 then (Tr.walk cmp step x l s).1 else s) wx) ∧ Aside0 (True))) ?_ ?_ ?_
          · exact ⟨put1 (fun _ => undef) 8 (.bool false), ⟨rfl, Tab.start 31 rfl rfl, ⟨IBB.out _ _ _ HI.out (below_drew (Below.refl _ _))⟩, ⟨trivial⟩⟩⟩
          · refine Steps.cons ?_ (Steps.cons ?_ (Steps.cons ?_ (Steps.cons ?_ (Steps.cons ?_ (Steps.cons ?_ (Steps.cons ?_ (Steps.cons ?_ (Steps.cons ?_ (Steps.cons ?_ (Steps.cons ?_ (Steps.cons ?_ (Steps.cons ?_ (Steps.cons ?_ (Steps.cons ?_ (Steps.cons ?_ (Steps.cons ?_ (Steps.cons ?_ (Steps.cons ?_ (Steps.cons ?_ (Steps.cons ?_ (Steps.cons ?_ (Steps.cons ?_ (Steps.cons ?_ (Steps.cons ?_ (Steps.cons ?_ (Steps.cons ?_ (Steps.cons ?_ (Steps.cons ?_ (Steps.cons ?_ (Steps.cons ?_ (Steps.nil)))))))))))))))))))))))))))))))
            · intro LL a wx hI hLk hd K' hK
              obtain ⟨u2, hI⟩ := hI
              obtain rfl := hI.out.1
              rw [if_pos (by rfl)]
              go_simp
              exact hK.out _ _ ⟨(put1 u2 30 (.pointer (some ⟨gg, 0, none⟩))), ⟨rfl, hI.out.2.1.upd 0 rfl rfl rfl rfl, hI.out.2.2.1, hI.out.2.2.2⟩⟩
            · intro LL a wx hI hLk hd K' hK
              obtain ⟨u2, hI⟩ := hI
              obtain rfl := hI.out.1
              rw [if_pos (by rfl)]
              go_simp
              exact hK.out _ _ ⟨(put1 u2 31 (.pointer (some ⟨g, 0, none⟩))), ⟨rfl, hI.out.2.1.upd 1 rfl rfl rfl rfl, hI.out.2.2.1, hI.out.2.2.2⟩⟩
            · intro LL a wx hI hLk hd K' hK
              obtain ⟨u2, hI⟩ := hI
              obtain rfl := hI.out.1
              have e1 := hI.out.2.1.at 1 rfl (hd 1 rfl)
              rw [if_pos (by rfl)]
              go_simp
              exact hK.out _ _ ⟨(put1 (put1 u2 31 (.pointer (some ⟨g, 0, none⟩))) 32 (.pointer (some ⟨g, 0, none⟩))), ⟨rfl, (hI.out.2.1.same (s := 31) (v := .pointer (some ⟨g, 0, none⟩)) e1).upd 2 rfl rfl rfl rfl, hI.out.2.2.1, hI.out.2.2.2⟩⟩
            · intro LL a wx hI hLk hd K' hK
              obtain ⟨u2, hI⟩ := hI
              obtain rfl := hI.out.1
              have e2 := hI.out.2.1.at 2 rfl (hd 2 rfl)
              rw [if_pos (by rfl)]
              go_simp
              exact hK.out _ _ ⟨(put1 (put1 u2 32 (.pointer (some ⟨g, 0, none⟩))) 33 (.pointer (some ⟨g, 2, none⟩))), ⟨rfl, (hI.out.2.1.same (s := 32) (v := .pointer (some ⟨g, 0, none⟩)) e2).upd 3 rfl rfl rfl rfl, hI.out.2.2.1, hI.out.2.2.2⟩⟩
            · intro LL a wx hI hLk hd K' hK
              obtain ⟨u2, hI⟩ := hI
              obtain rfl := hI.out.1
              have e3 := hI.out.2.1.at 3 rfl (hd 3 rfl)
              have hv := hI.out.2.2.1
              have ck : wx.cell? ⟨g, 2, none⟩ = some (.pointer l.at_) := (blk_cell (HT.out _ _ hv.out).1 2).trans rfl
              rw [if_pos (by rfl)]
              go_simp
              exact hK.out _ _ ⟨(put1 (put1 u2 33 (.pointer (some ⟨g, 2, none⟩))) 34 (.pointer l.at_)), ⟨rfl, (hI.out.2.1.same (s := 33) (v := .pointer (some ⟨g, 2, none⟩)) e3).upd 4 rfl rfl rfl rfl, hI.out.2.2.1, hI.out.2.2.2⟩⟩
            · intro LL a wx hI hLk hd K' hK
              obtain ⟨u2, hI⟩ := hI
              obtain rfl := hI.out.1
              rw [if_pos (by rfl)]
              go_simp
              exact hK.out _ _ ⟨(put1 u2 35 (kv x)), ⟨rfl, hI.out.2.1.upd 5 rfl rfl rfl rfl, hI.out.2.2.1, hI.out.2.2.2⟩⟩
            · intro LL a wx hI hLk hd K' hK
              obtain ⟨u2, hI⟩ := hI
              obtain rfl := hI.out.1
              rw [if_pos (by rfl)]
              go_simp
              exact hK.out _ _ ⟨(put1 u2 36 (.func (.func fs) #[] caps)), ⟨rfl, hI.out.2.1.upd 6 rfl rfl rfl rfl, hI.out.2.2.1, hI.out.2.2.2⟩⟩
            · intro LL a wx hI hLk hd K' hK
              obtain ⟨u2, hI⟩ := hI
              obtain rfl := hI.out.1
              have e0 := hI.out.2.1.at 0 rfl (hd 0 rfl)
              have e4 := hI.out.2.1.at 4 rfl (hd 4 rfl)
              have e5 := hI.out.2.1.at 5 rfl (hd 5 rfl)
              have e6 := hI.out.2.1.at 6 rfl (hd 6 rfl)
              have hv := hI.out.2.2.1
              rw [if_pos (by rfl)]
              go_simp
              have hq : Inv s wx := by have h := hv.out; rw [hLk] at h; exact h
              go_at_call 64
              refine (IL.out wx hq).mono ?_
              rintro e w' ⟨rfl, hi⟩
              rw [HB1.out]
              exact hK.out _ _ ⟨(put1 (put1 (put1 (put1 (put1 u2 30 (.pointer (some ⟨gg, 0, none⟩))) 34 (.pointer l.at_)) 35 (kv x)) 36 (.func (.func fs) #[] caps)) 37 (.bool false)), ⟨rfl, ((((hI.out.2.1.same (s := 30) (v := .pointer (some ⟨gg, 0, none⟩)) e0).same (s := 34) (v := .pointer l.at_) e4).same (s := 35) (v := kv x) e5).same (s := 36) (v := .func (.func fs) #[] caps) e6).upd 7 rfl rfl rfl rfl, ⟨hi⟩, hI.out.2.2.2⟩⟩
            · intro LL a wx hI hLk hd K' hK
              obtain ⟨u2, hI⟩ := hI
              obtain rfl := hI.out.1
              have e7 := hI.out.2.1.at 7 rfl (hd 7 rfl)
              rw [if_pos (by rfl)]
              go_simp
              exact hK.out _ _ ⟨(put1 (put1 u2 37 (.bool false)) 38 (.bool false)), ⟨rfl, (hI.out.2.1.same (s := 37) (v := .bool false) e7).upd 8 rfl rfl rfl rfl, hI.out.2.2.1, hI.out.2.2.2⟩⟩
            · intro LL a wx hI hLk hd K' hK
              obtain ⟨u2, hI⟩ := hI
              obtain rfl := hI.out.1
              have eg := hI.out.2.1.at 8 rfl (hd 8 rfl)
              rw [eg]
              refine unwanted (by rfl) ?_
              exact hK.out _ _ ⟨(put1 (put1 u2 38 (.bool false)) 39 (undef)), ⟨rfl, (hI.out.2.1.same (s := 38) (v := .bool false) eg).upd 9 rfl rfl rfl rfl, hI.out.2.2.1, hI.out.2.2.2⟩⟩
            · intro LL a wx hI hLk hd K' hK
              obtain ⟨u2, hI⟩ := hI
              obtain rfl := hI.out.1
              have eg := hI.out.2.1.at 8 rfl (hd 8 rfl)
              rw [eg]
              refine unwanted (by rfl) ?_
              exact hK.out _ _ ⟨(put1 (put1 u2 38 (.bool false)) 40 (undef)), ⟨rfl, (hI.out.2.1.same (s := 38) (v := .bool false) eg).upd 10 rfl rfl rfl rfl, hI.out.2.2.1, hI.out.2.2.2⟩⟩
            · intro LL a wx hI hLk hd K' hK
              obtain ⟨u2, hI⟩ := hI
              obtain rfl := hI.out.1
              have eg := hI.out.2.1.at 8 rfl (hd 8 rfl)
              rw [eg]
              refine unwanted (by rfl) ?_
              exact hK.out _ _ ⟨(put1 (put1 u2 38 (.bool false)) 41 (undef)), ⟨rfl, (hI.out.2.1.same (s := 38) (v := .bool false) eg).upd 11 rfl rfl rfl rfl, hI.out.2.2.1, hI.out.2.2.2⟩⟩
            · intro LL a wx hI hLk hd K' hK
              obtain ⟨u2, hI⟩ := hI
              obtain rfl := hI.out.1
              have eg := hI.out.2.1.at 8 rfl (hd 8 rfl)
              rw [eg]
              refine unwanted (by rfl) ?_
              exact hK.out _ _ ⟨(put1 (put1 u2 38 (.bool false)) 42 (undef)), ⟨rfl, (hI.out.2.1.same (s := 38) (v := .bool false) eg).upd 12 rfl rfl rfl rfl, hI.out.2.2.1, hI.out.2.2.2⟩⟩
            · intro LL a wx hI hLk hd K' hK
              obtain ⟨u2, hI⟩ := hI
              obtain rfl := hI.out.1
              have eg := hI.out.2.1.at 8 rfl (hd 8 rfl)
              rw [eg]
              refine unwanted (by rfl) ?_
              exact hK.out _ _ ⟨(put1 (put1 u2 38 (.bool false)) 43 (undef)), ⟨rfl, (hI.out.2.1.same (s := 38) (v := .bool false) eg).upd 13 rfl rfl rfl rfl, hI.out.2.2.1, hI.out.2.2.2⟩⟩
            · intro LL a wx hI hLk hd K' hK
              obtain ⟨u2, hI⟩ := hI
              obtain rfl := hI.out.1
              have eg := hI.out.2.1.at 8 rfl (hd 8 rfl)
              rw [eg]
              refine unwanted (by rfl) ?_
              exact hK.out _ _ ⟨(put1 (put1 u2 38 (.bool false)) 44 (undef)), ⟨rfl, (hI.out.2.1.same (s := 38) (v := .bool false) eg).upd 14 rfl rfl rfl rfl, hI.out.2.2.1, hI.out.2.2.2⟩⟩
            · intro LL a wx hI hLk hd K' hK
              obtain ⟨u2, hI⟩ := hI
              obtain rfl := hI.out.1
              have eg := hI.out.2.1.at 8 rfl (hd 8 rfl)
              rw [eg]
              refine unwanted (by rfl) ?_
              exact hK.out _ _ ⟨(put1 (put1 u2 38 (.bool false)) 45 (undef)), ⟨rfl, (hI.out.2.1.same (s := 38) (v := .bool false) eg).upd 15 rfl rfl rfl rfl, hI.out.2.2.1, hI.out.2.2.2⟩⟩
            · intro LL a wx hI hLk hd K' hK
              obtain ⟨u2, hI⟩ := hI
              obtain rfl := hI.out.1
              have eg := hI.out.2.1.at 8 rfl (hd 8 rfl)
              rw [eg]
              refine unwanted (by rfl) ?_
              exact hK.out _ _ ⟨(put1 (put1 u2 38 (.bool false)) 46 (undef)), ⟨rfl, (hI.out.2.1.same (s := 38) (v := .bool false) eg).upd 16 rfl rfl rfl rfl, hI.out.2.2.1, hI.out.2.2.2⟩⟩
            · intro LL a wx hI hLk hd K' hK
              obtain ⟨u2, hI⟩ := hI
              obtain rfl := hI.out.1
              have eg := hI.out.2.1.at 8 rfl (hd 8 rfl)
              rw [eg]
              refine unwanted (by rfl) ?_
              exact hK.out _ _ ⟨(put1 (put1 u2 38 (.bool false)) 47 (undef)), ⟨rfl, (hI.out.2.1.same (s := 38) (v := .bool false) eg).upd 17 rfl rfl rfl rfl, hI.out.2.2.1, hI.out.2.2.2⟩⟩
            · intro LL a wx hI hLk hd K' hK
              obtain ⟨u2, hI⟩ := hI
              obtain rfl := hI.out.1
              have eg := hI.out.2.1.at 8 rfl (hd 8 rfl)
              rw [eg]
              refine unwanted (by rfl) ?_
              exact hK.out _ _ ⟨(put1 (put1 u2 38 (.bool false)) 48 (undef)), ⟨rfl, (hI.out.2.1.same (s := 38) (v := .bool false) eg).upd 18 rfl rfl rfl rfl, hI.out.2.2.1, hI.out.2.2.2⟩⟩
            · intro LL a wx hI hLk hd K' hK
              obtain ⟨u2, hI⟩ := hI
              obtain rfl := hI.out.1
              have e8 := hI.out.2.1.at 8 rfl (hd 8 rfl)
              rw [if_pos (by rfl)]
              go_simp
              exact hK.out _ _ ⟨(put1 (put1 u2 38 (.bool false)) 49 (.bool false)), ⟨rfl, (hI.out.2.1.same (s := 38) (v := .bool false) e8).upd 19 rfl rfl rfl rfl, hI.out.2.2.1, hI.out.2.2.2⟩⟩
            · intro LL a wx hI hLk hd K' hK
              obtain ⟨u2, hI⟩ := hI
              obtain rfl := hI.out.1
              have e19 := hI.out.2.1.at 19 rfl (hd 19 rfl)
              rw [if_pos (by rfl)]
              go_simp
              exact hK.out _ _ ⟨(put1 (put1 u2 49 (.bool false)) 50 (.bool false)), ⟨rfl, (hI.out.2.1.same (s := 49) (v := .bool false) e19).upd 20 rfl rfl rfl rfl, hI.out.2.2.1, hI.out.2.2.2⟩⟩
            · intro LL a wx hI hLk hd K' hK
              obtain ⟨u2, hI⟩ := hI
              obtain rfl := hI.out.1
              have eg := hI.out.2.1.at 20 rfl (hd 20 rfl)
              rw [eg]
              refine unwanted (by rfl) ?_
              exact hK.out _ _ ⟨(put1 (put1 u2 50 (.bool false)) 51 (undef)), ⟨rfl, (hI.out.2.1.same (s := 50) (v := .bool false) eg).upd 21 rfl rfl rfl rfl, hI.out.2.2.1, hI.out.2.2.2⟩⟩
            · intro LL a wx hI hLk hd K' hK
              obtain ⟨u2, hI⟩ := hI
              obtain rfl := hI.out.1
              have eg := hI.out.2.1.at 20 rfl (hd 20 rfl)
              rw [eg]
              refine unwanted (by rfl) ?_
              exact hK.out _ _ ⟨(put1 (put1 u2 50 (.bool false)) 52 (undef)), ⟨rfl, (hI.out.2.1.same (s := 50) (v := .bool false) eg).upd 22 rfl rfl rfl rfl, hI.out.2.2.1, hI.out.2.2.2⟩⟩
            · intro LL a wx hI hLk hd K' hK
              obtain ⟨u2, hI⟩ := hI
              obtain rfl := hI.out.1
              have eg := hI.out.2.1.at 20 rfl (hd 20 rfl)
              rw [eg]
              refine unwanted (by rfl) ?_
              exact hK.out _ _ ⟨(put1 (put1 u2 50 (.bool false)) 53 (undef)), ⟨rfl, (hI.out.2.1.same (s := 50) (v := .bool false) eg).upd 23 rfl rfl rfl rfl, hI.out.2.2.1, hI.out.2.2.2⟩⟩
            · intro LL a wx hI hLk hd K' hK
              obtain ⟨u2, hI⟩ := hI
              obtain rfl := hI.out.1
              have eg := hI.out.2.1.at 20 rfl (hd 20 rfl)
              rw [eg]
              refine unwanted (by rfl) ?_
              exact hK.out _ _ ⟨(put1 (put1 u2 50 (.bool false)) 54 (undef)), ⟨rfl, (hI.out.2.1.same (s := 50) (v := .bool false) eg).upd 24 rfl rfl rfl rfl, hI.out.2.2.1, hI.out.2.2.2⟩⟩
            · intro LL a wx hI hLk hd K' hK
              obtain ⟨u2, hI⟩ := hI
              obtain rfl := hI.out.1
              have eg := hI.out.2.1.at 20 rfl (hd 20 rfl)
              rw [eg]
              refine unwanted (by rfl) ?_
              exact hK.out _ _ ⟨(put1 (put1 u2 50 (.bool false)) 55 (undef)), ⟨rfl, (hI.out.2.1.same (s := 50) (v := .bool false) eg).upd 25 rfl rfl rfl rfl, hI.out.2.2.1, hI.out.2.2.2⟩⟩
            · intro LL a wx hI hLk hd K' hK
              obtain ⟨u2, hI⟩ := hI
              obtain rfl := hI.out.1
              have eg := hI.out.2.1.at 20 rfl (hd 20 rfl)
              rw [eg]
              refine unwanted (by rfl) ?_
              exact hK.out _ _ ⟨(put1 (put1 u2 50 (.bool false)) 56 (undef)), ⟨rfl, (hI.out.2.1.same (s := 50) (v := .bool false) eg).upd 26 rfl rfl rfl rfl, hI.out.2.2.1, hI.out.2.2.2⟩⟩
            · intro LL a wx hI hLk hd K' hK
              obtain ⟨u2, hI⟩ := hI
              obtain rfl := hI.out.1
              have eg := hI.out.2.1.at 20 rfl (hd 20 rfl)
              rw [eg]
              refine unwanted (by rfl) ?_
              exact hK.out _ _ ⟨(put1 (put1 u2 50 (.bool false)) 57 (undef)), ⟨rfl, (hI.out.2.1.same (s := 50) (v := .bool false) eg).upd 27 rfl rfl rfl rfl, hI.out.2.2.1, hI.out.2.2.2⟩⟩
            · intro LL a wx hI hLk hd K' hK
              obtain ⟨u2, hI⟩ := hI
              obtain rfl := hI.out.1
              have eg := hI.out.2.1.at 20 rfl (hd 20 rfl)
              rw [eg]
              refine unwanted (by rfl) ?_
              exact hK.out _ _ ⟨(put1 (put1 u2 50 (.bool false)) 58 (undef)), ⟨rfl, (hI.out.2.1.same (s := 50) (v := .bool false) eg).upd 28 rfl rfl rfl rfl, hI.out.2.2.1, hI.out.2.2.2⟩⟩
            · intro LL a wx hI hLk hd K' hK
              obtain ⟨u2, hI⟩ := hI
              obtain rfl := hI.out.1
              have e20 := hI.out.2.1.at 20 rfl (hd 20 rfl)
              rw [if_pos (by rfl)]
              go_simp
              exact hK.out _ _ ⟨(put1 (put1 u2 50 (.bool false)) 59 (.bool false)), ⟨rfl, (hI.out.2.1.same (s := 50) (v := .bool false) e20).upd 29 rfl rfl rfl rfl, hI.out.2.2.1, hI.out.2.2.2⟩⟩
            · intro LL a wx hI hLk hd K' hK
              obtain ⟨u2, hI⟩ := hI
              obtain rfl := hI.out.1
              have e29 := hI.out.2.1.at 29 rfl (hd 29 rfl)
              rw [if_pos (by rfl)]
              go_simp
              exact hK.out _ _ ⟨(put1 (put1 u2 59 (.bool false)) 8 (.bool false)), ⟨rfl, (hI.out.2.1.same (s := 59) (v := .bool false) e29).upd 30 rfl rfl rfl rfl, hI.out.2.2.1, hI.out.2.2.2⟩⟩
          · intro LL a wq2 hall hI
            obtain ⟨u2, hI⟩ := hI
            obtain rfl := hI.out.1
            have hv := hI.out.2.2.1
            have ho := hI.out.2.2.2
            have e30 := hI.out.2.1.at 30 rfl (hall 30 (by decide))
            rw [e30]
            have hq := hv.out
            rw [hall 7 (by decide)] at hq
            have HI3 := Aside0.mk hq
            clear hI hv ho e30 hall hq
            go_wp2
            go_ret
            rw [Tr.walk, if_neg (by omega), if_neg (by rw [HB1.out]; decide)]
            exact ⟨rfl, HI3.out⟩
        | true =>
          have HB1 := Aside0.mk hb1
          clear hb1
          cases hb2 : (step (Tr.walk cmp step x l s).1 k v).2 with
          | false =>
            have HB2 := Aside0.mk hb2
            clear hb2
            go_wp2_with fail
            refine wp_region_steps 31 rfl rfl (by kernel_rfl) (fun LL a wx => ∃ u2 : Nat → Value, Aside0 (a = { tmps := List.toArray (.pointer (some ⟨gg, 0, none⟩) :: .pointer (some ⟨g, 0, none⟩) :: kv x :: .func (.func fs) #[] caps :: undef :: undef :: undef :: undef :: u2 8 :: .pointer (some ⟨g, 0, none⟩) :: .bool false :: u 11 :: u 12 :: u 13 :: u 14 :: u 15 :: u 16 :: u 17 :: u 18 :: u 19 :: u 20 :: .bool false :: undef :: undef :: undef :: undef :: undef :: undef :: undef :: undef :: u2 30 :: u2 31 :: u2 32 :: u2 33 :: u2 34 :: u2 35 :: u2 36 :: u2 37 :: u2 38 :: u2 39 :: u2 40 :: u2 41 :: u2 42 :: u2 43 :: u2 44 :: u2 45 :: u2 46 :: u2 47 :: u2 48 :: u2 49 :: u2 50 :: u2 51 :: u2 52 :: u2 53 :: u2 54 :: u2 55 :: u2 56 :: u2 57 :: u2 58 :: u2 59 :: []), defers := [] } ∧ Tab LL u2 [(0, 30, .pointer (some ⟨gg, 0, none⟩)), (1, 31, .pointer (some ⟨g, 0, none⟩)), (2, 32, .pointer (some ⟨g, 0, none⟩)), (3, 33, .pointer (some ⟨g, 2, none⟩)), (4, 34, .pointer l.at_), (5, 35, kv x), (6, 36, .func (.func fs) #[] caps), (7, 37, .bool true), (8, 38, .bool true), (9, 39, .func (.func fs) #[] caps), (10, 40, .pointer (some ⟨g, 0, none⟩)), (11, 41, .pointer (some ⟨g, 0, none⟩)), (12, 42, .pointer (some ⟨g, 0, none⟩)), (13, 43, kv k), (14, 44, .pointer (some ⟨g, 0, none⟩)), (15, 45, .pointer (some ⟨g, 0, none⟩)), (16, 46, .pointer (some ⟨g, 1, none⟩)), (17, 47, vv v), (18, 48, .bool false), (19, 49, .bool false), (20, 50, .bool false), (21, 51, undef), (22, 52, undef), (23, 53, undef), (24, 54, undef), (25, 55, undef), (26, 56, undef), (27, 57, undef), (28, 58, undef), (29, 59, .bool false), (30, 8, .bool false)] ∧ Aside0 (Inv (bif LL 18 then (step (Tr.walk cmp step x l s).1 k v).1 else bif LL 7 then (Tr.walk cmp step x l s).1 else s) wx) ∧ Aside0 ((LL 8 = true → LL 7 = true) ∧ (LL 18 = true → LL 8 = true)))) ?_ ?_ ?_
            · exact ⟨put1 (fun _ => undef) 8 (.bool false), ⟨rfl, Tab.start 31 rfl rfl, ⟨IBB.out _ _ _ HI.out (below_drew (Below.refl _ _))⟩, ⟨⟨fun h => absurd h (by decide), fun h => absurd h (by decide)⟩⟩⟩⟩
            · refine Steps.cons ?_ (Steps.cons ?_ (Steps.cons ?_ (Steps.cons ?_ (Steps.cons ?_ (Steps.cons ?_ (Steps.cons ?_ (Steps.cons ?_ (Steps.cons ?_ (Steps.cons ?_ (Steps.cons ?_ (Steps.cons ?_ (Steps.cons ?_ (Steps.cons ?_ (Steps.cons ?_ (Steps.cons ?_ (Steps.cons ?_ (Steps.cons ?_ (Steps.cons ?_ (Steps.cons ?_ (Steps.cons ?_ (Steps.cons ?_ (Steps.cons ?_ (Steps.cons ?_ (Steps.cons ?_ (Steps.cons ?_ (Steps.cons ?_ (Steps.cons ?_ (Steps.cons ?_ (Steps.cons ?_ (Steps.cons ?_ (Steps.nil)))))))))))))))))))))))))))))))
              · intro LL a wx hI hLk hd K' hK
                obtain ⟨u2, hI⟩ := hI
                obtain rfl := hI.out.1
                rw [if_pos (by rfl)]
                go_simp
                exact hK.out _ _ ⟨(put1 u2 30 (.pointer (some ⟨gg, 0, none⟩))), ⟨rfl, hI.out.2.1.upd 0 rfl rfl rfl rfl, hI.out.2.2.1, hI.out.2.2.2⟩⟩
              · intro LL a wx hI hLk hd K' hK
                obtain ⟨u2, hI⟩ := hI
                obtain rfl := hI.out.1
                rw [if_pos (by rfl)]
                go_simp
                exact hK.out _ _ ⟨(put1 u2 31 (.pointer (some ⟨g, 0, none⟩))), ⟨rfl, hI.out.2.1.upd 1 rfl rfl rfl rfl, hI.out.2.2.1, hI.out.2.2.2⟩⟩
              · intro LL a wx hI hLk hd K' hK
                obtain ⟨u2, hI⟩ := hI
                obtain rfl := hI.out.1
                have e1 := hI.out.2.1.at 1 rfl (hd 1 rfl)
                rw [if_pos (by rfl)]
                go_simp
                exact hK.out _ _ ⟨(put1 (put1 u2 31 (.pointer (some ⟨g, 0, none⟩))) 32 (.pointer (some ⟨g, 0, none⟩))), ⟨rfl, (hI.out.2.1.same (s := 31) (v := .pointer (some ⟨g, 0, none⟩)) e1).upd 2 rfl rfl rfl rfl, hI.out.2.2.1, hI.out.2.2.2⟩⟩
              · intro LL a wx hI hLk hd K' hK
                obtain ⟨u2, hI⟩ := hI
                obtain rfl := hI.out.1
                have e2 := hI.out.2.1.at 2 rfl (hd 2 rfl)
                rw [if_pos (by rfl)]
                go_simp
                exact hK.out _ _ ⟨(put1 (put1 u2 32 (.pointer (some ⟨g, 0, none⟩))) 33 (.pointer (some ⟨g, 2, none⟩))), ⟨rfl, (hI.out.2.1.same (s := 32) (v := .pointer (some ⟨g, 0, none⟩)) e2).upd 3 rfl rfl rfl rfl, hI.out.2.2.1, hI.out.2.2.2⟩⟩
              · intro LL a wx hI hLk hd K' hK
                obtain ⟨u2, hI⟩ := hI
                obtain rfl := hI.out.1
                have e3 := hI.out.2.1.at 3 rfl (hd 3 rfl)
                have hv := hI.out.2.2.1
                have ck : wx.cell? ⟨g, 2, none⟩ = some (.pointer l.at_) := (blk_cell (HT.out _ _ hv.out).1 2).trans rfl
                rw [if_pos (by rfl)]
                go_simp
                exact hK.out _ _ ⟨(put1 (put1 u2 33 (.pointer (some ⟨g, 2, none⟩))) 34 (.pointer l.at_)), ⟨rfl, (hI.out.2.1.same (s := 33) (v := .pointer (some ⟨g, 2, none⟩)) e3).upd 4 rfl rfl rfl rfl, hI.out.2.2.1, hI.out.2.2.2⟩⟩
              · intro LL a wx hI hLk hd K' hK
                obtain ⟨u2, hI⟩ := hI
                obtain rfl := hI.out.1
                rw [if_pos (by rfl)]
                go_simp
                exact hK.out _ _ ⟨(put1 u2 35 (kv x)), ⟨rfl, hI.out.2.1.upd 5 rfl rfl rfl rfl, hI.out.2.2.1, hI.out.2.2.2⟩⟩
              · intro LL a wx hI hLk hd K' hK
                obtain ⟨u2, hI⟩ := hI
                obtain rfl := hI.out.1
                rw [if_pos (by rfl)]
                go_simp
                exact hK.out _ _ ⟨(put1 u2 36 (.func (.func fs) #[] caps)), ⟨rfl, hI.out.2.1.upd 6 rfl rfl rfl rfl, hI.out.2.2.1, hI.out.2.2.2⟩⟩
              · intro LL a wx hI hLk hd K' hK
                obtain ⟨u2, hI⟩ := hI
                obtain rfl := hI.out.1
                have e0 := hI.out.2.1.at 0 rfl (hd 0 rfl)
                have e4 := hI.out.2.1.at 4 rfl (hd 4 rfl)
                have e5 := hI.out.2.1.at 5 rfl (hd 5 rfl)
                have e6 := hI.out.2.1.at 6 rfl (hd 6 rfl)
                have hv := hI.out.2.2.1
                have ho := hI.out.2.2.2
                rw [if_pos (by rfl)]
                go_simp
                have f18 := flag_off (fun h => ho.out.1 (ho.out.2 h)) hLk
                have hq : Inv s wx := by have h := hv.out; rw [f18, hLk] at h; exact h
                go_at_call 64
                refine (IL.out wx hq).mono ?_
                rintro e w' ⟨rfl, hi⟩
                rw [HB1.out]
                exact hK.out _ _ ⟨(put1 (put1 (put1 (put1 (put1 u2 30 (.pointer (some ⟨gg, 0, none⟩))) 34 (.pointer l.at_)) 35 (kv x)) 36 (.func (.func fs) #[] caps)) 37 (.bool true)), ⟨rfl, ((((hI.out.2.1.same (s := 30) (v := .pointer (some ⟨gg, 0, none⟩)) e0).same (s := 34) (v := .pointer l.at_) e4).same (s := 35) (v := kv x) e5).same (s := 36) (v := .func (.func fs) #[] caps) e6).upd 7 rfl rfl rfl rfl, ⟨(show Inv (bif LL 18 then _ else _) w' by rw [f18]; exact hi)⟩, ⟨⟨fun _ => rfl, ho.out.2⟩⟩⟩⟩
              · intro LL a wx hI hLk hd K' hK
                obtain ⟨u2, hI⟩ := hI
                obtain rfl := hI.out.1
                have e7 := hI.out.2.1.at 7 rfl (hd 7 rfl)
                rw [if_pos (by rfl)]
                go_simp
                exact hK.out _ _ ⟨(put1 (put1 u2 37 (.bool true)) 38 (.bool true)), ⟨rfl, (hI.out.2.1.same (s := 37) (v := .bool true) e7).upd 8 rfl rfl rfl rfl, hI.out.2.2.1, ⟨⟨fun _ => hd 7 rfl, fun h => rfl⟩⟩⟩⟩
              · intro LL a wx hI hLk hd K' hK
                obtain ⟨u2, hI⟩ := hI
                obtain rfl := hI.out.1
                have eg := hI.out.2.1.at 8 rfl (hd 8 rfl)
                rw [eg]
                rw [if_pos (by rfl)]
                go_simp
                exact hK.out _ _ ⟨(put1 (put1 u2 38 (.bool true)) 39 (.func (.func fs) #[] caps)), ⟨rfl, (hI.out.2.1.same (s := 38) (v := .bool true) eg).upd 9 rfl rfl rfl rfl, hI.out.2.2.1, hI.out.2.2.2⟩⟩
              · intro LL a wx hI hLk hd K' hK
                obtain ⟨u2, hI⟩ := hI
                obtain rfl := hI.out.1
                have eg := hI.out.2.1.at 8 rfl (hd 8 rfl)
                rw [eg]
                rw [if_pos (by rfl)]
                go_simp
                exact hK.out _ _ ⟨(put1 (put1 u2 38 (.bool true)) 40 (.pointer (some ⟨g, 0, none⟩))), ⟨rfl, (hI.out.2.1.same (s := 38) (v := .bool true) eg).upd 10 rfl rfl rfl rfl, hI.out.2.2.1, hI.out.2.2.2⟩⟩
              · intro LL a wx hI hLk hd K' hK
                obtain ⟨u2, hI⟩ := hI
                obtain rfl := hI.out.1
                have e10 := hI.out.2.1.at 10 rfl (hd 10 rfl)
                have eg := hI.out.2.1.at 8 rfl (hd 8 rfl)
                rw [eg]
                rw [if_pos (by rfl)]
                go_simp
                exact hK.out _ _ ⟨(put1 (put1 (put1 u2 40 (.pointer (some ⟨g, 0, none⟩))) 38 (.bool true)) 41 (.pointer (some ⟨g, 0, none⟩))), ⟨rfl, ((hI.out.2.1.same (s := 40) (v := .pointer (some ⟨g, 0, none⟩)) e10).same (s := 38) (v := .bool true) eg).upd 11 rfl rfl rfl rfl, hI.out.2.2.1, hI.out.2.2.2⟩⟩
              · intro LL a wx hI hLk hd K' hK
                obtain ⟨u2, hI⟩ := hI
                obtain rfl := hI.out.1
                have e11 := hI.out.2.1.at 11 rfl (hd 11 rfl)
                have eg := hI.out.2.1.at 8 rfl (hd 8 rfl)
                rw [eg]
                rw [if_pos (by rfl)]
                go_simp
                exact hK.out _ _ ⟨(put1 (put1 (put1 u2 41 (.pointer (some ⟨g, 0, none⟩))) 38 (.bool true)) 42 (.pointer (some ⟨g, 0, none⟩))), ⟨rfl, ((hI.out.2.1.same (s := 41) (v := .pointer (some ⟨g, 0, none⟩)) e11).same (s := 38) (v := .bool true) eg).upd 12 rfl rfl rfl rfl, hI.out.2.2.1, hI.out.2.2.2⟩⟩
              · intro LL a wx hI hLk hd K' hK
                obtain ⟨u2, hI⟩ := hI
                obtain rfl := hI.out.1
                have e12 := hI.out.2.1.at 12 rfl (hd 12 rfl)
                have hv := hI.out.2.2.1
                have ck : wx.cell? ⟨g, 0, none⟩ = some (kv k) := (blk_cell (HT.out _ _ hv.out).1 0).trans rfl
                have eg := hI.out.2.1.at 8 rfl (hd 8 rfl)
                rw [eg]
                rw [if_pos (by rfl)]
                go_simp
                exact hK.out _ _ ⟨(put1 (put1 (put1 u2 42 (.pointer (some ⟨g, 0, none⟩))) 38 (.bool true)) 43 (kv k)), ⟨rfl, ((hI.out.2.1.same (s := 42) (v := .pointer (some ⟨g, 0, none⟩)) e12).same (s := 38) (v := .bool true) eg).upd 13 rfl rfl rfl rfl, hI.out.2.2.1, hI.out.2.2.2⟩⟩
              · intro LL a wx hI hLk hd K' hK
                obtain ⟨u2, hI⟩ := hI
                obtain rfl := hI.out.1
                have eg := hI.out.2.1.at 8 rfl (hd 8 rfl)
                rw [eg]
                rw [if_pos (by rfl)]
                go_simp
                exact hK.out _ _ ⟨(put1 (put1 u2 38 (.bool true)) 44 (.pointer (some ⟨g, 0, none⟩))), ⟨rfl, (hI.out.2.1.same (s := 38) (v := .bool true) eg).upd 14 rfl rfl rfl rfl, hI.out.2.2.1, hI.out.2.2.2⟩⟩
              · intro LL a wx hI hLk hd K' hK
                obtain ⟨u2, hI⟩ := hI
                obtain rfl := hI.out.1
                have e14 := hI.out.2.1.at 14 rfl (hd 14 rfl)
                have eg := hI.out.2.1.at 8 rfl (hd 8 rfl)
                rw [eg]
                rw [if_pos (by rfl)]
                go_simp
                exact hK.out _ _ ⟨(put1 (put1 (put1 u2 44 (.pointer (some ⟨g, 0, none⟩))) 38 (.bool true)) 45 (.pointer (some ⟨g, 0, none⟩))), ⟨rfl, ((hI.out.2.1.same (s := 44) (v := .pointer (some ⟨g, 0, none⟩)) e14).same (s := 38) (v := .bool true) eg).upd 15 rfl rfl rfl rfl, hI.out.2.2.1, hI.out.2.2.2⟩⟩
              · intro LL a wx hI hLk hd K' hK
                obtain ⟨u2, hI⟩ := hI
                obtain rfl := hI.out.1
                have e15 := hI.out.2.1.at 15 rfl (hd 15 rfl)
                have eg := hI.out.2.1.at 8 rfl (hd 8 rfl)
                rw [eg]
                rw [if_pos (by rfl)]
                go_simp
                exact hK.out _ _ ⟨(put1 (put1 (put1 u2 45 (.pointer (some ⟨g, 0, none⟩))) 38 (.bool true)) 46 (.pointer (some ⟨g, 1, none⟩))), ⟨rfl, ((hI.out.2.1.same (s := 45) (v := .pointer (some ⟨g, 0, none⟩)) e15).same (s := 38) (v := .bool true) eg).upd 16 rfl rfl rfl rfl, hI.out.2.2.1, hI.out.2.2.2⟩⟩
              · intro LL a wx hI hLk hd K' hK
                obtain ⟨u2, hI⟩ := hI
                obtain rfl := hI.out.1
                have e16 := hI.out.2.1.at 16 rfl (hd 16 rfl)
                have hv := hI.out.2.2.1
                have ck : wx.cell? ⟨g, 1, none⟩ = some (vv v) := (blk_cell (HT.out _ _ hv.out).1 1).trans rfl
                have eg := hI.out.2.1.at 8 rfl (hd 8 rfl)
                rw [eg]
                rw [if_pos (by rfl)]
                go_simp
                exact hK.out _ _ ⟨(put1 (put1 (put1 u2 46 (.pointer (some ⟨g, 1, none⟩))) 38 (.bool true)) 47 (vv v)), ⟨rfl, ((hI.out.2.1.same (s := 46) (v := .pointer (some ⟨g, 1, none⟩)) e16).same (s := 38) (v := .bool true) eg).upd 17 rfl rfl rfl rfl, hI.out.2.2.1, hI.out.2.2.2⟩⟩
              · intro LL a wx hI hLk hd K' hK
                obtain ⟨u2, hI⟩ := hI
                obtain rfl := hI.out.1
                have e9 := hI.out.2.1.at 9 rfl (hd 9 rfl)
                have e13 := hI.out.2.1.at 13 rfl (hd 13 rfl)
                have e17 := hI.out.2.1.at 17 rfl (hd 17 rfl)
                have hv := hI.out.2.2.1
                have ho := hI.out.2.2.2
                have eg := hI.out.2.1.at 8 rfl (hd 8 rfl)
                rw [eg]
                rw [if_pos (by rfl)]
                go_simp
                have hd7 := ho.out.1 (hd 8 rfl)
                have hq : Inv (Tr.walk cmp step x l s).1 wx := by have h := hv.out; rw [hLk, hd7] at h; exact h
                refine (HSS.out _ k v wx HK.out.2 HM.out.2.1 hq).mono ?_
                rintro e w' ⟨rfl, hi⟩
                rw [HB2.out]
                exact hK.out _ _ ⟨(put1 (put1 (put1 (put1 (put1 u2 39 (.func (.func fs) #[] caps)) 43 (kv k)) 47 (vv v)) 38 (.bool true)) 48 (.bool false)), ⟨rfl, ((((hI.out.2.1.same (s := 39) (v := .func (.func fs) #[] caps) e9).same (s := 43) (v := kv k) e13).same (s := 47) (v := vv v) e17).same (s := 38) (v := .bool true) eg).upd 18 rfl rfl rfl rfl, ⟨hi⟩, ⟨⟨ho.out.1, fun _ => hd 8 rfl⟩⟩⟩⟩
              · intro LL a wx hI hLk hd K' hK
                obtain ⟨u2, hI⟩ := hI
                obtain rfl := hI.out.1
                have e8 := hI.out.2.1.at 8 rfl (hd 8 rfl)
                have e18 := hI.out.2.1.at 18 rfl (hd 18 rfl)
                rw [if_pos (by rfl)]
                go_simp
                exact hK.out _ _ ⟨(put1 (put1 (put1 u2 38 (.bool true)) 48 (.bool false)) 49 (.bool false)), ⟨rfl, ((hI.out.2.1.same (s := 38) (v := .bool true) e8).same (s := 48) (v := .bool false) e18).upd 19 rfl rfl rfl rfl, hI.out.2.2.1, hI.out.2.2.2⟩⟩
              · intro LL a wx hI hLk hd K' hK
                obtain ⟨u2, hI⟩ := hI
                obtain rfl := hI.out.1
                have e19 := hI.out.2.1.at 19 rfl (hd 19 rfl)
                rw [if_pos (by rfl)]
                go_simp
                exact hK.out _ _ ⟨(put1 (put1 u2 49 (.bool false)) 50 (.bool false)), ⟨rfl, (hI.out.2.1.same (s := 49) (v := .bool false) e19).upd 20 rfl rfl rfl rfl, hI.out.2.2.1, hI.out.2.2.2⟩⟩
              · intro LL a wx hI hLk hd K' hK
                obtain ⟨u2, hI⟩ := hI
                obtain rfl := hI.out.1
                have eg := hI.out.2.1.at 20 rfl (hd 20 rfl)
                rw [eg]
                refine unwanted (by rfl) ?_
                exact hK.out _ _ ⟨(put1 (put1 u2 50 (.bool false)) 51 (undef)), ⟨rfl, (hI.out.2.1.same (s := 50) (v := .bool false) eg).upd 21 rfl rfl rfl rfl, hI.out.2.2.1, hI.out.2.2.2⟩⟩
              · intro LL a wx hI hLk hd K' hK
                obtain ⟨u2, hI⟩ := hI
                obtain rfl := hI.out.1
                have eg := hI.out.2.1.at 20 rfl (hd 20 rfl)
                rw [eg]
                refine unwanted (by rfl) ?_
                exact hK.out _ _ ⟨(put1 (put1 u2 50 (.bool false)) 52 (undef)), ⟨rfl, (hI.out.2.1.same (s := 50) (v := .bool false) eg).upd 22 rfl rfl rfl rfl, hI.out.2.2.1, hI.out.2.2.2⟩⟩
              · intro LL a wx hI hLk hd K' hK
                obtain ⟨u2, hI⟩ := hI
                obtain rfl := hI.out.1
                have eg := hI.out.2.1.at 20 rfl (hd 20 rfl)
                rw [eg]
                refine unwanted (by rfl) ?_
                exact hK.out _ _ ⟨(put1 (put1 u2 50 (.bool false)) 53 (undef)), ⟨rfl, (hI.out.2.1.same (s := 50) (v := .bool false) eg).upd 23 rfl rfl rfl rfl, hI.out.2.2.1, hI.out.2.2.2⟩⟩
              · intro LL a wx hI hLk hd K' hK
                obtain ⟨u2, hI⟩ := hI
                obtain rfl := hI.out.1
                have eg := hI.out.2.1.at 20 rfl (hd 20 rfl)
                rw [eg]
                refine unwanted (by rfl) ?_
                exact hK.out _ _ ⟨(put1 (put1 u2 50 (.bool false)) 54 (undef)), ⟨rfl, (hI.out.2.1.same (s := 50) (v := .bool false) eg).upd 24 rfl rfl rfl rfl, hI.out.2.2.1, hI.out.2.2.2⟩⟩
              · intro LL a wx hI hLk hd K' hK
                obtain ⟨u2, hI⟩ := hI
                obtain rfl := hI.out.1
                have eg := hI.out.2.1.at 20 rfl (hd 20 rfl)
                rw [eg]
                refine unwanted (by rfl) ?_
                exact hK.out _ _ ⟨(put1 (put1 u2 50 (.bool false)) 55 (undef)), ⟨rfl, (hI.out.2.1.same (s := 50) (v := .bool false) eg).upd 25 rfl rfl rfl rfl, hI.out.2.2.1, hI.out.2.2.2⟩⟩
              · intro LL a wx hI hLk hd K' hK
                obtain ⟨u2, hI⟩ := hI
                obtain rfl := hI.out.1
                have eg := hI.out.2.1.at 20 rfl (hd 20 rfl)
                rw [eg]
                refine unwanted (by rfl) ?_
                exact hK.out _ _ ⟨(put1 (put1 u2 50 (.bool false)) 56 (undef)), ⟨rfl, (hI.out.2.1.same (s := 50) (v := .bool false) eg).upd 26 rfl rfl rfl rfl, hI.out.2.2.1, hI.out.2.2.2⟩⟩
              · intro LL a wx hI hLk hd K' hK
                obtain ⟨u2, hI⟩ := hI
                obtain rfl := hI.out.1
                have eg := hI.out.2.1.at 20 rfl (hd 20 rfl)
                rw [eg]
                refine unwanted (by rfl) ?_
                exact hK.out _ _ ⟨(put1 (put1 u2 50 (.bool false)) 57 (undef)), ⟨rfl, (hI.out.2.1.same (s := 50) (v := .bool false) eg).upd 27 rfl rfl rfl rfl, hI.out.2.2.1, hI.out.2.2.2⟩⟩
              · intro LL a wx hI hLk hd K' hK
                obtain ⟨u2, hI⟩ := hI
                obtain rfl := hI.out.1
                have eg := hI.out.2.1.at 20 rfl (hd 20 rfl)
                rw [eg]
                refine unwanted (by rfl) ?_
                exact hK.out _ _ ⟨(put1 (put1 u2 50 (.bool false)) 58 (undef)), ⟨rfl, (hI.out.2.1.same (s := 50) (v := .bool false) eg).upd 28 rfl rfl rfl rfl, hI.out.2.2.1, hI.out.2.2.2⟩⟩
              · intro LL a wx hI hLk hd K' hK
                obtain ⟨u2, hI⟩ := hI
                obtain rfl := hI.out.1
                have e20 := hI.out.2.1.at 20 rfl (hd 20 rfl)
                rw [if_pos (by rfl)]
                go_simp
                exact hK.out _ _ ⟨(put1 (put1 u2 50 (.bool false)) 59 (.bool false)), ⟨rfl, (hI.out.2.1.same (s := 50) (v := .bool false) e20).upd 29 rfl rfl rfl rfl, hI.out.2.2.1, hI.out.2.2.2⟩⟩
              · intro LL a wx hI hLk hd K' hK
                obtain ⟨u2, hI⟩ := hI
                obtain rfl := hI.out.1
                have e29 := hI.out.2.1.at 29 rfl (hd 29 rfl)
                rw [if_pos (by rfl)]
                go_simp
                exact hK.out _ _ ⟨(put1 (put1 u2 59 (.bool false)) 8 (.bool false)), ⟨rfl, (hI.out.2.1.same (s := 59) (v := .bool false) e29).upd 30 rfl rfl rfl rfl, hI.out.2.2.1, hI.out.2.2.2⟩⟩
            · intro LL a wq2 hall hI
              obtain ⟨u2, hI⟩ := hI
              obtain rfl := hI.out.1
              have hv := hI.out.2.2.1
              have ho := hI.out.2.2.2
              have e30 := hI.out.2.1.at 30 rfl (hall 30 (by decide))
              rw [e30]
              have hq := hv.out
              rw [hall 18 (by decide)] at hq
              have HI3 := Aside0.mk hq
              clear hI hv ho e30 hall hq
              go_wp2
              go_ret
              rw [Tr.walk, if_neg (by omega), if_pos HB1.out, if_neg (by rw [HB2.out]; decide)]
              exact ⟨rfl, HI3.out⟩
          | true =>
            have HB2 := Aside0.mk hb2
            clear hb2
            go_wp2_with fail
            refine wp_region_steps 31 rfl rfl (by kernel_rfl) (fun LL a wx => ∃ u2 : Nat → Value, Aside0 (a = { tmps := List.toArray (.pointer (some ⟨gg, 0, none⟩) :: .pointer (some ⟨g, 0, none⟩) :: kv x :: .func (.func fs) #[] caps :: undef :: undef :: undef :: undef :: u2 8 :: .pointer (some ⟨g, 0, none⟩) :: .bool false :: u 11 :: u 12 :: u 13 :: u 14 :: u 15 :: u 16 :: u 17 :: u 18 :: u 19 :: u 20 :: .bool false :: undef :: undef :: undef :: undef :: undef :: undef :: undef :: undef :: u2 30 :: u2 31 :: u2 32 :: u2 33 :: u2 34 :: u2 35 :: u2 36 :: u2 37 :: u2 38 :: u2 39 :: u2 40 :: u2 41 :: u2 42 :: u2 43 :: u2 44 :: u2 45 :: u2 46 :: u2 47 :: u2 48 :: u2 49 :: u2 50 :: u2 51 :: u2 52 :: u2 53 :: u2 54 :: u2 55 :: u2 56 :: u2 57 :: u2 58 :: u2 59 :: []), defers := [] } ∧ Tab LL u2 [(0, 30, .pointer (some ⟨gg, 0, none⟩)), (1, 31, .pointer (some ⟨g, 0, none⟩)), (2, 32, .pointer (some ⟨g, 0, none⟩)), (3, 33, .pointer (some ⟨g, 2, none⟩)), (4, 34, .pointer l.at_), (5, 35, kv x), (6, 36, .func (.func fs) #[] caps), (7, 37, .bool true), (8, 38, .bool true), (9, 39, .func (.func fs) #[] caps), (10, 40, .pointer (some ⟨g, 0, none⟩)), (11, 41, .pointer (some ⟨g, 0, none⟩)), (12, 42, .pointer (some ⟨g, 0, none⟩)), (13, 43, kv k), (14, 44, .pointer (some ⟨g, 0, none⟩)), (15, 45, .pointer (some ⟨g, 0, none⟩)), (16, 46, .pointer (some ⟨g, 1, none⟩)), (17, 47, vv v), (18, 48, .bool true), (19, 49, .bool true), (20, 50, .bool true), (21, 51, .pointer (some ⟨gg, 0, none⟩)), (22, 52, .pointer (some ⟨g, 0, none⟩)), (23, 53, .pointer (some ⟨g, 0, none⟩)), (24, 54, .pointer (some ⟨g, 3, none⟩)), (25, 55, .pointer r.at_), (26, 56, kv x), (27, 57, .func (.func fs) #[] caps), (28, 58, .bool (Tr.walk cmp step x r (step (Tr.walk cmp step x l s).1 k v).1).2), (29, 59, .bool (Tr.walk cmp step x r (step (Tr.walk cmp step x l s).1 k v).1).2), (30, 8, .bool (Tr.walk cmp step x r (step (Tr.walk cmp step x l s).1 k v).1).2)] ∧ Aside0 (Inv (bif LL 28 then (Tr.walk cmp step x r (step (Tr.walk cmp step x l s).1 k v).1).1 else bif LL 18 then (step (Tr.walk cmp step x l s).1 k v).1 else bif LL 7 then (Tr.walk cmp step x l s).1 else s) wx) ∧ Aside0 ((LL 8 = true → LL 7 = true) ∧ (LL 18 = true → LL 8 = true) ∧ (LL 20 = true → LL 18 = true) ∧ (LL 28 = true → LL 20 = true)))) ?_ ?_ ?_
            · exact ⟨put1 (fun _ => undef) 8 (.bool false), ⟨rfl, Tab.start 31 rfl rfl, ⟨IBB.out _ _ _ HI.out (below_drew (Below.refl _ _))⟩, ⟨⟨fun h => absurd h (by decide), fun h => absurd h (by decide), fun h => absurd h (by decide), fun h => absurd h (by decide)⟩⟩⟩⟩
            · refine Steps.cons ?_ (Steps.cons ?_ (Steps.cons ?_ (Steps.cons ?_ (Steps.cons ?_ (Steps.cons ?_ (Steps.cons ?_ (Steps.cons ?_ (Steps.cons ?_ (Steps.cons ?_ (Steps.cons ?_ (Steps.cons ?_ (Steps.cons ?_ (Steps.cons ?_ (Steps.cons ?_ (Steps.cons ?_ (Steps.cons ?_ (Steps.cons ?_ (Steps.cons ?_ (Steps.cons ?_ (Steps.cons ?_ (Steps.cons ?_ (Steps.cons ?_ (Steps.cons ?_ (Steps.cons ?_ (Steps.cons ?_ (Steps.cons ?_ (Steps.cons ?_ (Steps.cons ?_ (Steps.cons ?_ (Steps.cons ?_ (Steps.nil)))))))))))))))))))))))))))))))
              · intro LL a wx hI hLk hd K' hK
                obtain ⟨u2, hI⟩ := hI
                obtain rfl := hI.out.1
                rw [if_pos (by rfl)]
                go_simp
                exact hK.out _ _ ⟨(put1 u2 30 (.pointer (some ⟨gg, 0, none⟩))), ⟨rfl, hI.out.2.1.upd 0 rfl rfl rfl rfl, hI.out.2.2.1, hI.out.2.2.2⟩⟩
              · intro LL a wx hI hLk hd K' hK
                obtain ⟨u2, hI⟩ := hI
                obtain rfl := hI.out.1
                rw [if_pos (by rfl)]
                go_simp
                exact hK.out _ _ ⟨(put1 u2 31 (.pointer (some ⟨g, 0, none⟩))), ⟨rfl, hI.out.2.1.upd 1 rfl rfl rfl rfl, hI.out.2.2.1, hI.out.2.2.2⟩⟩
              · intro LL a wx hI hLk hd K' hK
                obtain ⟨u2, hI⟩ := hI
                obtain rfl := hI.out.1
                have e1 := hI.out.2.1.at 1 rfl (hd 1 rfl)
                rw [if_pos (by rfl)]
                go_simp
                exact hK.out _ _ ⟨(put1 (put1 u2 31 (.pointer (some ⟨g, 0, none⟩))) 32 (.pointer (some ⟨g, 0, none⟩))), ⟨rfl, (hI.out.2.1.same (s := 31) (v := .pointer (some ⟨g, 0, none⟩)) e1).upd 2 rfl rfl rfl rfl, hI.out.2.2.1, hI.out.2.2.2⟩⟩
              · intro LL a wx hI hLk hd K' hK
                obtain ⟨u2, hI⟩ := hI
                obtain rfl := hI.out.1
                have e2 := hI.out.2.1.at 2 rfl (hd 2 rfl)
                rw [if_pos (by rfl)]
                go_simp
                exact hK.out _ _ ⟨(put1 (put1 u2 32 (.pointer (some ⟨g, 0, none⟩))) 33 (.pointer (some ⟨g, 2, none⟩))), ⟨rfl, (hI.out.2.1.same (s := 32) (v := .pointer (some ⟨g, 0, none⟩)) e2).upd 3 rfl rfl rfl rfl, hI.out.2.2.1, hI.out.2.2.2⟩⟩
              · intro LL a wx hI hLk hd K' hK
                obtain ⟨u2, hI⟩ := hI
                obtain rfl := hI.out.1
                have e3 := hI.out.2.1.at 3 rfl (hd 3 rfl)
                have hv := hI.out.2.2.1
                have ck : wx.cell? ⟨g, 2, none⟩ = some (.pointer l.at_) := (blk_cell (HT.out _ _ hv.out).1 2).trans rfl
                rw [if_pos (by rfl)]
                go_simp
                exact hK.out _ _ ⟨(put1 (put1 u2 33 (.pointer (some ⟨g, 2, none⟩))) 34 (.pointer l.at_)), ⟨rfl, (hI.out.2.1.same (s := 33) (v := .pointer (some ⟨g, 2, none⟩)) e3).upd 4 rfl rfl rfl rfl, hI.out.2.2.1, hI.out.2.2.2⟩⟩
              · intro LL a wx hI hLk hd K' hK
                obtain ⟨u2, hI⟩ := hI
                obtain rfl := hI.out.1
                rw [if_pos (by rfl)]
                go_simp
                exact hK.out _ _ ⟨(put1 u2 35 (kv x)), ⟨rfl, hI.out.2.1.upd 5 rfl rfl rfl rfl, hI.out.2.2.1, hI.out.2.2.2⟩⟩
              · intro LL a wx hI hLk hd K' hK
                obtain ⟨u2, hI⟩ := hI
                obtain rfl := hI.out.1
                rw [if_pos (by rfl)]
                go_simp
                exact hK.out _ _ ⟨(put1 u2 36 (.func (.func fs) #[] caps)), ⟨rfl, hI.out.2.1.upd 6 rfl rfl rfl rfl, hI.out.2.2.1, hI.out.2.2.2⟩⟩
              · intro LL a wx hI hLk hd K' hK
                obtain ⟨u2, hI⟩ := hI
                obtain rfl := hI.out.1
                have e0 := hI.out.2.1.at 0 rfl (hd 0 rfl)
                have e4 := hI.out.2.1.at 4 rfl (hd 4 rfl)
                have e5 := hI.out.2.1.at 5 rfl (hd 5 rfl)
                have e6 := hI.out.2.1.at 6 rfl (hd 6 rfl)
                have hv := hI.out.2.2.1
                have ho := hI.out.2.2.2
                rw [if_pos (by rfl)]
                go_simp
                have f18 := flag_off (fun h => ho.out.1 (ho.out.2.1 h)) hLk
                have f28 := flag_off (fun h => ho.out.1 (ho.out.2.1 (ho.out.2.2.1 (ho.out.2.2.2 h)))) hLk
                have hq : Inv s wx := by have h := hv.out; rw [f28, f18, hLk] at h; exact h
                go_at_call 64
                refine (IL.out wx hq).mono ?_
                rintro e w' ⟨rfl, hi⟩
                rw [HB1.out]
                exact hK.out _ _ ⟨(put1 (put1 (put1 (put1 (put1 u2 30 (.pointer (some ⟨gg, 0, none⟩))) 34 (.pointer l.at_)) 35 (kv x)) 36 (.func (.func fs) #[] caps)) 37 (.bool true)), ⟨rfl, ((((hI.out.2.1.same (s := 30) (v := .pointer (some ⟨gg, 0, none⟩)) e0).same (s := 34) (v := .pointer l.at_) e4).same (s := 35) (v := kv x) e5).same (s := 36) (v := .func (.func fs) #[] caps) e6).upd 7 rfl rfl rfl rfl, ⟨(show Inv (bif LL 28 then _ else bif LL 18 then _ else _) w' by rw [f28, f18]; exact hi)⟩, ⟨⟨fun _ => rfl, ho.out.2⟩⟩⟩⟩
              · intro LL a wx hI hLk hd K' hK
                obtain ⟨u2, hI⟩ := hI
                obtain rfl := hI.out.1
                have e7 := hI.out.2.1.at 7 rfl (hd 7 rfl)
                have ho := hI.out.2.2.2
                rw [if_pos (by rfl)]
                go_simp
                exact hK.out _ _ ⟨(put1 (put1 u2 37 (.bool true)) 38 (.bool true)), ⟨rfl, (hI.out.2.1.same (s := 37) (v := .bool true) e7).upd 8 rfl rfl rfl rfl, hI.out.2.2.1, ⟨⟨fun _ => hd 7 rfl, fun h => rfl, ho.out.2.2⟩⟩⟩⟩
              · intro LL a wx hI hLk hd K' hK
                obtain ⟨u2, hI⟩ := hI
                obtain rfl := hI.out.1
                have eg := hI.out.2.1.at 8 rfl (hd 8 rfl)
                rw [eg]
                rw [if_pos (by rfl)]
                go_simp
                exact hK.out _ _ ⟨(put1 (put1 u2 38 (.bool true)) 39 (.func (.func fs) #[] caps)), ⟨rfl, (hI.out.2.1.same (s := 38) (v := .bool true) eg).upd 9 rfl rfl rfl rfl, hI.out.2.2.1, hI.out.2.2.2⟩⟩
              · intro LL a wx hI hLk hd K' hK
                obtain ⟨u2, hI⟩ := hI
                obtain rfl := hI.out.1
                have eg := hI.out.2.1.at 8 rfl (hd 8 rfl)
                rw [eg]
                rw [if_pos (by rfl)]
                go_simp
                exact hK.out _ _ ⟨(put1 (put1 u2 38 (.bool true)) 40 (.pointer (some ⟨g, 0, none⟩))), ⟨rfl, (hI.out.2.1.same (s := 38) (v := .bool true) eg).upd 10 rfl rfl rfl rfl, hI.out.2.2.1, hI.out.2.2.2⟩⟩
              · intro LL a wx hI hLk hd K' hK
                obtain ⟨u2, hI⟩ := hI
                obtain rfl := hI.out.1
                have e10 := hI.out.2.1.at 10 rfl (hd 10 rfl)
                have eg := hI.out.2.1.at 8 rfl (hd 8 rfl)
                rw [eg]
                rw [if_pos (by rfl)]
                go_simp
                exact hK.out _ _ ⟨(put1 (put1 (put1 u2 40 (.pointer (some ⟨g, 0, none⟩))) 38 (.bool true)) 41 (.pointer (some ⟨g, 0, none⟩))), ⟨rfl, ((hI.out.2.1.same (s := 40) (v := .pointer (some ⟨g, 0, none⟩)) e10).same (s := 38) (v := .bool true) eg).upd 11 rfl rfl rfl rfl, hI.out.2.2.1, hI.out.2.2.2⟩⟩
              · intro LL a wx hI hLk hd K' hK
                obtain ⟨u2, hI⟩ := hI
                obtain rfl := hI.out.1
                have e11 := hI.out.2.1.at 11 rfl (hd 11 rfl)
                have eg := hI.out.2.1.at 8 rfl (hd 8 rfl)
                rw [eg]
                rw [if_pos (by rfl)]
                go_simp
                exact hK.out _ _ ⟨(put1 (put1 (put1 u2 41 (.pointer (some ⟨g, 0, none⟩))) 38 (.bool true)) 42 (.pointer (some ⟨g, 0, none⟩))), ⟨rfl, ((hI.out.2.1.same (s := 41) (v := .pointer (some ⟨g, 0, none⟩)) e11).same (s := 38) (v := .bool true) eg).upd 12 rfl rfl rfl rfl, hI.out.2.2.1, hI.out.2.2.2⟩⟩
              · intro LL a wx hI hLk hd K' hK
                obtain ⟨u2, hI⟩ := hI
                obtain rfl := hI.out.1
                have e12 := hI.out.2.1.at 12 rfl (hd 12 rfl)
                have hv := hI.out.2.2.1
                have ck : wx.cell? ⟨g, 0, none⟩ = some (kv k) := (blk_cell (HT.out _ _ hv.out).1 0).trans rfl
                have eg := hI.out.2.1.at 8 rfl (hd 8 rfl)
                rw [eg]
                rw [if_pos (by rfl)]
                go_simp
                exact hK.out _ _ ⟨(put1 (put1 (put1 u2 42 (.pointer (some ⟨g, 0, none⟩))) 38 (.bool true)) 43 (kv k)), ⟨rfl, ((hI.out.2.1.same (s := 42) (v := .pointer (some ⟨g, 0, none⟩)) e12).same (s := 38) (v := .bool true) eg).upd 13 rfl rfl rfl rfl, hI.out.2.2.1, hI.out.2.2.2⟩⟩
              · intro LL a wx hI hLk hd K' hK
                obtain ⟨u2, hI⟩ := hI
                obtain rfl := hI.out.1
                have eg := hI.out.2.1.at 8 rfl (hd 8 rfl)
                rw [eg]
                rw [if_pos (by rfl)]
                go_simp
                exact hK.out _ _ ⟨(put1 (put1 u2 38 (.bool true)) 44 (.pointer (some ⟨g, 0, none⟩))), ⟨rfl, (hI.out.2.1.same (s := 38) (v := .bool true) eg).upd 14 rfl rfl rfl rfl, hI.out.2.2.1, hI.out.2.2.2⟩⟩
              · intro LL a wx hI hLk hd K' hK
                obtain ⟨u2, hI⟩ := hI
                obtain rfl := hI.out.1
                have e14 := hI.out.2.1.at 14 rfl (hd 14 rfl)
                have eg := hI.out.2.1.at 8 rfl (hd 8 rfl)
                rw [eg]
                rw [if_pos (by rfl)]
                go_simp
                exact hK.out _ _ ⟨(put1 (put1 (put1 u2 44 (.pointer (some ⟨g, 0, none⟩))) 38 (.bool true)) 45 (.pointer (some ⟨g, 0, none⟩))), ⟨rfl, ((hI.out.2.1.same (s := 44) (v := .pointer (some ⟨g, 0, none⟩)) e14).same (s := 38) (v := .bool true) eg).upd 15 rfl rfl rfl rfl, hI.out.2.2.1, hI.out.2.2.2⟩⟩
              · intro LL a wx hI hLk hd K' hK
                obtain ⟨u2, hI⟩ := hI
                obtain rfl := hI.out.1
                have e15 := hI.out.2.1.at 15 rfl (hd 15 rfl)
                have eg := hI.out.2.1.at 8 rfl (hd 8 rfl)
                rw [eg]
                rw [if_pos (by rfl)]
                go_simp
                exact hK.out _ _ ⟨(put1 (put1 (put1 u2 45 (.pointer (some ⟨g, 0, none⟩))) 38 (.bool true)) 46 (.pointer (some ⟨g, 1, none⟩))), ⟨rfl, ((hI.out.2.1.same (s := 45) (v := .pointer (some ⟨g, 0, none⟩)) e15).same (s := 38) (v := .bool true) eg).upd 16 rfl rfl rfl rfl, hI.out.2.2.1, hI.out.2.2.2⟩⟩
              · intro LL a wx hI hLk hd K' hK
                obtain ⟨u2, hI⟩ := hI
                obtain rfl := hI.out.1
                have e16 := hI.out.2.1.at 16 rfl (hd 16 rfl)
                have hv := hI.out.2.2.1
                have ck : wx.cell? ⟨g, 1, none⟩ = some (vv v) := (blk_cell (HT.out _ _ hv.out).1 1).trans rfl
                have eg := hI.out.2.1.at 8 rfl (hd 8 rfl)
                rw [eg]
                rw [if_pos (by rfl)]
                go_simp
                exact hK.out _ _ ⟨(put1 (put1 (put1 u2 46 (.pointer (some ⟨g, 1, none⟩))) 38 (.bool true)) 47 (vv v)), ⟨rfl, ((hI.out.2.1.same (s := 46) (v := .pointer (some ⟨g, 1, none⟩)) e16).same (s := 38) (v := .bool true) eg).upd 17 rfl rfl rfl rfl, hI.out.2.2.1, hI.out.2.2.2⟩⟩
              · intro LL a wx hI hLk hd K' hK
                obtain ⟨u2, hI⟩ := hI
                obtain rfl := hI.out.1
                have e9 := hI.out.2.1.at 9 rfl (hd 9 rfl)
                have e13 := hI.out.2.1.at 13 rfl (hd 13 rfl)
                have e17 := hI.out.2.1.at 17 rfl (hd 17 rfl)
                have hv := hI.out.2.2.1
                have ho := hI.out.2.2.2
                have eg := hI.out.2.1.at 8 rfl (hd 8 rfl)
                rw [eg]
                rw [if_pos (by rfl)]
                go_simp
                have f28 := flag_off (fun h => ho.out.2.2.1 (ho.out.2.2.2 h)) hLk
                have hd7 := ho.out.1 (hd 8 rfl)
                have hq : Inv (Tr.walk cmp step x l s).1 wx := by have h := hv.out; rw [f28, hLk, hd7] at h; exact h
                refine (HSS.out _ k v wx HK.out.2 HM.out.2.1 hq).mono ?_
                rintro e w' ⟨rfl, hi⟩
                rw [HB2.out]
                exact hK.out _ _ ⟨(put1 (put1 (put1 (put1 (put1 u2 39 (.func (.func fs) #[] caps)) 43 (kv k)) 47 (vv v)) 38 (.bool true)) 48 (.bool true)), ⟨rfl, ((((hI.out.2.1.same (s := 39) (v := .func (.func fs) #[] caps) e9).same (s := 43) (v := kv k) e13).same (s := 47) (v := vv v) e17).same (s := 38) (v := .bool true) eg).upd 18 rfl rfl rfl rfl, ⟨(show Inv (bif LL 28 then _ else _) w' by rw [f28]; exact hi)⟩, ⟨⟨ho.out.1, fun _ => hd 8 rfl, fun _ => rfl, ho.out.2.2.2⟩⟩⟩⟩
              · intro LL a wx hI hLk hd K' hK
                obtain ⟨u2, hI⟩ := hI
                obtain rfl := hI.out.1
                have e8 := hI.out.2.1.at 8 rfl (hd 8 rfl)
                have e18 := hI.out.2.1.at 18 rfl (hd 18 rfl)
                rw [if_pos (by rfl)]
                go_simp
                exact hK.out _ _ ⟨(put1 (put1 (put1 u2 38 (.bool true)) 48 (.bool true)) 49 (.bool true)), ⟨rfl, ((hI.out.2.1.same (s := 38) (v := .bool true) e8).same (s := 48) (v := .bool true) e18).upd 19 rfl rfl rfl rfl, hI.out.2.2.1, hI.out.2.2.2⟩⟩
              · intro LL a wx hI hLk hd K' hK
                obtain ⟨u2, hI⟩ := hI
                obtain rfl := hI.out.1
                have e19 := hI.out.2.1.at 19 rfl (hd 19 rfl)
                have ho := hI.out.2.2.2
                rw [if_pos (by rfl)]
                go_simp
                exact hK.out _ _ ⟨(put1 (put1 u2 49 (.bool true)) 50 (.bool true)), ⟨rfl, (hI.out.2.1.same (s := 49) (v := .bool true) e19).upd 20 rfl rfl rfl rfl, hI.out.2.2.1, ⟨⟨ho.out.1, ho.out.2.1, fun _ => hd 18 rfl, fun _ => rfl⟩⟩⟩⟩
              · intro LL a wx hI hLk hd K' hK
                obtain ⟨u2, hI⟩ := hI
                obtain rfl := hI.out.1
                have eg := hI.out.2.1.at 20 rfl (hd 20 rfl)
                rw [eg]
                rw [if_pos (by rfl)]
                go_simp
                exact hK.out _ _ ⟨(put1 (put1 u2 50 (.bool true)) 51 (.pointer (some ⟨gg, 0, none⟩))), ⟨rfl, (hI.out.2.1.same (s := 50) (v := .bool true) eg).upd 21 rfl rfl rfl rfl, hI.out.2.2.1, hI.out.2.2.2⟩⟩
              · intro LL a wx hI hLk hd K' hK
                obtain ⟨u2, hI⟩ := hI
                obtain rfl := hI.out.1
                have eg := hI.out.2.1.at 20 rfl (hd 20 rfl)
                rw [eg]
                rw [if_pos (by rfl)]
                go_simp
                exact hK.out _ _ ⟨(put1 (put1 u2 50 (.bool true)) 52 (.pointer (some ⟨g, 0, none⟩))), ⟨rfl, (hI.out.2.1.same (s := 50) (v := .bool true) eg).upd 22 rfl rfl rfl rfl, hI.out.2.2.1, hI.out.2.2.2⟩⟩
              · intro LL a wx hI hLk hd K' hK
                obtain ⟨u2, hI⟩ := hI
                obtain rfl := hI.out.1
                have e22 := hI.out.2.1.at 22 rfl (hd 22 rfl)
                have eg := hI.out.2.1.at 20 rfl (hd 20 rfl)
                rw [eg]
                rw [if_pos (by rfl)]
                go_simp
                exact hK.out _ _ ⟨(put1 (put1 (put1 u2 52 (.pointer (some ⟨g, 0, none⟩))) 50 (.bool true)) 53 (.pointer (some ⟨g, 0, none⟩))), ⟨rfl, ((hI.out.2.1.same (s := 52) (v := .pointer (some ⟨g, 0, none⟩)) e22).same (s := 50) (v := .bool true) eg).upd 23 rfl rfl rfl rfl, hI.out.2.2.1, hI.out.2.2.2⟩⟩
              · intro LL a wx hI hLk hd K' hK
                obtain ⟨u2, hI⟩ := hI
                obtain rfl := hI.out.1
                have e23 := hI.out.2.1.at 23 rfl (hd 23 rfl)
                have eg := hI.out.2.1.at 20 rfl (hd 20 rfl)
                rw [eg]
                rw [if_pos (by rfl)]
                go_simp
                exact hK.out _ _ ⟨(put1 (put1 (put1 u2 53 (.pointer (some ⟨g, 0, none⟩))) 50 (.bool true)) 54 (.pointer (some ⟨g, 3, none⟩))), ⟨rfl, ((hI.out.2.1.same (s := 53) (v := .pointer (some ⟨g, 0, none⟩)) e23).same (s := 50) (v := .bool true) eg).upd 24 rfl rfl rfl rfl, hI.out.2.2.1, hI.out.2.2.2⟩⟩
              · intro LL a wx hI hLk hd K' hK
                obtain ⟨u2, hI⟩ := hI
                obtain rfl := hI.out.1
                have e24 := hI.out.2.1.at 24 rfl (hd 24 rfl)
                have hv := hI.out.2.2.1
                have ck : wx.cell? ⟨g, 3, none⟩ = some (.pointer r.at_) := (blk_cell (HT.out _ _ hv.out).1 3).trans rfl
                have eg := hI.out.2.1.at 20 rfl (hd 20 rfl)
                rw [eg]
                rw [if_pos (by rfl)]
                go_simp
                exact hK.out _ _ ⟨(put1 (put1 (put1 u2 54 (.pointer (some ⟨g, 3, none⟩))) 50 (.bool true)) 55 (.pointer r.at_)), ⟨rfl, ((hI.out.2.1.same (s := 54) (v := .pointer (some ⟨g, 3, none⟩)) e24).same (s := 50) (v := .bool true) eg).upd 25 rfl rfl rfl rfl, hI.out.2.2.1, hI.out.2.2.2⟩⟩
              · intro LL a wx hI hLk hd K' hK
                obtain ⟨u2, hI⟩ := hI
                obtain rfl := hI.out.1
                have eg := hI.out.2.1.at 20 rfl (hd 20 rfl)
                rw [eg]
                rw [if_pos (by rfl)]
                go_simp
                exact hK.out _ _ ⟨(put1 (put1 u2 50 (.bool true)) 56 (kv x)), ⟨rfl, (hI.out.2.1.same (s := 50) (v := .bool true) eg).upd 26 rfl rfl rfl rfl, hI.out.2.2.1, hI.out.2.2.2⟩⟩
              · intro LL a wx hI hLk hd K' hK
                obtain ⟨u2, hI⟩ := hI
                obtain rfl := hI.out.1
                have eg := hI.out.2.1.at 20 rfl (hd 20 rfl)
                rw [eg]
                rw [if_pos (by rfl)]
                go_simp
                exact hK.out _ _ ⟨(put1 (put1 u2 50 (.bool true)) 57 (.func (.func fs) #[] caps)), ⟨rfl, (hI.out.2.1.same (s := 50) (v := .bool true) eg).upd 27 rfl rfl rfl rfl, hI.out.2.2.1, hI.out.2.2.2⟩⟩
              · intro LL a wx hI hLk hd K' hK
                obtain ⟨u2, hI⟩ := hI
                obtain rfl := hI.out.1
                have e21 := hI.out.2.1.at 21 rfl (hd 21 rfl)
                have e25 := hI.out.2.1.at 25 rfl (hd 25 rfl)
                have e26 := hI.out.2.1.at 26 rfl (hd 26 rfl)
                have e27 := hI.out.2.1.at 27 rfl (hd 27 rfl)
                have hv := hI.out.2.2.1
                have ho := hI.out.2.2.2
                have eg := hI.out.2.1.at 20 rfl (hd 20 rfl)
                rw [eg]
                rw [if_pos (by rfl)]
                go_simp
                have hd18 := ho.out.2.2.1 (hd 20 rfl)
                have hq : Inv (step (Tr.walk cmp step x l s).1 k v).1 wx := by have h := hv.out; rw [hLk, hd18] at h; exact h
                go_at_call 64
                refine (IR.out _ wx HM.out.2.2 hq).mono ?_
                rintro e w' ⟨rfl, hi⟩
                exact hK.out _ _ ⟨(put1 (put1 (put1 (put1 (put1 (put1 u2 51 (.pointer (some ⟨gg, 0, none⟩))) 55 (.pointer r.at_)) 56 (kv x)) 57 (.func (.func fs) #[] caps)) 50 (.bool true)) 58 (.bool (Tr.walk cmp step x r (step (Tr.walk cmp step x l s).1 k v).1).2)), ⟨rfl, (((((hI.out.2.1.same (s := 51) (v := .pointer (some ⟨gg, 0, none⟩)) e21).same (s := 55) (v := .pointer r.at_) e25).same (s := 56) (v := kv x) e26).same (s := 57) (v := .func (.func fs) #[] caps) e27).same (s := 50) (v := .bool true) eg).upd 28 rfl rfl rfl rfl, ⟨hi⟩, ⟨⟨ho.out.1, ho.out.2.1, ho.out.2.2.1, fun _ => hd 20 rfl⟩⟩⟩⟩
              · intro LL a wx hI hLk hd K' hK
                obtain ⟨u2, hI⟩ := hI
                obtain rfl := hI.out.1
                have e20 := hI.out.2.1.at 20 rfl (hd 20 rfl)
                have e28 := hI.out.2.1.at 28 rfl (hd 28 rfl)
                rw [if_pos (by rfl)]
                go_simp
                exact hK.out _ _ ⟨(put1 (put1 (put1 u2 50 (.bool true)) 58 (.bool (Tr.walk cmp step x r (step (Tr.walk cmp step x l s).1 k v).1).2)) 59 (.bool (Tr.walk cmp step x r (step (Tr.walk cmp step x l s).1 k v).1).2)), ⟨rfl, ((hI.out.2.1.same (s := 50) (v := .bool true) e20).same (s := 58) (v := .bool (Tr.walk cmp step x r (step (Tr.walk cmp step x l s).1 k v).1).2) e28).upd 29 rfl rfl rfl rfl, hI.out.2.2.1, hI.out.2.2.2⟩⟩
              · intro LL a wx hI hLk hd K' hK
                obtain ⟨u2, hI⟩ := hI
                obtain rfl := hI.out.1
                have e29 := hI.out.2.1.at 29 rfl (hd 29 rfl)
                rw [if_pos (by rfl)]
                go_simp
                exact hK.out _ _ ⟨(put1 (put1 u2 59 (.bool (Tr.walk cmp step x r (step (Tr.walk cmp step x l s).1 k v).1).2)) 8 (.bool (Tr.walk cmp step x r (step (Tr.walk cmp step x l s).1 k v).1).2)), ⟨rfl, (hI.out.2.1.same (s := 59) (v := .bool (Tr.walk cmp step x r (step (Tr.walk cmp step x l s).1 k v).1).2) e29).upd 30 rfl rfl rfl rfl, hI.out.2.2.1, hI.out.2.2.2⟩⟩
            · intro LL a wq2 hall hI
              obtain ⟨u2, hI⟩ := hI
              obtain rfl := hI.out.1
              have hv := hI.out.2.2.1
              have ho := hI.out.2.2.2
              have e30 := hI.out.2.1.at 30 rfl (hall 30 (by decide))
              rw [e30]
              have hq := hv.out
              rw [hall 28 (by decide)] at hq
              have HI3 := Aside0.mk hq
              clear hI hv ho e30 hall hq
              go_wp2
              go_ret
              rw [Tr.walk, if_neg (by omega), if_pos HB1.out, if_pos HB2.out]
              exact ⟨rfl, HI3.out⟩

end Go.Proofs.YtbajekndbamcmaaW.GroveSI

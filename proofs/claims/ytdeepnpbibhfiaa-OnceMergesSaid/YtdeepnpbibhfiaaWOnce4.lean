/- The table's methods: New, seq, Note, See. No condition. -/
import Derived.Test.YtdeepnpbibhfiaaWOnce3
namespace Go.Proofs.YtdeepnpbibhfiaaW.PrintOnce
open Go Go.RowKit Go.Maps Go.Proofs.YtdeepnpbibhfiaaW.PrintWords Go.Proofs.YtdeepnpbibhfiaaW.PrintLast Go.Proofs.YtdeepnpbibhfiaaW.PrintMore Go.Proofs.YtdeepnpbibhfiaaW.PrintReg Go.Proofs.YtdeepnpbibhfiaaW.PrintTree
set_option linter.unusedVariables false
set_option linter.unusedSimpArgs false
theorem made_own (w : World) : (w.alloc (.map #[] 0)).ownsMap Try.prog 3 RH w.heap.size 0 (mD []) := World.ownsMap_made w Try.prog 3 RH
set_option maxHeartbeats 4000000 in
set_option maxRecDepth 100000 in
theorem new7 (w : World) : Calls Try.prog 7 #[] w fun e w' => e = .returned (.pointer (some ⟨w.heap.size + 1, 0, none⟩)) ∧ Tbl w' w.heap.size (w.heap.size + 1) w.heap.size [] ∧ Below w.heap.size w w' := by
  have hmm := @run_makeMap Try.prog
  go_enter Try.func7, Try.ntmps7
  go_wp2
  go_ret
  have hsz : (w.alloc (.map #[] 0)).heap.size = w.heap.size + 1 := Array.size_push _
  have hb := blk_new (w.alloc (.map #[] 0)) (.cells #[.map (some w.heap.size)] 56)
  rw [hsz] at hb
  exact ⟨rfl, ⟨[], hb, ⟨by omega, by omega, Nat.le_refl _⟩, (made_own w).alloc _, List.Pairwise.nil, trivial⟩, below_alloc (below_alloc (Below.refl _ _) _) _⟩
set_option maxHeartbeats 4000000 in
set_option maxRecDepth 100000 in
theorem seq18 (base g b : Nat) (T : List S33) (c : Int) (w : World) (h : Tbl w base g b T) (hw : (Lit.int .i64 c).wf = true) :
    Calls Try.prog 18 #[.pointer (some ⟨g, 0, none⟩), .int .i64 c] w fun e w' => e = .returned (.int .i64 (seqT T c)) ∧ Below w.heap.size w w' := by
  obtain ⟨ms, h1, h2, h3, h4, h5⟩ := h
  have hl := look_run h3 c hw true
  have c0 : w.cell? ⟨g, 0, none⟩ = some (.map (some b)) := (blk_cell h1 0).trans rfl
  rcases h5.find c with ⟨e1, e2⟩ | ⟨x, v5, e1, e2, e3, e4⟩
  · rw [e2] at hl
    have hs : seqT T c = -1 := by unfold seqT; rw [e1]
    rw [hs]
    clear h1 h2 h3 h4 h5 e1 e2 hs
    go_enter Try.func18, Try.ntmps18
    go_wp2_with fail
    go_ret
    exact ⟨rfl, below_alloc (Below.refl _ _) _⟩
  · rw [e2] at hl
    have hs : seqT T c = x.f1 := by unfold seqT; rw [e1]
    rw [hs]
    obtain ⟨A5, c5, rfl⟩ := Kd.R_slice e3
    clear h1 h2 h3 h4 h5 e1 e2 e3 e4 hs
    go_enter Try.func18, Try.ntmps18
    go_wp2_with fail
    go_ret
    exact ⟨rfl, below_alloc (Below.refl _ _) _⟩
theorem run_eql_map_nil {P : Program} (w : World) (t k e : TypeId) (r : Option Nat) (h : P.underlying t = some (.map k e)) :
    (binOp .eql t (.map r) (.map none)).run P w = .ok (.bool r.isNone) w := by
  simp only [binOp]
  simp [Op.equal, Op.maxDepth, run_equalIn_map_nil w 9999 t k e r h]
set_option maxHeartbeats 4000000 in
set_option maxRecDepth 100000 in
theorem note8 (base g b : Nat) (T : List S33) (x : S33) (A : Option Addr) (c : Nat) (w : World) (h : Tbl w base g b T) (hC : k71.C w A x.f5.length x.f5) (hc : x.f5.length ≤ c) (hl : x.f5.length ≤ 1000000) (hw : (Lit.int .i64 x.f0).wf = true) (hT : T.length ≤ 1000000) :
    Calls Try.prog 8 #[.pointer (some ⟨g, 0, none⟩), repV x (.slice A x.f5.length c)] w fun e w' => e = .returned (.bool (decide (seqT T x.f0 < x.f1))) ∧ Tbl w' base g b (noteT T x) ∧ On (· = b) w w' := by
  obtain ⟨W, hW⟩ : ∃ W, W = w.alloc (.cells #[.int .i64 x.f0, .int .i64 x.f1, .int .i64 x.f2, .bool x.f3, .string x.f4, .slice A x.f5.length c, .string x.f6, .bool x.f7] 33) := ⟨_, rfl⟩
  have hB : Below w.heap.size w W := by rw [hW]; exact below_alloc (Below.refl _ _) _
  have h3 : W.heap[w.heap.size]? = some (.cells #[.int .i64 x.f0, .int .i64 x.f1, .int .i64 x.f2, .bool x.f3, .string x.f4, .slice A x.f5.length c, .string x.f6, .bool x.f7] 33 (0, 0)) := by rw [hW]; exact blk_new w _
  have HWB := Aside0.mk hB
  have HTB := Aside0.mk h
  have HC := Aside0.mk (And.intro hC (And.intro hc hl))
  have HW := Aside0.mk hw
  have HTL := Aside0.mk hT
  have HG : Aside0 (W.heap[g]? = some (.cells #[.map (some b)] 56 (0, 0))) := ⟨by obtain ⟨ms, m1, _⟩ := h; exact blk_below m1 hB⟩
  obtain ⟨g3, hg3⟩ : ∃ g3, g3 = w.heap.size := ⟨_, rfl⟩
  rw [← hg3] at h3
  have H3 := Aside0.mk h3
  obtain ⟨s, hs⟩ : ∃ s, s = seqT T x.f0 := ⟨_, rfl⟩
  have FSEQ := Aside0.mk (fun (W' : World) (hb : Below W.heap.size W W') => seq18 base g b T x.f0 W' (h.below (below_step hB hb)) hw)
  rw [← hs] at FSEQ ⊢
  have HSD := Aside0.mk hs
  obtain ⟨q, hq⟩ : ∃ b, b = decide (x.f1 ≤ s) := ⟨_, rfl⟩
  have HQ : Aside0 ((x.f1 ≤ s) = True ∧ True ∧ q = true ∨ (x.f1 ≤ s) = False ∧ True ∧ q = false) := ⟨by by_cases h : x.f1 ≤ s; exact .inl ⟨eq_true h, trivial, hq.trans (decide_eq_true h)⟩; exact .inr ⟨eq_false h, trivial, hq.trans (decide_eq_false h)⟩⟩
  have hpn := fun wx => run_eql_ptr_nil (P := Try.prog) wx 24 56 ⟨g, 0, none⟩ Try.underlying24
  have hmn : ∀ wx, (binOp .eql 54 (.map (some b)) (.map none)).run Try.prog wx = .ok (.bool false) wx := fun wx => run_eql_map_nil (P := Try.prog) wx 54 3 33 (some b) Try.underlying54
  clear h hC hc hl hw hT hB h3 hs hq
  go_enter Try.func8, Try.ntmps8
  go_wp2_with fail
  rw [← hW, ← hg3]
  clear hW hg3
  refine wp_reg 18 rfl rfl (by kernel_rfl) (fun u => .pointer (some ⟨g, 0, none⟩) :: repV x (.slice A x.f5.length c) :: undef :: .pointer (some ⟨g3, 0, none⟩) :: .bool false :: u 5 :: u 6 :: u 7 :: u 8 :: u 9 :: u 10 :: u 11 :: u 12 :: u 13 :: u 14 :: u 15 :: u 16 :: u 17 :: u 18 :: u 19 :: u 20 :: u 21 :: u 22 :: undef :: undef :: undef :: undef :: undef :: undef :: undef :: undef :: []) (fun (gg : Unit) => [(0, 5, .pointer (some ⟨g, 0, none⟩)), (1, 6, .bool false), (2, 7, .bool false), (3, 8, .pointer (some ⟨g, 0, none⟩)), (4, 9, .pointer (some ⟨g, 0, none⟩)), (5, 10, .pointer (some ⟨g, 0, none⟩)), (6, 11, .map (some b)), (7, 12, .bool false), (8, 13, .bool false), (9, 14, .bool false), (10, 15, .pointer (some ⟨g3, 1, none⟩)), (11, 16, .int .i64 (x.f1 : Int)), (12, 17, .pointer (some ⟨g, 0, none⟩)), (13, 18, .pointer (some ⟨g3, 0, none⟩)), (14, 19, .int .i64 (x.f0 : Int)), (15, 20, .int .i64 (s : Int)), (16, 21, .bool q), (17, 22, .bool q)]) (fun LL gg u wx => Aside0 (Below W.heap.size W wx)) () (zz []) rfl rfl ⟨below_drew (Below.refl _ _)⟩ ?_ ?_
  · refine Steps.cons ?_ (Steps.cons ?_ (Steps.cons ?_ (Steps.cons ?_ (Steps.cons ?_ (Steps.cons ?_ (Steps.cons ?_ (Steps.cons ?_ (Steps.cons ?_ (Steps.cons ?_ (Steps.cons ?_ (Steps.cons ?_ (Steps.cons ?_ (Steps.cons ?_ (Steps.cons ?_ (Steps.cons ?_ (Steps.cons ?_ (Steps.cons ?_ (Steps.nil))))))))))))))))))
    · exact V0 0
    · exact V1 1 0
    · exact V1 2 1
    · exact V1 3 2
    · exact V2 4 2 3
    · exact V2 5 2 4
    · refine V2 6 2 5 (h := fun LL gg u wx hl hLk eg e5 K hK => ?_)
      obtain ⟨hb⟩ := hl
      have q_ : wx.cell? ⟨g, 0, none⟩ = some (.map (some b)) := (blk_cell (blk_below HG.out hb.out) 0).trans rfl
      dsimp only [FA]
      refine wantd (by rw [eg]; rfl) ?_
      go_simp
      exact hK.out
    · refine V2 7 2 6 (h := fun LL gg u wx hl hLk eg e6 K hK => ?_)
      obtain ⟨hb⟩ := hl
      have hmn_ := hmn
      dsimp only [FA]
      refine wantd (by rw [eg]; rfl) ?_
      go_simp
      exact hK.out
    · exact V2 8 2 7
    · exact V1 9 8
    · exact V1 10 9
    · refine V2 11 9 10 (h := fun LL gg u wx hl hLk eg e10 K hK => ?_)
      obtain ⟨hb⟩ := hl
      have q_ : wx.cell? ⟨g3, 1, none⟩ = some (.int .i64 x.f1) := (blk_cell (blk_below H3.out hb.out) 1).trans rfl
      dsimp only [FA]
      refine wantd (by rw [eg]; rfl) ?_
      go_simp
      exact hK.out
    · exact V1 12 9
    · exact V1 13 9
    · refine V2 14 9 13 (h := fun LL gg u wx hl hLk eg e13 K hK => ?_)
      obtain ⟨hb⟩ := hl
      have q_ : wx.cell? ⟨g3, 0, none⟩ = some (.int .i64 x.f0) := (blk_cell (blk_below H3.out hb.out) 0).trans rfl
      dsimp only [FA]
      refine wantd (by rw [eg]; rfl) ?_
      go_simp
      exact hK.out
    · refine CD 15 (fun _ => rfl) (fun _ => rfl) fun LL gg u wx hl hLk hd hI K hK => ?_
      obtain ⟨hb⟩ := hl
      have e12 := hI.at 12 rfl (hd 12 rfl)
      have e14 := hI.at 14 rfl (hd 14 rfl)
      dsimp only [FA]
      have eg := hI.at 9 rfl (hd 9 rfl)
      refine wantd (by rw [eg]; rfl) ?_
      go_simp
      refine (FSEQ.out wx hb.out).mono ?_
      rintro e w' ⟨rfl, hb1⟩
      exact hK gg _ _ (sm3 eg e12 e14) rfl rfl ⟨below_step hb.out hb1⟩
    · refine G3 16 9 11 15 (h := fun LL gg u wx hl hLk eg e11 e15 K hK => ?_)
      rcases HQ.out with ⟨t1, t2, rfl⟩ | ⟨t1, t2, rfl⟩ <;> first | exact unwanted (by dsimp only [FA]; rw [eg]; rfl) (hK u rfl).out | (dsimp only [FA]; refine wantd (by rw [eg]; rfl) ?_; go_simp; exact (hK _ (sm3 eg e11 e15)).out)
    · exact V2 17 9 16
  · intro LL gg u wc hall hI hl
    obtain ⟨hb⟩ := hl
    have e17 := hI.at 17 rfl (hall 17 (by decide))
    dsimp only [FA] at ⊢
    rw [e17]
    have HBC := hb
    clear hI hb e17 hall
    have H3C := Aside0.mk (blk_below H3.out HBC.out)
    have HGC := Aside0.mk (blk_below HG.out HBC.out)
    cases q with
    | true =>
      have HS : Aside0 (decide (s < x.f1) = false ∧ noteT T x = T) := ⟨by rcases HQ.out with h | h; exact ⟨decide_eq_false (by have := of_eq_true h.1; omega), by unfold noteT; rw [← HSD.out, if_neg (by have := of_eq_true h.1; omega)]⟩; cases h.2.2⟩
      clear HQ HSD FSEQ
      go_wp2_with fail
      go_ret
      exact ⟨by rw [HS.out.1]; rfl, by rw [HS.out.2]; exact HTB.out.below (below_step HWB.out HBC.out), On.of_below (below_step HWB.out HBC.out)⟩
    | false =>
      have HS : Aside0 (decide (s < x.f1) = true ∧ noteT T x = putT x T) := ⟨by rcases HQ.out with h | h; cases h.2.2; exact ⟨decide_eq_true (by have := of_eq_false h.1; omega), by unfold noteT; rw [← HSD.out, if_pos (by have := of_eq_false h.1; omega)]⟩⟩
      have HBD := Aside0.mk (below_step HWB.out HBC.out)
      have FCOP := Aside0.mk (fun (W' : World) (hb : Below wc.heap.size wc W') => copied19 x A c W' (Kd.C_below HC.out.1 (below_step HBD.out hb)) HC.out.2.1 HC.out.2.2)
      obtain ⟨ms, m1, m2, m3, m4, m5⟩ := (HTB.out.below HBD.out)
      have HOWN := Aside0.mk m3
      have HBL := Aside0.mk m3.lt
      have HLEN : Aside0 (ms.length < maxLen) := ⟨by have := m5.len; have := HTL.out; unfold maxLen; omega⟩
      have HMS := Aside0.mk (And.intro m1 (And.intro m2 (And.intro m4 m5)))
      clear HQ HSD FSEQ m1 m2 m3 m4 m5 HTB
      go_wp2_with fail
      refine wp_reg 9 rfl rfl (by kernel_rfl) (fun z => .pointer (some ⟨g, 0, none⟩) :: repV x (.slice A x.f5.length c) :: undef :: .pointer (some ⟨g3, 0, none⟩) :: .bool false :: u 5 :: u 6 :: u 7 :: u 8 :: u 9 :: u 10 :: u 11 :: u 12 :: u 13 :: u 14 :: u 15 :: u 16 :: u 17 :: u 18 :: u 19 :: u 20 :: u 21 :: .bool false :: z 23 :: z 24 :: z 25 :: z 26 :: z 27 :: z 28 :: z 29 :: z 30 :: []) (fun (gg : (Option Addr) × Nat) => [(0, 23, .pointer (some ⟨g, 0, none⟩)), (1, 24, .pointer (some ⟨g, 0, none⟩)), (2, 25, .pointer (some ⟨g, 0, none⟩)), (3, 26, .map (some b)), (4, 27, .pointer (some ⟨g3, 0, none⟩)), (5, 28, .int .i64 (x.f0 : Int)), (6, 29, repV x (.slice A x.f5.length c)), (7, 30, repV x (.slice gg.1 x.f5.length gg.2))]) (fun LL gg z wx => Aside0 (LL 8 = false → Below wc.heap.size wc wx) ∧ Aside0 (LL 7 = true → LL 8 = false → k71.R 71 wx wc.heap.size (fun _ => True) (.slice gg.1 x.f5.length gg.2) x.f5) ∧ Aside0 ((LL 8 = true → LL 3 = true ∧ LL 5 = true ∧ LL 6 = true ∧ LL 7 = true) ∧ (LL 8 = true → ∃ w0, Below wc.heap.size wc w0 ∧ k71.R 71 w0 wc.heap.size (fun _ => True) (.slice gg.1 x.f5.length gg.2) x.f5 ∧ On (· = b) w0 wx ∧ wx.ownsMap Try.prog 3 RH b (putA x.f0 (repV x (.slice gg.1 x.f5.length gg.2)) ms).length (mD (putA x.f0 (repV x (.slice gg.1 x.f5.length gg.2)) ms))))) (none, 0) (zz []) rfl rfl ⟨⟨fun _ => below_drew (Below.refl _ _)⟩, ⟨fun h => absurd h (by decide)⟩, ⟨⟨fun h => absurd h (by decide), fun h => absurd h (by decide)⟩⟩⟩ ?_ ?_
      · refine Steps.cons ?_ (Steps.cons ?_ (Steps.cons ?_ (Steps.cons ?_ (Steps.cons ?_ (Steps.cons ?_ (Steps.cons ?_ (Steps.cons ?_ (Steps.cons ?_ (Steps.nil)))))))))
        · exact V0 0
        · exact V1 1 0
        · exact V1 2 1
        · refine V1 3 2 (hT := fun _ => rfl) (hR := fun LL gg z wx hLk hd ⟨hb, hr, hz⟩ => ⟨hb, hr, ⟨⟨fun h => ⟨rfl, (hz.out.1 h).2⟩, hz.out.2⟩⟩⟩) (h := fun LL gg z wx hl hLk e2 K hK => ?_)
          obtain ⟨⟨hb, hr, hz⟩⟩ := hl
          have hl8 := flag_off (fun h => (hz.out.1 h).1) hLk
          have q_ : wx.cell? ⟨g, 0, none⟩ = some (.map (some b)) := (blk_cell (blk_below HGC.out (hb.out hl8)) 0).trans rfl
          dsimp only [FA]
          refine wantd (by rfl) ?_
          go_simp
          exact hK.out
        · exact V0 4
        · refine V1 5 4 (hT := fun _ => rfl) (hR := fun LL gg z wx hLk hd ⟨hb, hr, hz⟩ => ⟨hb, hr, ⟨⟨fun h => ⟨(hz.out.1 h).1, rfl, (hz.out.1 h).2.2⟩, hz.out.2⟩⟩⟩) (h := fun LL gg z wx hl hLk e4 K hK => ?_)
          obtain ⟨⟨hb, hr, hz⟩⟩ := hl
          have hl8 := flag_off (fun h => (hz.out.1 h).2.1) hLk
          have q_ : wx.cell? ⟨g3, 0, none⟩ = some (.int .i64 x.f0) := (blk_cell (blk_below H3C.out (hb.out hl8)) 0).trans rfl
          dsimp only [FA]
          refine wantd (by rfl) ?_
          go_simp
          exact hK.out
        · refine V0 6 (hT := fun _ => rfl) (hR := fun LL gg z wx hLk hd ⟨hb, hr, hz⟩ => ⟨hb, hr, ⟨⟨fun h => ⟨(hz.out.1 h).1, (hz.out.1 h).2.1, rfl, (hz.out.1 h).2.2.2⟩, hz.out.2⟩⟩⟩) (h := fun LL gg z wx hl hLk  K hK => ?_)
          obtain ⟨⟨hb, hr, hz⟩⟩ := hl
          have hl8 := flag_off (fun h => (hz.out.1 h).2.2.1) hLk
          have q0_ : wx.cell? ⟨g3, 0, none⟩ = some (.int .i64 x.f0) := (blk_cell (blk_below H3C.out (hb.out hl8)) 0).trans rfl
          have q1_ : wx.cell? ⟨g3, 1, none⟩ = some (.int .i64 x.f1) := (blk_cell (blk_below H3C.out (hb.out hl8)) 1).trans rfl
          have q2_ : wx.cell? ⟨g3, 2, none⟩ = some (.int .i64 x.f2) := (blk_cell (blk_below H3C.out (hb.out hl8)) 2).trans rfl
          have q3_ : wx.cell? ⟨g3, 3, none⟩ = some (.bool x.f3) := (blk_cell (blk_below H3C.out (hb.out hl8)) 3).trans rfl
          have q4_ : wx.cell? ⟨g3, 4, none⟩ = some (.string x.f4) := (blk_cell (blk_below H3C.out (hb.out hl8)) 4).trans rfl
          have q5_ : wx.cell? ⟨g3, 5, none⟩ = some (.slice A x.f5.length c) := (blk_cell (blk_below H3C.out (hb.out hl8)) 5).trans rfl
          have q6_ : wx.cell? ⟨g3, 6, none⟩ = some (.string x.f6) := (blk_cell (blk_below H3C.out (hb.out hl8)) 6).trans rfl
          have q7_ : wx.cell? ⟨g3, 7, none⟩ = some (.bool x.f7) := (blk_cell (blk_below H3C.out (hb.out hl8)) 7).trans rfl
          dsimp only [FA]
          refine wantd (by rfl) ?_
          go_simp
          exact hK.out
        · refine CD 7 (fun _ => rfl) (fun _ => rfl) fun LL gg z wx hl hLk hd hI K hK => ?_
          obtain ⟨⟨hb, hr, hz⟩⟩ := hl
          have e6 := hI.at 6 rfl (hd 6 rfl)
          dsimp only [FA]
          refine wantd (by rfl) ?_
          go_simp
          have hl8 := flag_off (fun h => (hz.out.1 h).2.2.2) hLk
          refine (FCOP.out wx (hb.out hl8)).mono ?_
          rintro e w' ⟨v5, rfl, hR1, hb1⟩
          obtain ⟨A', c', rfl⟩ := Kd.R_slice hR1
          exact hK (A', c') _ _ (sm1 e6) rfl rfl ⟨⟨fun _ => below_step (hb.out hl8) hb1⟩, ⟨fun _ _ => Kd.R_lower hR1 (hb.out hl8).size⟩, ⟨⟨fun h => ⟨(hz.out.1 h).1, (hz.out.1 h).2.1, (hz.out.1 h).2.2.1, rfl⟩, fun h => absurd (hl8.symm.trans h) (by decide)⟩⟩⟩
        · refine CS (fun _ => rfl) fun LL gg z wx hl hLk hd hI K hK => ?_
          obtain ⟨⟨hb, hr, hz⟩⟩ := hl
          have e3 := hI.at 3 rfl (hd 3 rfl)
          have e5 := hI.at 5 rfl (hd 5 rfl)
          have e7 := hI.at 7 rfl (hd 7 rfl)
          have hbq := hb.out hLk
          have hrq := hr.out (hd 7 rfl) hLk
          obtain ⟨wn, hu1, hu2, hu3⟩ := upd_run (own_below HOWN.out (hbq.block b HBL.out)) HLEN.out x.f0 HW.out (repV x (.slice gg.1 x.f5.length gg.2))
          dsimp only [FA]
          refine wantd (by rfl) ?_
          go_simp
          exact hK _ _ (sm3 e3 e5 e7) ⟨⟨fun h => by cases h⟩, ⟨fun _ h => by cases h⟩, ⟨⟨fun _ => ⟨hd 3 rfl, hd 5 rfl, hd 6 rfl, hd 7 rfl⟩, fun _ => ⟨wx, hbq, hrq, hu3, hu2⟩⟩⟩⟩
      · intro LL gg z wd hall hI hl
        obtain ⟨Aq, cq⟩ := gg
        obtain ⟨⟨hb, hr, hz⟩⟩ := hl
        dsimp only [FA] at hb hr hz ⊢
        have HZ := Aside0.mk (hz.out.2 (hall 8 (by decide)))
        clear hI hb hr hz hall
        go_wp2_with fail
        go_ret
        obtain ⟨w0, z1, z2, z3, z4⟩ := HZ.out
        obtain ⟨m1, m2, m4, m5⟩ := HMS.out
        have hon : On (· = b) wc wd := (On.of_below z1).trans z3
        have hR := Kd.R_bound z2
        have hgg : g < wc.heap.size := blk_lt m1
        have hbb := HBL.out
        have hR9 : k71.R 71 wd 0 (fun k => k ≠ g ∧ k ≠ b) (.slice Aq x.f5.length cq) x.f5 := Kd.R_lower (Kd.R_mono (Kd.R_step hR (fun k hk hlt => z3.block k hlt (by omega))) (fun k hk => ⟨by omega, by omega⟩)) (Nat.zero_le _)
        have hm5 : RowsV wd (fun k => k ≠ g ∧ k ≠ b) T ms := m5.move (fun k hk hlt => hon.block k hlt hk.2)
        exact ⟨by rw [HS.out.1]; rfl, by rw [HS.out.2]; exact ⟨putA x.f0 (repV x (.slice Aq x.f5.length cq)) ms, hon.blk m1 m2.1, m2, z4, putT_ris m4, hm5.put hR9 HC.out.2.2⟩, (On.of_below HBD.out).trans hon⟩
end Go.Proofs.YtdeepnpbibhfiaaW.PrintOnce

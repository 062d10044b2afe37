/- The table's methods: All. No condition. -/
import Derived.Test.YtdeepnpbibhfiaaWOnce5
namespace Go.Proofs.YtdeepnpbibhfiaaW.PrintOnce
open Go Go.RowKit Go.Maps Go.Proofs.YtdeepnpbibhfiaaW.PrintWords Go.Proofs.YtdeepnpbibhfiaaW.PrintLast Go.Proofs.YtdeepnpbibhfiaaW.PrintMore Go.Proofs.YtdeepnpbibhfiaaW.PrintReg Go.Proofs.YtdeepnpbibhfiaaW.PrintTree
set_option linter.unusedVariables false
set_option linter.unusedSimpArgs false
theorem info39 : (Try.prog.info? 39).map (fun i => (i.zero, i.size, i.bytes)) = some (some (.agg #[(.int .i64 0), (.int .i64 0), (.int .i64 0), (.int .i64 0), (.bool false), (.string ⟨#[]⟩), (.slice none 0 0), (.string ⟨#[]⟩), (.bool false)]), 9, 104) := by kernel_rfl
/-- A last answer as the program tells it. -/
def mkL (x : S33) : S39 := ⟨x.f1, x⟩
theorem lkT_at {T : List S33} (hr : RisT T) {i : Nat} (hi : i < T.length) : lkT T T[i].f0 = some T[i] := by
  cases h : lkT T T[i].f0 with
  | none =>
    have := List.find?_eq_none.1 h T[i] (List.getElem_mem hi)
    simp at this
  | some x =>
    obtain ⟨hx, he⟩ := lkT_mem h
    obtain ⟨j, hj, rfl⟩ := List.getElem_of_mem hx
    have hp := List.pairwise_iff_getElem.1 hr
    rcases Nat.lt_trichotomy i j with h2 | h2 | h2
    · have := hp i j hi hj h2; omega
    · subst h2; rfl
    · have := hp j i hj hi h2; omega
theorem rdI_at (T : List S33) (i : Nat) (hi : i < T.length) : rd (T.map (·.f0)) (i : Int) = T[i].f0 := by unfold rd; simp [List.getD, hi]
theorem own_block_lt {w : World} {base : Nat} {v : Value} {xs : List S39} (h : k39.R 39 w base (fun _ => True) v xs) {k : Nat} (hk : v.ownBlock = some k) : k < w.heap.size := by
  obtain ⟨inner, ho⟩ := Kd.R_own h
  exact own_lt ho k hk
/-- The keys' row stays where answers are appended. -/
theorem keep_keys {w w' : World} {base : Nat} {vK v3 : Value} {xs : List Int} {ys : List S39} (h : (Kd.int .i64).R 3 w base (fun _ => True) vK xs) (h3 : k39.R 39 w base (fun _ => True) v3 ys) (hg : w.grownBy w' v3.ownBlock) : (Kd.int .i64).R 3 w' base (fun _ => True) vK xs := by
  obtain ⟨inner, ho⟩ := Kd.R_own h3
  cases hk : v3.ownBlock with
  | none => rw [hk] at hg; exact Kd.R_grown h hg (fun k _ => by simp)
  | some g =>
    rw [hk] at hg
    obtain ⟨cells, hc⟩ := own_typed ho g hk
    exact Kd.R_mono (Kd.R_grown (Kd.R_types h hc (fun q hq => by rcases List.mem_cons.1 hq with rfl | hq; decide; cases hq)) hg (fun k hk2 he => hk2.2 (Option.some.inj he))) (fun _ _ => trivial)
set_option maxHeartbeats 4000000 in
set_option maxRecDepth 100000 in
theorem all10 (base g b : Nat) (T : List S33) (w : World) (h : Tbl w base g b T) (hT : T.length ≤ 1000000) (hwf : ∀ x ∈ T, (Lit.int .i64 x.f0).wf = true) :
    Calls Try.prog 10 #[.pointer (some ⟨g, 0, none⟩)] w fun e w' => ∃ v, e = .returned v ∧ k39.R 39 w' w.heap.size (fun _ => True) v (T.map mkL) ∧ Below w.heap.size w w' := by
  obtain ⟨ms, m1, m2, m3, m4, m5⟩ := h
  have HT : Aside0 (Tbl w base g b T) := ⟨⟨ms, m1, m2, m3, m4, m5⟩⟩
  have HRT := Aside0.mk m4
  have HTL := Aside0.mk hT
  have HWF := Aside0.mk hwf
  have c0 : w.cell? ⟨g, 0, none⟩ = some (.map (some b)) := (blk_cell m1 0).trans rfl
  have hpn := fun wx => run_eql_ptr_nil (P := Try.prog) wx 24 56 ⟨g, 0, none⟩ Try.underlying24
  have hms := m5.len
  have FS := Aside0.mk (Try.sorted20 b ms.length (mD ms) RH w m3 (by rw [size_mD]; unfold maxLen; omega) (by rw [size_mD]; omega))
  have HK := Aside0.mk (And.intro (ris_of m5 m4) m5.keys)
  have HG := Aside0.mk (And.intro m1 hms)
  clear m1 m2 m3 m4 m5 hT hwf hms
  go_enter Try.func10, Try.ntmps10
  go_wp2_with fail
  refine (Try.keys21 b w).mono ?_
  rintro e w1 ⟨rfl, rfl⟩
  go_wp2_with fail
  refine FS.out.mono ?_
  rintro e w1 ⟨v, ss, rfl, hp, hrow, hb⟩
  rw [keys_mD] at hp
  rw [sort_keys HK.out.1 hp, HK.out.2] at hrow
  have hlen : ss.length = (T.map (·.f0)).length := by rw [hp.length_eq, ← HK.out.2]
  rw [hlen] at hrow
  have hR : (Kd.int .i64).R 3 w1 w.heap.size (fun _ => True) v (T.map (·.f0)) := Kd.R_of_own (enc := Value.int .i64) (h1 := fun _ => rfl) hrow (fun _ _ => trivial)
  obtain ⟨Ak, ck, rfl⟩ := Kd.R_slice hR
  obtain ⟨n, hn⟩ : ∃ n, n = (T.map (·.f0)).length := ⟨_, rfl⟩
  rw [← hn] at hR ⊢
  have HN : Aside0 (n = T.length) := ⟨by rw [hn, List.length_map]⟩
  have HKR := Aside0.mk hR
  have HB1 := Aside0.mk hb
  clear hp hrow hlen hR hn hb c0 FS HK
  go_wp2_with fail
  go_loopw [3, 15] (fun v3 v15 wr => ∃ i : Nat, v15 = .int .i64 (i : Int) ∧ Aside0 (i ≤ n) ∧ Aside0 (k39.R 39 wr w.heap.size (fun _ => True) v3 ((T.take i).map mkL)) ∧ Aside0 (Below w.heap.size w wr) ∧ Aside0 ((Kd.int .i64).R 3 wr w.heap.size (fun _ => True) (.slice Ak n ck) (T.map (·.f0)))) (fun _ v15 _ => n - (intOf v15).toNat)
  case atStart => exact ⟨0, rfl, ⟨Nat.zero_le _⟩, ⟨Kd.R_nil _ _ _ _ _⟩, HB1, HKR⟩
  case round =>
    clear HKR HB1
    obtain ⟨i, rfl, HI, HV, HB, HKR⟩ := hrel
    by_cases hlt : (i : Int) < (n : Int)
    · have r1 := eq_true hlt
      have r2 : (i < n) = True := eq_true (by omega)
      have r0 : ((0 : Int) ≤ (i : Int)) = True := eq_true (by omega)
      have HIL : Aside0 (i < n) := ⟨by omega⟩
      have hiT : i < T.length := by have := HN.out; omega
      have hCK := (Kd.R_reads' HKR.out).2.2
      obtain ⟨ad, e, hx⟩ := Kd.at_int (i := (i : Int)) hCK (by omega) (by rw [List.length_map]; have := HN.out; omega)
      cases e
      rw [rdI_at T i hiT] at hx
      simp only [Int.toNat_natCast] at hx
      obtain ⟨x, hxd⟩ : ∃ x, x = T[i] := ⟨_, rfl⟩
      rw [← hxd] at hx
      have HXM : Aside0 (x ∈ T) := ⟨by rw [hxd]; exact List.getElem_mem hiT⟩
      have HW : Aside0 ((Lit.int .i64 x.f0).wf = true) := ⟨HWF.out x HXM.out⟩
      have HTK : Aside0 ((T.take (i + 1)).map mkL = (T.take i).map mkL ++ [mkL x]) := ⟨by rw [List.take_add_one, List.getElem?_eq_getElem hiT, List.map_append, hxd]; rfl⟩
      obtain ⟨ms, m1, m2, m3, m4, m5⟩ := HT.out
      have hlk : lkT T x.f0 = some x := by rw [hxd]; exact lkT_at m4 hiT
      rcases m5.find x.f0 with ⟨e1, _⟩ | ⟨x', v5, e1, e2, e3, e4⟩
      · rw [hlk] at e1; cases e1
      rw [hlk] at e1
      obtain rfl := Option.some.inj e1
      obtain ⟨A5, c5, rfl⟩ := Kd.R_slice e3
      have HLK := Aside0.mk e2
      have HOWN := Aside0.mk m3
      have HBL := Aside0.mk m3.lt
      have hC5 := Kd.R_reads' e3
      have FCOP := Aside0.mk (fun (W' : World) (hb : Below w.heap.size w W') => copied19 x A5 c5 W' (Kd.C_below hC5.2.2 hb) hC5.2.1 e4)
      have HIW := Aside0.mk (show wrap64 ((i : Int) + 1) = ((i + 1 : Nat) : Int) by have := HTL.out; unfold wrap64; omega)
      clear hlt hiT hCK hxd m1 m2 m3 m4 m5 hlk e1 e2 e3 e4 hC5
      go_wp2_with fail
      refine wp_reg 19 rfl rfl (by kernel_rfl) (fun z => .pointer (some ⟨g, 0, none⟩) :: undef :: .slice none 0 0 :: z 3 :: undef :: .int .i64 (x.f0 : Int) :: .pointer (some ⟨g, 0, none⟩) :: .bool false :: .pointer (some ⟨g, 0, none⟩) :: .pointer (some ⟨g, 0, none⟩) :: .pointer (some ⟨g, 0, none⟩) :: .map (some b) :: .func (.func 29) #[] #[.pointer (some ⟨w.heap.size, 0, none⟩)] :: .slice (some ad) n ck :: .int .i64 (n : Int) :: .int .i64 (i : Int) :: .bool true :: .pointer (some (ad.add i)) :: .int .i64 (x.f0 : Int) :: z 19 :: z 20 :: z 21 :: z 22 :: z 23 :: z 24 :: z 25 :: z 26 :: z 27 :: z 28 :: z 29 :: z 30 :: z 31 :: z 32 :: z 33 :: z 34 :: z 35 :: z 36 :: u37 :: undef :: []) (fun (gg : (Option Addr) × Nat × (Option Addr) × Nat × Nat × Value × Value) => [(0, 19, u3), (1, 20, .pointer (some ⟨g, 0, none⟩)), (2, 21, .pointer (some ⟨g, 0, none⟩)), (3, 22, .pointer (some ⟨g, 0, none⟩)), (4, 23, .map (some b)), (5, 24, .int .i64 (x.f0 : Int)), (6, 25, repV x (.slice A5 x.f5.length c5)), (7, 26, .int .i64 (x.f1 : Int)), (8, 27, .pointer (some ⟨g, 0, none⟩)), (9, 28, .pointer (some ⟨g, 0, none⟩)), (10, 29, .pointer (some ⟨g, 0, none⟩)), (11, 30, .map (some b)), (12, 31, .int .i64 (x.f0 : Int)), (13, 32, repV x (.slice A5 x.f5.length c5)), (14, 33, repV x (.slice gg.1 x.f5.length gg.2.1)), (15, 34, .agg #[.int .i64 x.f1, .int .i64 x.f0, .int .i64 x.f1, .int .i64 x.f2, .bool x.f3, .string x.f4, .slice gg.2.2.1 x.f5.length gg.2.2.2.1, .string x.f6, .bool x.f7]), (16, 35, .slice (some ⟨gg.2.2.2.2.1, 0, none⟩) 1 1), (17, 36, gg.2.2.2.2.2.1), (18, 3, gg.2.2.2.2.2.2)]) (fun LL gg z wx => Aside0 (Below w.heap.size w wx) ∧ Aside0 (LL 18 = false → z 3 = u3) ∧ Aside0 ((LL 18 = true → LL 0 = true ∧ LL 17 = true) ∧ (LL 16 = true → LL 15 = true) ∧ (LL 17 = true → LL 16 = true) ∧ (LL 15 = true → LL 14 = true)) ∧ Aside0 (LL 16 = false → k39.R 39 wx w.heap.size (fun _ => True) u3 ((T.take i).map mkL) ∧ (Kd.int .i64).R 3 wx w.heap.size (fun _ => True) (.slice (some ad) n ck) (T.map (·.f0))) ∧ Aside0 (LL 15 = true → gg.2.2.1 = gg.1 ∧ gg.2.2.2.1 = gg.2.1) ∧ Aside0 (LL 18 = true → gg.2.2.2.2.2.2 = gg.2.2.2.2.2.1) ∧ Aside0 (LL 14 = true → LL 16 = false → k71.R 71 wx w.heap.size (fun k => some k ≠ u3.ownBlock) (.slice gg.1 x.f5.length gg.2.1) x.f5) ∧ Aside0 (LL 16 = true → LL 17 = false → ∃ W0 : World, wx = W0.alloc (.cells #[.int .i64 x.f1, .int .i64 x.f0, .int .i64 x.f1, .int .i64 x.f2, .bool x.f3, .string x.f4, .slice gg.2.2.1 x.f5.length gg.2.2.2.1, .string x.f6, .bool x.f7] 39) ∧ gg.2.2.2.2.1 = W0.heap.size ∧ Below w.heap.size w W0 ∧ k39.R 39 W0 w.heap.size (fun _ => True) u3 ((T.take i).map mkL) ∧ (Kd.int .i64).R 3 W0 w.heap.size (fun _ => True) (.slice (some ad) n ck) (T.map (·.f0)) ∧ k71.R 71 W0 w.heap.size (fun k => some k ≠ u3.ownBlock) (.slice gg.2.2.1 x.f5.length gg.2.2.2.1) x.f5) ∧ Aside0 (LL 17 = true → k39.R 39 wx w.heap.size (fun _ => True) gg.2.2.2.2.2.1 ((T.take (i + 1)).map mkL) ∧ (Kd.int .i64).R 3 wx w.heap.size (fun _ => True) (.slice (some ad) n ck) (T.map (·.f0)))) (none, 0, none, 0, 0, undef, undef) (zz [(3, u3), (19, u19), (20, u20), (21, u21), (22, u22), (23, u23), (24, u24), (25, u25), (26, u26), (27, u27), (28, u28), (29, u29), (30, u30), (31, u31), (32, u32), (33, u33), (34, u34), (35, u35), (36, u36)]) rfl rfl ⟨⟨below_step HB.out (below_drew (Below.refl _ _))⟩, ⟨fun _ => rfl⟩, ⟨⟨fun h => absurd h (by decide), fun h => absurd h (by decide), fun h => absurd h (by decide), fun h => absurd h (by decide)⟩⟩, ⟨fun _ => ⟨Kd.R_drew HV.out, Kd.R_drew HKR.out⟩⟩, ⟨fun h => absurd h (by decide)⟩, ⟨fun h => absurd h (by decide)⟩, ⟨fun h => absurd h (by decide)⟩, ⟨fun h => absurd h (by decide)⟩, ⟨fun h => absurd h (by decide)⟩⟩ ?_ ?_
      · refine Steps.cons ?_ (Steps.cons ?_ (Steps.cons ?_ (Steps.cons ?_ (Steps.cons ?_ (Steps.cons ?_ (Steps.cons ?_ (Steps.cons ?_ (Steps.cons ?_ (Steps.cons ?_ (Steps.cons ?_ (Steps.cons ?_ (Steps.cons ?_ (Steps.cons ?_ (Steps.cons ?_ (Steps.cons ?_ (Steps.cons ?_ (Steps.cons ?_ (Steps.cons ?_ (Steps.nil)))))))))))))))))))
        · refine CD 0 (fun _ => rfl) (fun _ => rfl) fun LL gg z wx hl hLk hd hI K hK => ?_
          obtain ⟨⟨hb, h3, hz, hq, hE, hF, hr, ha, hc⟩⟩ := hl
          have h3_ := h3.out (flag_off (fun h => (hz.out.1 h).1) hLk)
          dsimp only [FA]
          refine wantd (by rfl) ?_
          go_simp
          exact hK gg _ _ (sm1 h3_) rfl rfl ⟨hb, h3, ⟨⟨fun h => ⟨rfl, (hz.out.1 h).2⟩, hz.out.2⟩⟩, hq, hE, hF, hr, ha, hc⟩
        · exact V0 1
        · exact V1 2 1
        · exact V1 3 2
        · refine V1 4 3 (h := fun LL gg z wx hl hLk e3 K hK => ?_)
          obtain ⟨⟨hb, h3, hz, hq, hE, hF, hr, ha, hc⟩⟩ := hl
          have q_ : wx.cell? ⟨g, 0, none⟩ = some (.map (some b)) := (blk_cell (blk_below HG.out.1 hb.out) 0).trans rfl
          dsimp only [FA]
          refine wantd (by rfl) ?_
          go_simp
          exact hK.out
        · exact V0 5
        · refine V2 6 4 5 (h := fun LL gg z wx hl hLk e4 e5 K hK => ?_)
          obtain ⟨⟨hb, h3, hz, hq, hE, hF, hr, ha, hc⟩⟩ := hl
          have hl_ : (Instr.lookup 54 (.map (some b)) (.int .i64 x.f0) false).run Try.prog wx = .ok (repV x (.slice A5 x.f5.length c5)) wx := by have h := look_run (own_below HOWN.out (hb.out.block b HBL.out)) x.f0 HW.out false; rw [HLK.out] at h; exact h
          dsimp only [FA]
          refine wantd (by rfl) ?_
          go_simp
          exact hK.out
        · exact V1 7 6
        · exact V0 8
        · exact V1 9 8
        · exact V1 10 9
        · refine V1 11 10 (h := fun LL gg z wx hl hLk e10 K hK => ?_)
          obtain ⟨⟨hb, h3, hz, hq, hE, hF, hr, ha, hc⟩⟩ := hl
          have q_ : wx.cell? ⟨g, 0, none⟩ = some (.map (some b)) := (blk_cell (blk_below HG.out.1 hb.out) 0).trans rfl
          dsimp only [FA]
          refine wantd (by rfl) ?_
          go_simp
          exact hK.out
        · exact V0 12
        · refine V2 13 11 12 (h := fun LL gg z wx hl hLk e11 e12 K hK => ?_)
          obtain ⟨⟨hb, h3, hz, hq, hE, hF, hr, ha, hc⟩⟩ := hl
          have hl_ : (Instr.lookup 54 (.map (some b)) (.int .i64 x.f0) false).run Try.prog wx = .ok (repV x (.slice A5 x.f5.length c5)) wx := by have h := look_run (own_below HOWN.out (hb.out.block b HBL.out)) x.f0 HW.out false; rw [HLK.out] at h; exact h
          dsimp only [FA]
          refine wantd (by rfl) ?_
          go_simp
          exact hK.out
        · refine CD 14 (fun _ => rfl) (fun _ => rfl) fun LL gg z wx hl hLk hd hI K hK => ?_
          obtain ⟨⟨hb, h3, hz, hq, hE, hF, hr, ha, hc⟩⟩ := hl
          have e13 := hI.at 13 rfl (hd 13 rfl)
          dsimp only [FA]
          refine wantd (by rfl) ?_
          go_simp
          have hl15 := flag_off (fun h => hz.out.2.2.2 h) hLk
          have hl16 := flag_off (fun h => hz.out.2.1 h) hl15
          have hq_ := hq.out hl16
          refine (FCOP.out wx hb.out).mono ?_
          rintro e w' ⟨v5, rfl, hR1, hb1⟩
          obtain ⟨A', c', rfl⟩ := Kd.R_slice hR1
          have hRq : k71.R 71 w' w.heap.size (fun k => some k ≠ u3.ownBlock) (.slice A' x.f5.length c') x.f5 := Kd.R_mono (Kd.R_lower (Kd.R_bound hR1) hb.out.size) (fun k hk he => by have := own_block_lt hq_.1 he.symm; omega)
          exact hK (A', c', gg.2.2.1, gg.2.2.2.1, gg.2.2.2.2.1, gg.2.2.2.2.2.1, gg.2.2.2.2.2.2) _ _ (sm1 e13) rfl rfl ⟨⟨below_step hb.out hb1⟩, h3, ⟨⟨hz.out.1, hz.out.2.1, hz.out.2.2.1, fun _ => rfl⟩⟩, ⟨fun _ => ⟨Kd.R_below hq_.1 hb1, Kd.R_below hq_.2 hb1⟩⟩, ⟨fun h => absurd (hl15.symm.trans h) (by decide)⟩, hF, ⟨fun _ _ => hRq⟩, ⟨fun h => absurd (hl16.symm.trans h) (by decide)⟩, ⟨fun h => absurd (hl16.symm.trans (hz.out.2.2.1 h)) (by decide)⟩⟩
        · refine CD 15 (fun _ => rfl) (fun _ => rfl) fun LL gg z wx hl hLk hd hI K hK => ?_
          obtain ⟨⟨hb, h3, hz, hq, hE, hF, hr, ha, hc⟩⟩ := hl
          have e7 := hI.at 7 rfl (hd 7 rfl)
          have e14 := hI.at 14 rfl (hd 14 rfl)
          dsimp only [FA]
          refine wantd (by rfl) ?_
          go_simp
          exact hK (gg.1, gg.2.1, gg.1, gg.2.1, gg.2.2.2.2.1, gg.2.2.2.2.2.1, gg.2.2.2.2.2.2) _ _ (sm2 e7 e14) rfl rfl ⟨hb, h3, ⟨⟨hz.out.1, fun _ => rfl, hz.out.2.2.1, fun _ => hd 14 rfl⟩⟩, hq, ⟨fun _ => ⟨rfl, rfl⟩⟩, hF, hr, ⟨fun h => absurd ((flag_off (fun h => hz.out.2.1 h) hLk).symm.trans h) (by decide)⟩, hc⟩
        · refine CD 16 (fun _ => rfl) (fun _ => rfl) fun LL gg z wx hl hLk hd hI K hK => ?_
          obtain ⟨⟨hb, h3, hz, hq, hE, hF, hr, ha, hc⟩⟩ := hl
          have e15 := hI.at 15 rfl (hd 15 rfl)
          have hq_ := hq.out hLk
          have hr_ := hr.out (hz.out.2.2.2 (hd 15 rfl)) hLk
          have hl17 := flag_off (fun h => hz.out.2.2.1 h) hLk
          rw [← (hE.out (hd 15 rfl)).1, ← (hE.out (hd 15 rfl)).2] at hr_
          dsimp only [FA]
          refine wantd (by rfl) ?_
          go_simp
          exact hK (gg.1, gg.2.1, gg.2.2.1, gg.2.2.2.1, wx.heap.size, gg.2.2.2.2.2.1, gg.2.2.2.2.2.2) _ _ (sm1 e15) rfl rfl ⟨⟨below_alloc hb.out _⟩, h3, ⟨⟨hz.out.1, fun _ => hd 15 rfl, fun _ => rfl, hz.out.2.2.2⟩⟩, ⟨fun h => absurd (show true = false from h) (by decide)⟩, hE, hF, ⟨fun _ h => absurd (show true = false from h) (by decide)⟩, ⟨fun _ _ => ⟨wx, rfl, rfl, hb.out, hq_.1, hq_.2, hr_⟩⟩, ⟨fun h => absurd (hl17.symm.trans h) (by decide)⟩⟩
        · refine CD 17 (fun _ => rfl) (fun _ => rfl) fun LL gg z wx hl hLk hd hI K hK => ?_
          obtain ⟨⟨hb, h3, hz, hq, hE, hF, hr, ha, hc⟩⟩ := hl
          have e0 := hI.at 0 rfl (hd 0 rfl)
          have e16 := hI.at 16 rfl (hd 16 rfl)
          obtain ⟨W0, rfl, hgb, a1, a2, a3, a4⟩ := ha.out (hd 16 rfl) hLk
          refine Kd.R_append_step k39 (w0 := w) w.heap.size (by rfl) (.tmp 19) (.tmp 35) 36 39 (.agg #[(.int .i64 0), (.int .i64 0), (.int .i64 0), (.int .i64 0), (.bool false), (.string ⟨#[]⟩), (.slice none 0 0), (.string ⟨#[]⟩), (.bool false)]) 104 rfl Try.underlying36 info39 rfl (by decide) (by omega) u3 ((T.take i).map mkL) (mkL x) _ (fun _ => True) (fun k => some k ≠ u3.ownBlock) e0 (by rw [hgb] at e16; exact e16) (k39_mkM _ _ _ (mkL x) a4) (fun k hk => ⟨trivial, hk⟩) (fun _ _ => trivial) a2 a1 a1.size (by have := HTL.out; rw [List.length_map, List.length_take]; omega) ?_
          intro v' w' ho hb1 hg hat
          exact hK (gg.1, gg.2.1, gg.2.2.1, gg.2.2.2.1, gg.2.2.2.2.1, v', gg.2.2.2.2.2.2) _ _ rfl rfl rfl ⟨⟨hb1⟩, h3, ⟨⟨fun h => ⟨(hz.out.1 h).1, rfl⟩, hz.out.2.1, fun _ => hd 16 rfl, hz.out.2.2.2⟩⟩, ⟨fun h => absurd ((hd 16 rfl).symm.trans h) (by decide)⟩, hE, ⟨fun h => absurd ((flag_off (fun h => (hz.out.1 h).2) hLk).symm.trans h) (by decide)⟩, ⟨fun _ h => absurd ((hd 16 rfl).symm.trans h) (by decide)⟩, ⟨fun _ h => absurd (show true = false from h) (by decide)⟩, ⟨fun _ => ⟨by rw [HTK.out]; exact ho, keep_keys a3 a2 hg⟩⟩⟩
        · refine CD 18 (fun _ => rfl) (fun _ => rfl) fun LL gg z wx hl hLk hd hI K hK => ?_
          obtain ⟨⟨hb, h3, hz, hq, hE, hF, hr, ha, hc⟩⟩ := hl
          have e17 := hI.at 17 rfl (hd 17 rfl)
          dsimp only [FA]
          refine wantd (by rfl) ?_
          go_simp
          exact hK (gg.1, gg.2.1, gg.2.2.1, gg.2.2.2.1, gg.2.2.2.2.1, gg.2.2.2.2.2.1, gg.2.2.2.2.2.1) _ _ (sm1 e17) rfl rfl ⟨hb, ⟨fun h => absurd (show true = false from h) (by decide)⟩, ⟨⟨fun _ => ⟨hd 0 rfl, hd 17 rfl⟩, hz.out.2⟩⟩, hq, hE, ⟨fun _ => rfl⟩, hr, ha, hc⟩
      · intro LL gg z wc hall hI hl
        obtain ⟨Aq, cq, Ab, cb, gb, v4, v6⟩ := gg
        obtain ⟨⟨hb, h3, hz, hq, hE, hF, hr, ha, hc⟩⟩ := hl
        have e18 := hI.at 18 rfl (hall 18 (by decide))
        dsimp only [FA] at hb h3 hz hq hE hF hr ha hc e18 ⊢
        rw [e18, hF.out (hall 18 (by decide))]
        have HBC := hb
        have HCC := Aside0.mk (hc.out (hall 17 (by decide)))
        clear hI hb h3 hz hq hE hF hr ha hc e18 hall
        go_wp2_with fail
        go_roundw
        case rel => exact ⟨i + 1, by rw [HIW.out], ⟨by have := HIL.out; omega⟩, ⟨HCC.out.1⟩, HBC, ⟨HCC.out.2⟩⟩
        case measure => rw [HIW.out]; simp only [intOf]; have := HIL.out; omega
    · have r1 := eq_false hlt
      have r2 : (i < n) = False := eq_false (by omega)
      have hi : i = n := by have := HI.out; omega
      clear hlt
      go_wp2_with fail
      go_ret
      have hv := HV.out
      rw [List.take_of_length_le (by have := HN.out; omega)] at hv
      exact ⟨_, rfl, hv, HB.out⟩
end Go.Proofs.YtdeepnpbibhfiaaW.PrintOnce

/- The reference's row of last answers. No condition. -/
import Derived.Test.YtdeepnpbibhfiaaWOnce7
namespace Go.Proofs.YtdeepnpbibhfiaaW.PrintOnce
open Go Go.RowKit Go.Maps Go.Proofs.YtdeepnpbibhfiaaW.PrintWords Go.Proofs.YtdeepnpbibhfiaaW.PrintLast Go.Proofs.YtdeepnpbibhfiaaW.PrintMore Go.Proofs.YtdeepnpbibhfiaaW.PrintReg Go.Proofs.YtdeepnpbibhfiaaW.PrintTree
set_option linter.unusedVariables false
set_option linter.unusedSimpArgs false
theorem info47 : (Try.prog.info? 47).map (fun i => (i.zero, i.size, i.bytes)) = some (some (.agg #[(.int .i64 0), (.int .i64 0), (.int .i64 0), (.int .i64 0), (.bool false), (.string ⟨#[]⟩), (.slice none 0 0), (.string ⟨#[]⟩), (.bool false)]), 9, 104) := by kernel_rfl
/-- A last answer as the reference has it. -/
def mkM (x : S33) : S47 := ⟨x.f1, x⟩
/-- A reply of which the records lie where the world w0 has them; with its number ahead. -/
def kW (w0 : World) : Kd S33 where
  sz := 9
  E := []
  K := fun _ x cs => k47.K w0 (mkM x) cs
  M := fun _ _ _ x cs => k47.K w0 (mkM x) cs
  K_below := fun _ h => h
  M_mono := fun _ h => h
  M_move := fun _ h => h
  M_bound := fun h => h
  K_of_M := fun h => h
  K_len := fun h => k47.K_len h
  K_one := fun h => k47.K_one h
  M_lower := fun _ h => h
/-- The reference's object: its row T, told by the world w0. -/
def Mt (w w0 : World) (base gm : Nat) (T : List S33) : Prop := ∃ v, w.heap[gm]? = some (.cells #[v] 46 (0, 0)) ∧ base ≤ gm ∧ (kW w0).R 47 w base (fun k => some k = v.ownBlock) v T
theorem at_M {w w0 : World} {base : Nat} {ok : Nat → Prop} {A : Option Addr} {n c : Nat} {T : List S33} (h : (kW w0).R 47 w base ok (.slice A n c) T) (i : Nat) (hi : i < T.length) : ∃ ad, A = some ad ∧ w.cell? (ad.add (i * 9)) = some (.int .i64 T[i].f1) ∧ w.cell? ⟨(ad.add (i * 9)).block, (ad.add (i * 9)).off + 1, none⟩ = some (.int .i64 T[i].f0) := by
  obtain ⟨h1, h2, h3⟩ := Kd.R_reads' h
  obtain ⟨ad, cs, e, _, hK, hc0⟩ := Kd.C_get h3 z33 (i : Int) (by omega) (by omega)
  have hc : ∀ j u, cs[j]? = some u → w.cell? (ad.add (i * 9 + j)) = some u := hc0
  have e1 : T.getD (i : Int).toNat z33 = T[i] := by rw [Int.toNat_natCast, List.getD_eq_getElem?_getD, List.getElem?_eq_getElem hi]; rfl
  rw [e1] at hK
  have hK : k47.K w0 (mkM T[i]) cs := hK
  obtain ⟨A6, c6, rfl, _, _⟩ := k47_open hK
  exact ⟨ad, e, hc 0 _ rfl, by rw [← add_field _ _ 1 (by omega)]; exact hc 1 _ rfl⟩
def kT (T : List S33) (c : Int) : Nat := (T.takeWhile (fun x => decide (x.f0 < c))).length
def okT (T : List S33) (c : Int) : Bool := decide (kT T c < T.length ∧ (T.getD (kT T c) z33).f0 = c)
theorem kT_eq : ∀ {T : List S33} {c : Int} {k : Nat}, k ≤ T.length → (∀ j (h : j < T.length), j < k → T[j].f0 < c) → (∀ h : k < T.length, ¬ T[k].f0 < c) → kT T c = k
  | [], c, k, h, _, _ => by simp at h; subst h; rfl
  | x :: T, c, 0, h, _, h2 => by
    have := h2 (by simp)
    unfold kT
    rw [List.takeWhile_cons, if_neg (by simpa using this)]; rfl
  | x :: T, c, k + 1, h, h1, h2 => by
    have h0 := h1 0 (by simp) (by omega)
    have ih := kT_eq (T := T) (c := c) (k := k) (by simpa using h) (fun j hj hk => h1 (j + 1) (by simpa using hj) (by omega)) (fun hk => h2 (by simpa using hk))
    unfold kT at ih ⊢
    rw [List.takeWhile_cons, if_pos (by simpa using h0), List.length_cons, ih]
set_option maxHeartbeats 4000000 in
set_option maxRecDepth 100000 in
theorem at23 (w0 : World) (base gm : Nat) (T : List S33) (c : Int) (w : World) (h : Mt w w0 base gm T) (hT : T.length ≤ 1000000) :
    Calls Try.prog 23 #[.pointer (some ⟨gm, 0, none⟩), .int .i64 c] w fun e w' => e = .returned (.tuple #[.int .i64 (kT T c : Int), .bool (okT T c)]) ∧ Below w.heap.size w w' := by
  obtain ⟨v, h1, h2, h3⟩ := h
  obtain ⟨A, cv, rfl⟩ := Kd.R_slice h3
  obtain ⟨n, hn⟩ : ∃ n, n = T.length := ⟨_, rfl⟩
  have HN := Aside0.mk hn
  rw [← hn] at h1 h3
  have HG0 := Aside0.mk h1
  have HR := Aside0.mk h3
  have HTL := Aside0.mk hT
  clear h1 h2 h3 hn hT
  go_enter Try.func23, Try.ntmps23
  go_wp2_with fail
  go_loopw [6] (fun v6 wr => ∃ k : Nat, v6 = .int .i64 (k : Int) ∧ Aside0 (k ≤ n ∧ ∀ j (h : j < T.length), j < k → T[j].f0 < c) ∧ Aside0 (Below w.heap.size w wr)) (fun v6 _ => n - (intOf v6).toNat)
  case atStart => exact ⟨0, rfl, ⟨Nat.zero_le _, fun j _ h => absurd h (by omega)⟩, ⟨Below.refl _ _⟩⟩
  case round =>
    obtain ⟨k, rfl, HK, HB⟩ := hrel
    have HG := Aside0.mk (blk_below HG0.out HB.out)
    have ck : wr.cell? ⟨gm, 0, none⟩ = some (.slice A n cv) := (blk_cell HG.out 0).trans rfl
    have HIW := Aside0.mk (show wrap64 ((k : Int) + 1) = ((k + 1 : Nat) : Int) by have := HK.out.1; have := HN.out; have := HTL.out; unfold wrap64; omega)
    by_cases hlt : (k : Int) < (n : Int)
    · have r1 := eq_true hlt
      have r2 : (k < n) = True := eq_true (by omega)
      have r0 : ((0 : Int) ≤ (k : Int)) = True := eq_true (by omega)
      have hk : k < T.length := by have := HN.out; omega
      obtain ⟨ad, e, y0, y1⟩ := at_M (Kd.R_below HR.out HB.out) k hk
      cases e
      obtain ⟨f, hf⟩ : ∃ f, f = T[k].f0 := ⟨_, rfl⟩
      rw [← hf] at y1
      have HF := Aside0.mk y1
      have HKL : Aside0 (k < n) := ⟨by omega⟩
      by_cases hlc : f < c
      · have u1 := eq_true hlc
        have HNX : Aside0 (∀ j (h : j < T.length), j < k + 1 → T[j].f0 < c) := ⟨fun j h hj => by rcases Nat.lt_succ_iff_lt_or_eq.1 hj with h2 | rfl; exact HK.out.2 j h h2; rw [← hf]; exact hlc⟩
        clear hlt hk hf hlc y0
        go_wp2_with fail
        go_roundw
        case rel => exact ⟨k + 1, by rw [HIW.out], ⟨by have := HKL.out; omega, HNX.out⟩, HB⟩
        case measure => rw [HIW.out]; simp only [intOf]; have := HKL.out; omega
      · have u1 := eq_false hlc
        have HKT : Aside0 (kT T c = k) := ⟨kT_eq (by have := HN.out; have := HKL.out; omega) HK.out.2 (fun h => by rw [← hf]; exact hlc)⟩
        obtain ⟨q, hq⟩ : ∃ q, q = decide (f = c) := ⟨_, rfl⟩
        have HQ : Aside0 ((f == c) = true ∧ (f = c) = True ∧ q = true ∨ (f == c) = false ∧ (f = c) = False ∧ q = false) := ⟨by by_cases h : f = c; exact .inl ⟨by simpa using h, eq_true h, hq.trans (decide_eq_true h)⟩; exact .inr ⟨by simpa using h, eq_false h, hq.trans (decide_eq_false h)⟩⟩
        have HOK : Aside0 (okT T c = q) := ⟨by unfold okT; rw [HKT.out, hq, hf, List.getD_eq_getElem?_getD, List.getElem?_eq_getElem hk]; exact decide_eq_decide.2 ⟨fun h => h.2, fun h => ⟨hk, h⟩⟩⟩
        have HLT : Aside0 (((0 : Int) ≤ (k : Int)) = True ∧ ((k : Int) < (n : Int)) = True ∧ (k < n) = True) := ⟨⟨r0, r1, r2⟩⟩
        clear hlt hk hf hlc y0 hq
        go_wp2_with fail
        refine wp_reg 23 rfl rfl (by kernel_rfl) (fun z => .pointer (some ⟨gm, 0, none⟩) :: .int .i64 c :: undef :: undef :: z 4 :: z 5 :: .int .i64 (k : Int) :: .int .i64 (k : Int) :: .pointer (some ⟨gm, 0, none⟩) :: .pointer (some ⟨gm, 0, none⟩) :: .pointer (some ⟨gm, 0, none⟩) :: .slice (some ad) n cv :: .int .i64 (n : Int) :: .bool true :: .bool true :: .pointer (some ⟨gm, 0, none⟩) :: .pointer (some ⟨gm, 0, none⟩) :: .pointer (some ⟨gm, 0, none⟩) :: .slice (some ad) n cv :: .int .i64 (k : Int) :: .pointer (some (ad.add (k * 9))) :: .pointer (some ⟨(ad.add (k * 9)).block, (ad.add (k * 9)).off + 1, none⟩) :: .pointer (some ⟨(ad.add (k * 9)).block, (ad.add (k * 9)).off + 1, none⟩) :: .int .i64 f :: .int .i64 c :: .bool false :: .bool false :: u27 :: u28 :: z 29 :: z 30 :: z 31 :: z 32 :: z 33 :: z 34 :: z 35 :: z 36 :: z 37 :: z 38 :: z 39 :: z 40 :: z 41 :: z 42 :: z 43 :: z 44 :: z 45 :: z 46 :: z 47 :: z 48 :: z 49 :: []) (fun (gg : Unit) => [(0, 29, .int .i64 (k : Int)), (1, 30, .int .i64 (k : Int)), (2, 31, .pointer (some ⟨gm, 0, none⟩)), (3, 32, .pointer (some ⟨gm, 0, none⟩)), (4, 33, .pointer (some ⟨gm, 0, none⟩)), (5, 34, .slice (some ad) n cv), (6, 35, .int .i64 (n : Int)), (7, 36, .bool true), (8, 37, .bool true), (9, 38, .pointer (some ⟨gm, 0, none⟩)), (10, 39, .pointer (some ⟨gm, 0, none⟩)), (11, 40, .pointer (some ⟨gm, 0, none⟩)), (12, 41, .slice (some ad) n cv), (13, 42, .int .i64 (k : Int)), (14, 43, .pointer (some (ad.add (k * 9)))), (15, 44, .pointer (some ⟨(ad.add (k * 9)).block, (ad.add (k * 9)).off + 1, none⟩)), (16, 45, .pointer (some ⟨(ad.add (k * 9)).block, (ad.add (k * 9)).off + 1, none⟩)), (17, 46, .int .i64 f), (18, 47, .int .i64 c), (19, 48, .bool q), (20, 49, .bool q), (21, 4, .int .i64 (k : Int)), (22, 5, .bool q)]) (fun LL gg z wx => Aside0 (Below wr.heap.size wr wx)) () (zz [(4, .int .i64 0), (5, .bool false), (29, undef), (30, undef), (31, undef), (32, undef), (33, undef), (34, undef), (35, undef), (36, undef), (37, undef), (38, undef), (39, undef), (40, undef), (41, undef), (42, undef), (43, undef), (44, undef), (45, undef), (46, undef), (47, undef), (48, undef), (49, undef)]) rfl rfl ⟨below_drew (Below.refl _ _)⟩ ?_ ?_
        · refine Steps.cons ?_ (Steps.cons ?_ (Steps.cons ?_ (Steps.cons ?_ (Steps.cons ?_ (Steps.cons ?_ (Steps.cons ?_ (Steps.cons ?_ (Steps.cons ?_ (Steps.cons ?_ (Steps.cons ?_ (Steps.cons ?_ (Steps.cons ?_ (Steps.cons ?_ (Steps.cons ?_ (Steps.cons ?_ (Steps.cons ?_ (Steps.cons ?_ (Steps.cons ?_ (Steps.cons ?_ (Steps.cons ?_ (Steps.cons ?_ (Steps.cons ?_ (Steps.nil)))))))))))))))))))))))
          · exact V0 0
          · exact V0 1
          · exact V0 2
          · exact V1 3 2
          · exact V1 4 3
          · refine V1 5 4 (h := fun LL gg z wx hl hLk e4 K hK => ?_)
            obtain ⟨hb⟩ := hl
            have q_ : wx.cell? ⟨gm, 0, none⟩ = some (.slice (some ad) n cv) := (blk_cell (blk_below HG.out hb.out) 0).trans rfl
            dsimp only [FA]
            refine wantd (by rfl) ?_
            go_simp
            exact hK.out
          · exact V1 6 5
          · refine V2 7 1 6 (h := fun LL gg z wx hl hLk e1 e6 K hK => ?_)
            obtain ⟨hb⟩ := hl
            have t1 := HLT.out.2.1
            have t2 := HLT.out.2.2
            dsimp only [FA]
            refine wantd (by rfl) ?_
            go_simp
            exact hK.out
          · exact V1 8 7
          · exact V1 9 8
          · exact V2 10 8 9
          · exact V2 11 8 10
          · refine V2 12 8 11 (h := fun LL gg z wx hl hLk eg e11 K hK => ?_)
            obtain ⟨hb⟩ := hl
            have q_ : wx.cell? ⟨gm, 0, none⟩ = some (.slice (some ad) n cv) := (blk_cell (blk_below HG.out hb.out) 0).trans rfl
            dsimp only [FA]
            refine wantd (by rw [eg]; rfl) ?_
            go_simp
            exact hK.out
          · exact V1 13 8
          · refine V3 14 8 12 13 (h := fun LL gg z wx hl hLk eg e12 e13 K hK => ?_)
            obtain ⟨hb⟩ := hl
            have t1 := HLT.out.1
            have t2 := HLT.out.2.1
            have t3 := HLT.out.2.2
            dsimp only [FA]
            refine wantd (by rw [eg]; rfl) ?_
            go_simp
            exact hK.out
          · exact V2 15 8 14
          · exact V2 16 8 15
          · refine V2 17 8 16 (h := fun LL gg z wx hl hLk eg e16 K hK => ?_)
            obtain ⟨hb⟩ := hl
            have q_ := cell_keep hb.out HF.out
            dsimp only [FA]
            refine wantd (by rw [eg]; rfl) ?_
            go_simp
            exact hK.out
          · exact V1 18 8
          · refine G3 19 8 17 18 (h := fun LL gg z wx hl hLk eg e17 e18 K hK => ?_)
            rcases HQ.out with ⟨t1, t2, rfl⟩ | ⟨t1, t2, rfl⟩ <;> first | exact unwanted (by dsimp only [FA]; rw [eg]; rfl) (hK z rfl).out | (dsimp only [FA]; refine wantd (by rw [eg]; rfl) ?_; go_simp; exact (hK _ (sm3 eg e17 e18)).out)
          · exact V2 20 8 19
          · exact V1 21 0
          · exact V1 22 20
        · intro LL gg z wc hall hI hl
          obtain ⟨hb⟩ := hl
          have e21 := hI.at 21 rfl (hall 21 (by decide))
          have e22 := hI.at 22 rfl (hall 22 (by decide))
          dsimp only [FA] at ⊢
          rw [e21, e22]
          have HBC := hb
          clear hI hb e21 e22 hall
          go_wp2_with fail
          refine bodyPost_ret (results_tmp2 rfl _ _ _) rfl ?_
          exact ⟨by rw [HKT.out, HOK.out]; rfl, below_step HB.out HBC.out⟩
    · have r1 := eq_false hlt
      have r2 : (k < n) = False := eq_false (by omega)
      have hkn : k = n := by have := HK.out.1; omega
      have HKT : Aside0 (kT T c = k) := ⟨kT_eq (by have := HN.out; have := HK.out.1; omega) HK.out.2 (fun h => absurd h (by have := HN.out; omega))⟩
      have HOK : Aside0 (okT T c = false) := ⟨by unfold okT; rw [HKT.out]; exact decide_eq_false (fun h => by have := h.1; have := HN.out; omega)⟩
      have HLT : Aside0 (True ∧ ((k : Int) < (n : Int)) = False ∧ (k < n) = False) := ⟨⟨trivial, r1, r2⟩⟩
      clear hlt hkn
      go_wp2_with fail
      refine wp_reg 23 rfl rfl (by kernel_rfl) (fun z => .pointer (some ⟨gm, 0, none⟩) :: .int .i64 c :: undef :: undef :: z 4 :: z 5 :: .int .i64 (k : Int) :: .int .i64 (k : Int) :: .pointer (some ⟨gm, 0, none⟩) :: .pointer (some ⟨gm, 0, none⟩) :: .pointer (some ⟨gm, 0, none⟩) :: .slice A n cv :: .int .i64 (n : Int) :: .bool false :: .bool false :: undef :: undef :: undef :: undef :: undef :: undef :: undef :: undef :: undef :: undef :: undef :: .bool false :: u27 :: u28 :: z 29 :: z 30 :: z 31 :: z 32 :: z 33 :: z 34 :: z 35 :: z 36 :: z 37 :: z 38 :: z 39 :: z 40 :: z 41 :: z 42 :: z 43 :: z 44 :: z 45 :: z 46 :: z 47 :: z 48 :: z 49 :: []) (fun (gg : Unit) => [(0, 29, .int .i64 (k : Int)), (1, 30, .int .i64 (k : Int)), (2, 31, .pointer (some ⟨gm, 0, none⟩)), (3, 32, .pointer (some ⟨gm, 0, none⟩)), (4, 33, .pointer (some ⟨gm, 0, none⟩)), (5, 34, .slice A n cv), (6, 35, .int .i64 (n : Int)), (7, 36, .bool false), (8, 37, .bool false), (9, 38, undef), (10, 39, undef), (11, 40, undef), (12, 41, undef), (13, 42, undef), (14, 43, undef), (15, 44, undef), (16, 45, undef), (17, 46, undef), (18, 47, undef), (19, 48, undef), (20, 49, .bool false), (21, 4, .int .i64 (k : Int)), (22, 5, .bool false)]) (fun LL gg z wx => Aside0 (Below wr.heap.size wr wx)) () (zz [(4, .int .i64 0), (5, .bool false), (29, undef), (30, undef), (31, undef), (32, undef), (33, undef), (34, undef), (35, undef), (36, undef), (37, undef), (38, undef), (39, undef), (40, undef), (41, undef), (42, undef), (43, undef), (44, undef), (45, undef), (46, undef), (47, undef), (48, undef), (49, undef)]) rfl rfl ⟨below_drew (Below.refl _ _)⟩ ?_ ?_
      · refine Steps.cons ?_ (Steps.cons ?_ (Steps.cons ?_ (Steps.cons ?_ (Steps.cons ?_ (Steps.cons ?_ (Steps.cons ?_ (Steps.cons ?_ (Steps.cons ?_ (Steps.cons ?_ (Steps.cons ?_ (Steps.cons ?_ (Steps.cons ?_ (Steps.cons ?_ (Steps.cons ?_ (Steps.cons ?_ (Steps.cons ?_ (Steps.cons ?_ (Steps.cons ?_ (Steps.cons ?_ (Steps.cons ?_ (Steps.cons ?_ (Steps.cons ?_ (Steps.nil)))))))))))))))))))))))
        · exact V0 0
        · exact V0 1
        · exact V0 2
        · exact V1 3 2
        · exact V1 4 3
        · refine V1 5 4 (h := fun LL gg z wx hl hLk e4 K hK => ?_)
          obtain ⟨hb⟩ := hl
          have q_ : wx.cell? ⟨gm, 0, none⟩ = some (.slice A n cv) := (blk_cell (blk_below HG.out hb.out) 0).trans rfl
          dsimp only [FA]
          refine wantd (by rfl) ?_
          go_simp
          exact hK.out
        · exact V1 6 5
        · refine V2 7 1 6 (h := fun LL gg z wx hl hLk e1 e6 K hK => ?_)
          obtain ⟨hb⟩ := hl
          have t1 := HLT.out.2.1
          have t2 := HLT.out.2.2
          dsimp only [FA]
          refine wantd (by rfl) ?_
          go_simp
          exact hK.out
        · exact V1 8 7
        · exact U1 9 8
        · exact U1 10 8
        · exact U1 11 8
        · exact U1 12 8
        · exact U1 13 8
        · exact U1 14 8
        · exact U1 15 8
        · exact U1 16 8
        · exact U1 17 8
        · exact U1 18 8
        · exact U1 19 8
        · exact V1 20 8
        · exact V1 21 0
        · exact V1 22 20
      · intro LL gg z wc hall hI hl
        obtain ⟨hb⟩ := hl
        have e21 := hI.at 21 rfl (hall 21 (by decide))
        have e22 := hI.at 22 rfl (hall 22 (by decide))
        dsimp only [FA] at ⊢
        rw [e21, e22]
        have HBC := hb
        clear hI hb e21 e22 hall
        go_wp2_with fail
        refine bodyPost_ret (results_tmp2 rfl _ _ _) rfl ?_
        exact ⟨by rw [HKT.out, HOK.out]; rfl, below_step HB.out HBC.out⟩
theorem st9 {w : World} {g o : Nat} {c : List Value} (hcl : c.length = 9) (hcc : ∀ j u, c[j]? = some u → w.cell? ⟨g, o + j, none⟩ = some u) (hcf : ∀ j, w.frozen? ⟨g, o + j, none⟩ = false) (v0 v1 v2 v3 v4 v5 v6 v7 v8 : Value) :
    w.cell? ⟨g, o, none⟩ = some (c.getD 0 undef) ∧ w.frozen? ⟨g, o, none⟩ = false ∧ (w.setCell ⟨g, o, none⟩ v0).cell? ⟨g, o + 1, none⟩ = some (c.getD 1 undef) ∧ (w.setCell ⟨g, o, none⟩ v0).frozen? ⟨g, o + 1, none⟩ = false ∧ ((w.setCell ⟨g, o, none⟩ v0).setCell ⟨g, o + 1, none⟩ v1).cell? ⟨g, o + 2, none⟩ = some (c.getD 2 undef) ∧ ((w.setCell ⟨g, o, none⟩ v0).setCell ⟨g, o + 1, none⟩ v1).frozen? ⟨g, o + 2, none⟩ = false ∧ (((w.setCell ⟨g, o, none⟩ v0).setCell ⟨g, o + 1, none⟩ v1).setCell ⟨g, o + 2, none⟩ v2).cell? ⟨g, o + 3, none⟩ = some (c.getD 3 undef) ∧ (((w.setCell ⟨g, o, none⟩ v0).setCell ⟨g, o + 1, none⟩ v1).setCell ⟨g, o + 2, none⟩ v2).frozen? ⟨g, o + 3, none⟩ = false ∧ ((((w.setCell ⟨g, o, none⟩ v0).setCell ⟨g, o + 1, none⟩ v1).setCell ⟨g, o + 2, none⟩ v2).setCell ⟨g, o + 3, none⟩ v3).cell? ⟨g, o + 4, none⟩ = some (c.getD 4 undef) ∧ ((((w.setCell ⟨g, o, none⟩ v0).setCell ⟨g, o + 1, none⟩ v1).setCell ⟨g, o + 2, none⟩ v2).setCell ⟨g, o + 3, none⟩ v3).frozen? ⟨g, o + 4, none⟩ = false ∧ (((((w.setCell ⟨g, o, none⟩ v0).setCell ⟨g, o + 1, none⟩ v1).setCell ⟨g, o + 2, none⟩ v2).setCell ⟨g, o + 3, none⟩ v3).setCell ⟨g, o + 4, none⟩ v4).cell? ⟨g, o + 5, none⟩ = some (c.getD 5 undef) ∧ (((((w.setCell ⟨g, o, none⟩ v0).setCell ⟨g, o + 1, none⟩ v1).setCell ⟨g, o + 2, none⟩ v2).setCell ⟨g, o + 3, none⟩ v3).setCell ⟨g, o + 4, none⟩ v4).frozen? ⟨g, o + 5, none⟩ = false ∧ ((((((w.setCell ⟨g, o, none⟩ v0).setCell ⟨g, o + 1, none⟩ v1).setCell ⟨g, o + 2, none⟩ v2).setCell ⟨g, o + 3, none⟩ v3).setCell ⟨g, o + 4, none⟩ v4).setCell ⟨g, o + 5, none⟩ v5).cell? ⟨g, o + 6, none⟩ = some (c.getD 6 undef) ∧ ((((((w.setCell ⟨g, o, none⟩ v0).setCell ⟨g, o + 1, none⟩ v1).setCell ⟨g, o + 2, none⟩ v2).setCell ⟨g, o + 3, none⟩ v3).setCell ⟨g, o + 4, none⟩ v4).setCell ⟨g, o + 5, none⟩ v5).frozen? ⟨g, o + 6, none⟩ = false ∧ (((((((w.setCell ⟨g, o, none⟩ v0).setCell ⟨g, o + 1, none⟩ v1).setCell ⟨g, o + 2, none⟩ v2).setCell ⟨g, o + 3, none⟩ v3).setCell ⟨g, o + 4, none⟩ v4).setCell ⟨g, o + 5, none⟩ v5).setCell ⟨g, o + 6, none⟩ v6).cell? ⟨g, o + 7, none⟩ = some (c.getD 7 undef) ∧ (((((((w.setCell ⟨g, o, none⟩ v0).setCell ⟨g, o + 1, none⟩ v1).setCell ⟨g, o + 2, none⟩ v2).setCell ⟨g, o + 3, none⟩ v3).setCell ⟨g, o + 4, none⟩ v4).setCell ⟨g, o + 5, none⟩ v5).setCell ⟨g, o + 6, none⟩ v6).frozen? ⟨g, o + 7, none⟩ = false ∧ ((((((((w.setCell ⟨g, o, none⟩ v0).setCell ⟨g, o + 1, none⟩ v1).setCell ⟨g, o + 2, none⟩ v2).setCell ⟨g, o + 3, none⟩ v3).setCell ⟨g, o + 4, none⟩ v4).setCell ⟨g, o + 5, none⟩ v5).setCell ⟨g, o + 6, none⟩ v6).setCell ⟨g, o + 7, none⟩ v7).cell? ⟨g, o + 8, none⟩ = some (c.getD 8 undef) ∧ ((((((((w.setCell ⟨g, o, none⟩ v0).setCell ⟨g, o + 1, none⟩ v1).setCell ⟨g, o + 2, none⟩ v2).setCell ⟨g, o + 3, none⟩ v3).setCell ⟨g, o + 4, none⟩ v4).setCell ⟨g, o + 5, none⟩ v5).setCell ⟨g, o + 6, none⟩ v6).setCell ⟨g, o + 7, none⟩ v7).frozen? ⟨g, o + 8, none⟩ = false := by
  have hc : ∀ j, j < 9 → w.cell? ⟨g, o + j, none⟩ = some (c.getD j undef) := fun j hj => hcc j _ (by rw [List.getD_eq_getElem?_getD, List.getElem?_eq_getElem (by omega)]; rfl)
  have hne : ∀ a b : Nat, a ≠ b → (⟨g, a, none⟩ : Addr) ≠ ⟨g, b, none⟩ := fun a b h e => h (by injection e)
  exact ⟨by exact hc 0 (by omega), by exact hcf 0, by rw [World.cell?_setCell_other (h := hne _ _ (by omega))]; exact hc 1 (by omega), by simp only [World.frozen?_setCell]; exact hcf 1, by rw [World.cell?_setCell_other (h := hne _ _ (by omega))]; rw [World.cell?_setCell_other (h := hne _ _ (by omega))]; exact hc 2 (by omega), by simp only [World.frozen?_setCell]; exact hcf 2, by rw [World.cell?_setCell_other (h := hne _ _ (by omega))]; rw [World.cell?_setCell_other (h := hne _ _ (by omega))]; rw [World.cell?_setCell_other (h := hne _ _ (by omega))]; exact hc 3 (by omega), by simp only [World.frozen?_setCell]; exact hcf 3, by rw [World.cell?_setCell_other (h := hne _ _ (by omega))]; rw [World.cell?_setCell_other (h := hne _ _ (by omega))]; rw [World.cell?_setCell_other (h := hne _ _ (by omega))]; rw [World.cell?_setCell_other (h := hne _ _ (by omega))]; exact hc 4 (by omega), by simp only [World.frozen?_setCell]; exact hcf 4, by rw [World.cell?_setCell_other (h := hne _ _ (by omega))]; rw [World.cell?_setCell_other (h := hne _ _ (by omega))]; rw [World.cell?_setCell_other (h := hne _ _ (by omega))]; rw [World.cell?_setCell_other (h := hne _ _ (by omega))]; rw [World.cell?_setCell_other (h := hne _ _ (by omega))]; exact hc 5 (by omega), by simp only [World.frozen?_setCell]; exact hcf 5, by rw [World.cell?_setCell_other (h := hne _ _ (by omega))]; rw [World.cell?_setCell_other (h := hne _ _ (by omega))]; rw [World.cell?_setCell_other (h := hne _ _ (by omega))]; rw [World.cell?_setCell_other (h := hne _ _ (by omega))]; rw [World.cell?_setCell_other (h := hne _ _ (by omega))]; rw [World.cell?_setCell_other (h := hne _ _ (by omega))]; exact hc 6 (by omega), by simp only [World.frozen?_setCell]; exact hcf 6, by rw [World.cell?_setCell_other (h := hne _ _ (by omega))]; rw [World.cell?_setCell_other (h := hne _ _ (by omega))]; rw [World.cell?_setCell_other (h := hne _ _ (by omega))]; rw [World.cell?_setCell_other (h := hne _ _ (by omega))]; rw [World.cell?_setCell_other (h := hne _ _ (by omega))]; rw [World.cell?_setCell_other (h := hne _ _ (by omega))]; rw [World.cell?_setCell_other (h := hne _ _ (by omega))]; exact hc 7 (by omega), by simp only [World.frozen?_setCell]; exact hcf 7, by rw [World.cell?_setCell_other (h := hne _ _ (by omega))]; rw [World.cell?_setCell_other (h := hne _ _ (by omega))]; rw [World.cell?_setCell_other (h := hne _ _ (by omega))]; rw [World.cell?_setCell_other (h := hne _ _ (by omega))]; rw [World.cell?_setCell_other (h := hne _ _ (by omega))]; rw [World.cell?_setCell_other (h := hne _ _ (by omega))]; rw [World.cell?_setCell_other (h := hne _ _ (by omega))]; rw [World.cell?_setCell_other (h := hne _ _ (by omega))]; exact hc 8 (by omega), by simp only [World.frozen?_setCell]; exact hcf 8⟩
theorem row9 {w w0 : World} {g : Nat} {x : S33} {A : Option Addr} {c : Nat} (h : w.heap[g]? = some (.cells #[.int .i64 x.f1, .int .i64 x.f0, .int .i64 x.f1, .int .i64 x.f2, .bool x.f3, .string x.f4, .slice A x.f5.length c, .string x.f6, .bool x.f7] 47 (0, 0))) (hK : k47.K w0 (mkM x) [.int .i64 x.f1, .int .i64 x.f0, .int .i64 x.f1, .int .i64 x.f2, .bool x.f3, .string x.f4, .slice A x.f5.length c, .string x.f6, .bool x.f7]) : (kW w0).C w (some ⟨g, 0, none⟩) 1 [x] := by
  refine ⟨rfl, by decide, fun _ => ⟨⟨g, 0, none⟩, rfl, fun j p hj => ?_⟩⟩
  rcases j with _ | j
  · simp only [List.getElem?_cons_zero, Option.some.injEq] at hj
    subst hj
    refine ⟨_, rfl, hK, fun i u hu => ?_⟩
    have hi : i < 9 := by have := (List.getElem?_eq_some_iff.1 hu).1; simpa using this
    have e : (⟨g, 0, none⟩ : Addr).add (0 * 9 + i) = ⟨g, i, none⟩ := by
      unfold Addr.add
      split
      · rename_i h0; simp at h0; subst h0; rfl
      · simp
    show w.cell? ((⟨g, 0, none⟩ : Addr).add (0 * 9 + i)) = some u
    rw [e, blk_cell h i]
    rw [← hu]
    simp
  · simp at hj
/-- .. with the row's value told. -/
def Mtv (w w0 : World) (base gm : Nat) (v : Value) (T : List S33) : Prop := w.heap[gm]? = some (.cells #[v] 46 (0, 0)) ∧ base ≤ gm ∧ (kW w0).R 47 w base (fun k => some k = v.ownBlock) v T
theorem Mtv.mt {w w0 : World} {base gm : Nat} {v : Value} {T : List S33} (h : Mtv w w0 base gm v T) : Mt w w0 base gm T := ⟨v, h⟩
theorem Mtv.below {w w1 w0 : World} {base gm : Nat} {v : Value} {T : List S33} (h : Mtv w w0 base gm v T) (hb : Below w.heap.size w w1) : Mtv w1 w0 base gm v T := ⟨blk_below h.1 hb, h.2.1, Kd.R_below h.2.2 hb⟩
theorem kT_at {T : List S33} {c : Int} (ho : okT T c = true) : ∃ h : kT T c < T.length, T[kT T c].f0 = c := by
  have h := of_decide_eq_true ho
  refine ⟨h.1, ?_⟩
  have := h.2
  rwa [List.getD_eq_getElem?_getD, List.getElem?_eq_getElem h.1] at this
theorem kT_le (T : List S33) (c : Int) : kT T c ≤ T.length := by
  unfold kT
  exact (List.takeWhile_sublist _).length_le
theorem put_old : ∀ {T : List S33} {x : S33}, RisT T → okT T x.f0 = true → putT x T = T.set (kT T x.f0) x
  | [], x, _, h => by have := (kT_at h).1; simp at this
  | y :: T, x, hr, h => by
    have hr' := List.pairwise_cons.1 hr
    by_cases hy : y.f0 < x.f0
    · have hk : kT (y :: T) x.f0 = kT T x.f0 + 1 := by unfold kT; rw [List.takeWhile_cons, if_pos (by simpa using hy)]; rfl
      have ho : okT T x.f0 = true := by
        have h2 := of_decide_eq_true h
        rw [hk] at h2
        exact decide_eq_true ⟨by simpa using h2.1, by simpa using h2.2⟩
      have ih := put_old hr'.2 ho
      rw [hk, List.set_cons_succ, ← ih]
      unfold putT
      rw [List.filter_cons, if_pos (by simp; omega), insT, if_neg (by omega)]
    · have hk : kT (y :: T) x.f0 = 0 := by unfold kT; rw [List.takeWhile_cons, if_neg (by simpa using hy)]; rfl
      have he : y.f0 = x.f0 := by
        have h2 := (of_decide_eq_true h).2
        rw [hk] at h2
        simpa using h2
      rw [hk, List.set_cons_zero]
      unfold putT
      rw [List.filter_cons, if_neg (by simpa using he)]
      have hf : T.filter (fun z => !decide (z.f0 = x.f0)) = T := List.filter_eq_self.2 (fun z hz => by have := hr'.1 z hz; simp; omega)
      rw [hf]
      cases T with
      | nil => rfl
      | cons z T => rw [insT, if_pos (by have := hr'.1 z (by simp); omega)]
theorem put_new : ∀ {T : List S33} {x : S33}, RisT T → okT T x.f0 = false → putT x T = T.take (kT T x.f0) ++ [x] ++ T.drop (kT T x.f0)
  | [], x, _, _ => rfl
  | y :: T, x, hr, h => by
    have hr' := List.pairwise_cons.1 hr
    by_cases hy : y.f0 < x.f0
    · have hk : kT (y :: T) x.f0 = kT T x.f0 + 1 := by unfold kT; rw [List.takeWhile_cons, if_pos (by simpa using hy)]; rfl
      have ho : okT T x.f0 = false := by
        have h2 := of_decide_eq_false h
        rw [hk] at h2
        exact decide_eq_false (fun h3 => h2 ⟨by simpa using h3.1, by simpa using h3.2⟩)
      have ih := put_new hr'.2 ho
      rw [hk, List.take_succ_cons, List.drop_succ_cons, List.cons_append, List.cons_append, ← ih]
      unfold putT
      rw [List.filter_cons, if_pos (by simp; omega), insT, if_neg (by omega)]
    · have hk : kT (y :: T) x.f0 = 0 := by unfold kT; rw [List.takeWhile_cons, if_neg (by simpa using hy)]; rfl
      have hne : y.f0 ≠ x.f0 := by
        have h2 := of_decide_eq_false h
        rw [hk] at h2
        intro he
        exact h2 ⟨by simp, by simpa using he⟩
      rw [hk, List.take_zero, List.drop_zero]
      have hf : (y :: T).filter (fun z => !decide (z.f0 = x.f0)) = y :: T := List.filter_eq_self.2 (fun z hz => by
        rcases List.mem_cons.1 hz with rfl | hz
        · simpa using hne
        · have := hr'.1 z hz; simp; omega)
      unfold putT
      rw [hf, insT, if_pos (by omega)]; rfl
theorem seq_ok {T : List S33} {c : Int} (hr : RisT T) (ho : okT T c = true) : seqT T c = (T[kT T c]'(kT_at ho).1).f1 := by
  obtain ⟨h1, h2⟩ := kT_at ho
  unfold seqT
  have h3 := lkT_at hr h1
  rw [h2] at h3
  rw [h3]
theorem seq_no : ∀ {T : List S33} {c : Int}, RisT T → okT T c = false → seqT T c = -1
  | [], c, _, _ => rfl
  | y :: T, c, hr, h => by
    have hr' := List.pairwise_cons.1 hr
    by_cases hy : y.f0 < c
    · have hk : kT (y :: T) c = kT T c + 1 := by unfold kT; rw [List.takeWhile_cons, if_pos (by simpa using hy)]; rfl
      have ho : okT T c = false := by
        have h2 := of_decide_eq_false h
        rw [hk] at h2
        exact decide_eq_false (fun h3 => h2 ⟨by simpa using h3.1, by simpa using h3.2⟩)
      have ih := seq_no hr'.2 ho
      unfold seqT lkT at ih ⊢
      rw [List.find?_cons, decide_eq_false (by omega)]
      exact ih
    · have hk : kT (y :: T) c = 0 := by unfold kT; rw [List.takeWhile_cons, if_neg (by simpa using hy)]; rfl
      have hne : y.f0 ≠ c := by
        have h2 := of_decide_eq_false h
        rw [hk] at h2
        intro he
        exact h2 ⟨by simp, by simpa using he⟩
      unfold seqT lkT
      have hf : (y :: T).find? (fun x => decide (x.f0 = c)) = none := List.find?_eq_none.2 (fun z hz => by
        rcases List.mem_cons.1 hz with rfl | hz
        · simpa using hne
        · have := hr'.1 z hz; simp; omega)
      rw [hf]
set_option maxHeartbeats 4000000 in
set_option maxRecDepth 100000 in
theorem note12 (w0 : World) (base gm : Nat) (v : Value) (T : List S33) (x : S33) (A : Option Addr) (c : Nat) (w : World) (h : Mtv w w0 base gm v T) (hC : k71.C w0 A x.f5.length x.f5) (hc : x.f5.length ≤ c) (hr : RisT T) (hT : T.length ≤ 1000000) (hq : ∀ y ∈ T, 0 ≤ y.f1) :
    Calls Try.prog 12 #[.pointer (some ⟨gm, 0, none⟩), repV x (.slice A x.f5.length c)] w fun e w' => ∃ v', e = .returned (.bool (decide (seqT T x.f0 < x.f1))) ∧ Mtv w' w0 base gm v' (noteT T x) ∧ (v'.ownBlock = v.ownBlock ∨ ∃ k, v'.ownBlock = some k ∧ w.heap.size ≤ k) ∧ On (fun k => k = gm ∨ some k = v.ownBlock) w w' := by
  obtain ⟨W, hW⟩ : ∃ W, W = w.alloc (.cells #[.int .i64 x.f0, .int .i64 x.f1, .int .i64 x.f2, .bool x.f3, .string x.f4, .slice A x.f5.length c, .string x.f6, .bool x.f7] 33) := ⟨_, rfl⟩
  have hB : Below w.heap.size w W := by rw [hW]; exact below_alloc (Below.refl _ _) _
  have h3 : W.heap[w.heap.size]? = some (.cells #[.int .i64 x.f0, .int .i64 x.f1, .int .i64 x.f2, .bool x.f3, .string x.f4, .slice A x.f5.length c, .string x.f6, .bool x.f7] 33 (0, 0)) := by rw [hW]; exact blk_new w _
  have HK : Aside0 (k47.K w0 (mkM x) [.int .i64 x.f1, .int .i64 x.f0, .int .i64 x.f1, .int .i64 x.f2, .bool x.f3, .string x.f4, .slice A x.f5.length c, .string x.f6, .bool x.f7]) := ⟨k47_mk w0 (mkM x) hc hC⟩
  obtain ⟨g3, hg3⟩ : ∃ g3, g3 = w.heap.size := ⟨_, rfl⟩
  rw [← hg3] at h3
  obtain ⟨k, hk⟩ : ∃ k, k = kT T x.f0 := ⟨_, rfl⟩
  obtain ⟨o, ho⟩ : ∃ o, o = okT T x.f0 := ⟨_, rfl⟩
  have FAT := Aside0.mk (at23 w0 base gm T x.f0 W (h.below hB).mt hT)
  rw [← hk, ← ho] at FAT
  have HM := Aside0.mk h
  have HWB := Aside0.mk hB
  have H3W := Aside0.mk h3
  have HRT := Aside0.mk hr
  have HTL := Aside0.mk hT
  have HQT := Aside0.mk hq
  have HKD := Aside0.mk hk
  have HOD := Aside0.mk ho
  clear h hC hc hr hT hq hB h3 hk ho
  go_enter Try.func12, Try.ntmps12
  go_wp2_with fail
  rw [← hW, ← hg3]
  have q0 : W.cell? ⟨g3, 0, none⟩ = some (.int .i64 x.f0) := (blk_cell H3W.out 0).trans rfl
  clear hW hg3
  go_wp2_with fail
  refine FAT.out.mono ?_
  rintro e w1 ⟨rfl, hb⟩
  have H3 := Aside0.mk (blk_below H3W.out hb)
  have HB1 := Aside0.mk (below_step HWB.out hb)
  have HM1 := Aside0.mk (HM.out.below HB1.out)
  clear FAT hb q0 H3W HWB
  go_wp2_with fail
  by_cases hneg : x.f1 < 0
  · have HNEG : Aside0 ((x.f1 < 0) = True) := ⟨eq_true hneg⟩
    have HNL : Aside0 (¬ seqT T x.f0 < x.f1) := ⟨by
      cases ho : okT T x.f0 with
      | true => rw [seq_ok HRT.out ho]; have := HQT.out _ (List.getElem_mem (kT_at ho).1); omega
      | false => rw [seq_no HRT.out ho]; omega⟩
    have HNT : Aside0 (noteT T x = T) := ⟨by unfold noteT; rw [if_neg HNL.out]⟩
    clear hneg
    refine wp_reg 19 rfl rfl (by kernel_rfl) (fun z => .pointer (some ⟨gm, 0, none⟩) :: repV x (.slice A x.f5.length c) :: undef :: .pointer (some ⟨g3, 0, none⟩) :: .bool false :: .int .i64 (k : Int) :: .bool o :: undef :: .tuple #[.int .i64 (k : Int), .bool o] :: .pointer (some ⟨gm, 0, none⟩) :: .pointer (some ⟨g3, 0, none⟩) :: .int .i64 x.f0 :: .tuple #[.int .i64 (k : Int), .bool o] :: .int .i64 (k : Int) :: .bool o :: z 15 :: z 16 :: z 17 :: z 18 :: z 19 :: z 20 :: z 21 :: z 22 :: z 23 :: z 24 :: z 25 :: z 26 :: z 27 :: z 28 :: z 29 :: z 30 :: z 31 :: z 32 :: z 33 :: undef :: undef :: undef :: undef :: undef :: undef :: undef :: undef :: undef :: undef :: undef :: undef :: undef :: undef :: undef :: undef :: undef :: undef :: undef :: undef :: undef :: undef :: undef :: undef :: undef :: undef :: undef :: undef :: undef :: undef :: undef :: undef :: []) (fun (gg : Unit) => [(0, 15, .pointer (some ⟨g3, 1, none⟩)), (1, 16, .int .i64 x.f1), (2, 17, .bool true), (3, 18, .bool true), (4, 19, undef), (5, 20, undef), (6, 21, undef), (7, 22, undef), (8, 23, undef), (9, 24, undef), (10, 25, undef), (11, 26, undef), (12, 27, undef), (13, 28, undef), (14, 29, undef), (15, 30, undef), (16, 31, undef), (17, 32, undef), (18, 33, .bool true)]) (fun LL gg z wx => Aside0 (Below w1.heap.size w1 wx)) () (zz [(15, undef), (16, undef), (17, undef), (18, undef), (19, undef), (20, undef), (21, undef), (22, undef), (23, undef), (24, undef), (25, undef), (26, undef), (27, undef), (28, undef), (29, undef), (30, undef), (31, undef), (32, undef), (33, undef)]) rfl rfl ⟨below_drew (Below.refl _ _)⟩ ?_ ?_
    · refine Steps.cons ?_ (Steps.cons ?_ (Steps.cons ?_ (Steps.cons ?_ (Steps.cons ?_ (Steps.cons ?_ (Steps.cons ?_ (Steps.cons ?_ (Steps.cons ?_ (Steps.cons ?_ (Steps.cons ?_ (Steps.cons ?_ (Steps.cons ?_ (Steps.cons ?_ (Steps.cons ?_ (Steps.cons ?_ (Steps.cons ?_ (Steps.cons ?_ (Steps.cons ?_ (Steps.nil)))))))))))))))))))
      · exact V0 0
      · refine V1 1 0 (h := fun LL gg z wx hl hLk e0 K hK => ?_)
        obtain ⟨hb⟩ := hl
        have q_ : wx.cell? ⟨g3, 1, none⟩ = some (.int .i64 x.f1) := (blk_cell (blk_below H3.out hb.out) 1).trans rfl
        dsimp only [FA]
        refine wantd (by rfl) ?_
        go_simp
        exact hK.out
      · refine V1 2 1 (h := fun LL gg z wx hl hLk e1 K hK => ?_)
        obtain ⟨hb⟩ := hl
        have t1 := HNEG.out
        dsimp only [FA]
        refine wantd (by rfl) ?_
        go_simp
        exact hK.out
      · exact V1 3 2
      · exact U1 4 3
      · exact U1 5 3
      · exact U1 6 5
      · exact U1 7 5
      · exact U1 8 5
      · exact U1 9 5
      · exact U1 10 5
      · exact U1 11 5
      · exact U1 12 5
      · exact U1 13 5
      · exact U1 14 5
      · exact U1 15 5
      · exact U1 16 5
      · exact U1 17 3
      · exact V1 18 3
    · intro LL gg z wc hall hI hl
      obtain ⟨hb⟩ := hl
      have e18 := hI.at 18 rfl (hall 18 (by decide))
      dsimp only [FA] at ⊢
      rw [e18]
      have HBC := hb
      clear hI hb e18 hall
      go_wp2_with fail
      go_ret
      refine ⟨?_, _, by rw [HNT.out]; exact HM1.out.below HBC.out, .inl rfl, On.of_below (below_step HB1.out HBC.out)⟩; first | rfl | (rw [show decide (seqT T x.f0 < x.f1) = false from decide_eq_false (by have := HNL.out; omega)]; rfl) | (have := HNL.out; simp; omega)
  · have HNEG : Aside0 ((x.f1 < 0) = False) := ⟨eq_false hneg⟩
    clear hneg
    obtain ⟨A0, cv, hv⟩ := Kd.R_slice HM1.out.2.2
    obtain ⟨n, hn⟩ : ∃ n, n = T.length := ⟨_, rfl⟩
    rw [← hn] at hv
    subst hv
    have HN := Aside0.mk hn
    clear hn
    cases o with
    | true =>
      have hkt := kT_at HOD.out.symm
      rw [← HKD.out] at hkt
      obtain ⟨hkl, hke⟩ := hkt
      obtain ⟨ad, e, y0, y1⟩ := at_M HM1.out.2.2 k hkl
      cases e
      obtain ⟨s, hs⟩ : ∃ s, s = T[k].f1 := ⟨_, rfl⟩
      rw [← hs] at y0
      have HF := Aside0.mk y0
      have HSD : Aside0 (seqT T x.f0 = s) := ⟨by rw [seq_ok HRT.out HOD.out.symm, hs]; congr 2; exact HKD.out.symm⟩
      have HPUT : Aside0 (putT x T = T.set k x) := ⟨by rw [put_old HRT.out HOD.out.symm, ← HKD.out]⟩
      have HG := Aside0.mk HM1.out.1
      have HLT : Aside0 (((0 : Int) ≤ (k : Int)) = True ∧ ((k : Int) < (n : Int)) = True ∧ (k < n) = True) := ⟨⟨eq_true (by omega), eq_true (by have := HN.out; omega), eq_true (by have := HN.out; omega)⟩⟩
      obtain ⟨q, hq⟩ : ∃ q, q = decide (x.f1 ≤ s) := ⟨_, rfl⟩
      have HQ : Aside0 ((x.f1 ≤ s) = True ∧ True ∧ q = true ∨ (x.f1 ≤ s) = False ∧ True ∧ q = false) := ⟨by by_cases h : x.f1 ≤ s; exact .inl ⟨eq_true h, trivial, hq.trans (decide_eq_true h)⟩; exact .inr ⟨eq_false h, trivial, hq.trans (decide_eq_false h)⟩⟩
      clear hkl hke y0 y1 hs hq
      refine wp_reg 19 rfl rfl (by kernel_rfl) (fun z => .pointer (some ⟨gm, 0, none⟩) :: repV x (.slice A x.f5.length c) :: undef :: .pointer (some ⟨g3, 0, none⟩) :: .bool false :: .int .i64 (k : Int) :: .bool true :: undef :: .tuple #[.int .i64 (k : Int), .bool true] :: .pointer (some ⟨gm, 0, none⟩) :: .pointer (some ⟨g3, 0, none⟩) :: .int .i64 x.f0 :: .tuple #[.int .i64 (k : Int), .bool true] :: .int .i64 (k : Int) :: .bool true :: z 15 :: z 16 :: z 17 :: z 18 :: z 19 :: z 20 :: z 21 :: z 22 :: z 23 :: z 24 :: z 25 :: z 26 :: z 27 :: z 28 :: z 29 :: z 30 :: z 31 :: z 32 :: z 33 :: undef :: undef :: undef :: undef :: undef :: undef :: undef :: undef :: undef :: undef :: undef :: undef :: undef :: undef :: undef :: undef :: undef :: undef :: undef :: undef :: undef :: undef :: undef :: undef :: undef :: undef :: undef :: undef :: undef :: undef :: undef :: undef :: []) (fun (gg : Unit) => [(0, 15, .pointer (some ⟨g3, 1, none⟩)), (1, 16, .int .i64 x.f1), (2, 17, .bool false), (3, 18, .bool false), (4, 19, .bool true), (5, 20, .bool true), (6, 21, .pointer (some ⟨g3, 1, none⟩)), (7, 22, .int .i64 x.f1), (8, 23, .pointer (some ⟨gm, 0, none⟩)), (9, 24, .pointer (some ⟨gm, 0, none⟩)), (10, 25, .pointer (some ⟨gm, 0, none⟩)), (11, 26, .slice (some ad) n cv), (12, 27, .int .i64 (k : Int)), (13, 28, .pointer (some (ad.add (k * 9)))), (14, 29, .pointer (some (ad.add (k * 9)))), (15, 30, .int .i64 s), (16, 31, .bool q), (17, 32, .bool q), (18, 33, .bool q)]) (fun LL gg z wx => Aside0 (Below w1.heap.size w1 wx)) () (zz [(15, undef), (16, undef), (17, undef), (18, undef), (19, undef), (20, undef), (21, undef), (22, undef), (23, undef), (24, undef), (25, undef), (26, undef), (27, undef), (28, undef), (29, undef), (30, undef), (31, undef), (32, undef), (33, undef)]) rfl rfl ⟨below_drew (Below.refl _ _)⟩ ?_ ?_
      · refine Steps.cons ?_ (Steps.cons ?_ (Steps.cons ?_ (Steps.cons ?_ (Steps.cons ?_ (Steps.cons ?_ (Steps.cons ?_ (Steps.cons ?_ (Steps.cons ?_ (Steps.cons ?_ (Steps.cons ?_ (Steps.cons ?_ (Steps.cons ?_ (Steps.cons ?_ (Steps.cons ?_ (Steps.cons ?_ (Steps.cons ?_ (Steps.cons ?_ (Steps.cons ?_ (Steps.nil)))))))))))))))))))
        · exact V0 0
        · refine V1 1 0 (h := fun LL gg z wx hl hLk e0 K hK => ?_)
          obtain ⟨hb⟩ := hl
          have q_ : wx.cell? ⟨g3, 1, none⟩ = some (.int .i64 x.f1) := (blk_cell (blk_below H3.out hb.out) 1).trans rfl
          dsimp only [FA]
          refine wantd (by rfl) ?_
          go_simp
          exact hK.out
        · refine V1 2 1 (h := fun LL gg z wx hl hLk e1 K hK => ?_)
          obtain ⟨hb⟩ := hl
          have t1 := HNEG.out
          dsimp only [FA]
          refine wantd (by rfl) ?_
          go_simp
          exact hK.out
        · exact V1 3 2
        · exact V1 4 3
        · exact V2 5 3 4
        · exact V1 6 5
        · refine V2 7 5 6 (h := fun LL gg z wx hl hLk eg e6 K hK => ?_)
          obtain ⟨hb⟩ := hl
          have q_ : wx.cell? ⟨g3, 1, none⟩ = some (.int .i64 x.f1) := (blk_cell (blk_below H3.out hb.out) 1).trans rfl
          dsimp only [FA]
          refine wantd (by rw [eg]; rfl) ?_
          go_simp
          exact hK.out
        · exact V1 8 5
        · exact V2 9 5 8
        · exact V2 10 5 9
        · refine V2 11 5 10 (h := fun LL gg z wx hl hLk eg e10 K hK => ?_)
          obtain ⟨hb⟩ := hl
          have q_ : wx.cell? ⟨gm, 0, none⟩ = some (.slice (some ad) n cv) := (blk_cell (blk_below HG.out hb.out) 0).trans rfl
          dsimp only [FA]
          refine wantd (by rw [eg]; rfl) ?_
          go_simp
          exact hK.out
        · exact V1 12 5
        · refine V3 13 5 11 12 (h := fun LL gg z wx hl hLk eg e11 e12 K hK => ?_)
          obtain ⟨hb⟩ := hl
          have t1 := HLT.out.1
          have t2 := HLT.out.2.1
          have t3 := HLT.out.2.2
          dsimp only [FA]
          refine wantd (by rw [eg]; rfl) ?_
          go_simp
          exact hK.out
        · exact V2 14 5 13
        · refine V2 15 5 14 (h := fun LL gg z wx hl hLk eg e14 K hK => ?_)
          obtain ⟨hb⟩ := hl
          have q_ := cell_keep hb.out HF.out
          dsimp only [FA]
          refine wantd (by rw [eg]; rfl) ?_
          go_simp
          exact hK.out
        · refine G3 16 5 7 15 (h := fun LL gg z wx hl hLk eg e7 e15 K hK => ?_)
          rcases HQ.out with ⟨t1, t2, rfl⟩ | ⟨t1, t2, rfl⟩ <;> first | exact unwanted (by dsimp only [FA]; rw [eg]; rfl) (hK z rfl).out | (dsimp only [FA]; refine wantd (by rw [eg]; rfl) ?_; go_simp; exact (hK _ (sm3 eg e7 e15)).out)
        · exact V3 17 3 5 16
        · exact V2 18 3 17
      · intro LL gg z wc hall hI hl
        obtain ⟨hb⟩ := hl
        have e18 := hI.at 18 rfl (hall 18 (by decide))
        dsimp only [FA] at ⊢
        rw [e18]
        have HBC := hb
        clear hI hb e18 hall
        cases q with
        | true =>
          have HNL : Aside0 (¬ seqT T x.f0 < x.f1) := ⟨by rw [HSD.out]; rcases HQ.out with h | h; have := of_eq_true h.1; omega; cases h.2.2⟩
          have HNT : Aside0 (noteT T x = T) := ⟨by unfold noteT; rw [if_neg HNL.out]⟩
          go_wp2_with fail
          go_ret
          refine ⟨?_, _, by rw [HNT.out]; exact HM1.out.below HBC.out, .inl rfl, On.of_below (below_step HB1.out HBC.out)⟩; first | rfl | (rw [show decide (seqT T x.f0 < x.f1) = false from decide_eq_false (by have := HNL.out; omega)]; rfl) | (have := HNL.out; simp; omega)
        | false =>
          have HNL : Aside0 (seqT T x.f0 < x.f1) := ⟨by rw [HSD.out]; rcases HQ.out with h | h; cases h.2.2; have := of_eq_false h.1; omega⟩
          have HNT : Aside0 (noteT T x = T.set k x) := ⟨by unfold noteT; rw [if_pos HNL.out, HPUT.out]⟩
          have HM2 := Aside0.mk (HM1.out.below HBC.out)
          have H3C := Aside0.mk (blk_below H3.out HBC.out)
          have HBC2 := Aside0.mk (below_step HB1.out HBC.out)
          clear H3 HBC HM1
          have d0 : wc.cell? ⟨g3, 0, none⟩ = some (.int .i64 x.f0) := (blk_cell H3C.out 0).trans rfl
          have d1 : wc.cell? ⟨g3, 1, none⟩ = some (.int .i64 x.f1) := (blk_cell H3C.out 1).trans rfl
          have d2 : wc.cell? ⟨g3, 2, none⟩ = some (.int .i64 x.f2) := (blk_cell H3C.out 2).trans rfl
          have d3 : wc.cell? ⟨g3, 3, none⟩ = some (.bool x.f3) := (blk_cell H3C.out 3).trans rfl
          have d4 : wc.cell? ⟨g3, 4, none⟩ = some (.string x.f4) := (blk_cell H3C.out 4).trans rfl
          have d5 : wc.cell? ⟨g3, 5, none⟩ = some (.slice A x.f5.length c) := (blk_cell H3C.out 5).trans rfl
          have d6 : wc.cell? ⟨g3, 6, none⟩ = some (.string x.f6) := (blk_cell H3C.out 6).trans rfl
          have d7 : wc.cell? ⟨g3, 7, none⟩ = some (.bool x.f7) := (blk_cell H3C.out 7).trans rfl
          go_wp2_with fail
          clear d0 d1 d2 d3 d4 d5 d6 d7
          obtain ⟨W2, hW2⟩ : ∃ W2, W2 = wc.alloc (.cells #[.int .i64 x.f1, .int .i64 x.f0, .int .i64 x.f1, .int .i64 x.f2, .bool x.f3, .string x.f4, .slice A x.f5.length c, .string x.f6, .bool x.f7] 47) := ⟨_, rfl⟩
          obtain ⟨g7, hg7⟩ : ∃ g7, g7 = wc.heap.size := ⟨_, rfl⟩
          have H7 : Aside0 (W2.heap[g7]? = some (.cells #[.int .i64 x.f1, .int .i64 x.f0, .int .i64 x.f1, .int .i64 x.f2, .bool x.f3, .string x.f4, .slice A x.f5.length c, .string x.f6, .bool x.f7] 47 (0, 0))) := ⟨by rw [hW2, hg7]; exact blk_new wc _⟩
          have HM3 : Aside0 (Mtv W2 w0 base gm _ T) := ⟨by rw [hW2]; exact HM2.out.below (below_alloc (Below.refl _ _) _)⟩
          have HB3 : Aside0 (Below w.heap.size w W2) := ⟨by rw [hW2]; exact below_alloc HBC2.out _⟩
          rw [← hW2, ← hg7]
          clear hW2 hg7 HM2 H3C HBC2
          obtain ⟨gv, hgv⟩ := Kd.R_head HM3.out.2.2
          subst hgv
          have hR3 := HM3.out.2.2
          have hgl := HM3.out.1
          obtain ⟨inner, hown⟩ := Kd.R_own hR3
          have hty := own_typed hown gv (by simp [Value.ownBlock])
          have HNE : Aside0 (gm ≠ gv) := ⟨by
            rintro rfl
            obtain ⟨cells, hc⟩ := hty
            rw [hgl] at hc
            injection hc with hc
            injection hc with _ h2 _
            cases h2⟩
          have HSET : Aside0 (∀ wx, Below W2.heap.size W2 wx → ∃ cs : List Value, cs.length = 9 ∧ (∀ j u, cs[j]? = some u → wx.cell? ⟨gv, k * 9 + j, none⟩ = some u) ∧ (∀ j, wx.frozen? ⟨gv, k * 9 + j, none⟩ = false) ∧ (kW w0).R 47 (wx.setCells gv (k * 9) [.int .i64 x.f1, .int .i64 x.f0, .int .i64 x.f1, .int .i64 x.f2, .bool x.f3, .string x.f4, .slice A x.f5.length c, .string x.f6, .bool x.f7]) base (fun k => some k = (Value.slice (some ⟨gv, 0, none⟩) n cv).ownBlock) (.slice (some ⟨gv, 0, none⟩) n cv) (T.set k x) ∧ On (· = gv) W2 (wx.setCells gv (k * 9) [.int .i64 x.f1, .int .i64 x.f0, .int .i64 x.f1, .int .i64 x.f2, .bool x.f3, .string x.f4, .slice A x.f5.length c, .string x.f6, .bool x.f7])) := ⟨fun wx hb => by
            have hR := Kd.R_below HM3.out.2.2 hb
            obtain ⟨cs, e1, _, e3, e4⟩ := Kd.R_elem hR z33 (k : Int) (by omega) (of_eq_true HLT.out.2.1)
            have h9 := Kd.R_seg (x' := x) (okp := fun _ => False) (seg := [.int .i64 x.f1, .int .i64 x.f0, .int .i64 x.f1, .int .i64 x.f2, .bool x.f3, .string x.f4, .slice A x.f5.length c, .string x.f6, .bool x.f7]) (j := 0) hR (k : Int) (by omega) (of_eq_true HLT.out.2.1) e1 e3 (show 0 + 9 ≤ 9 from Nat.le_refl 9) (by
              have e5 : cs.drop 9 = [] := List.drop_eq_nil_of_le (Nat.le_of_eq e1)
              show k47.K w0 (mkM x) _
              simp only [List.take_zero, List.nil_append, List.length_cons, List.length_nil, Nat.zero_add, Nat.reduceAdd, e5, List.append_nil]
              exact HK.out) (fun _ h => h.elim)
            exact ⟨cs, e1, e3, e4, h9.1, (On.of_below hb).trans ⟨h9.2.os, h9.2.tape, h9.2.output, h9.2.size, fun i hi hp => h9.2.block i hi (fun e => hp (Option.some.inj e))⟩⟩⟩
          clear hR3 hgl inner hown hty
          refine wp_reg 8 rfl rfl (by kernel_rfl) (fun y => .pointer (some ⟨gm, 0, none⟩) :: repV x (.slice A x.f5.length c) :: undef :: .pointer (some ⟨g3, 0, none⟩) :: .bool false :: .int .i64 (k : Int) :: .bool true :: .pointer (some ⟨g7, 0, none⟩) :: .tuple #[.int .i64 (k : Int), .bool true] :: .pointer (some ⟨gm, 0, none⟩) :: .pointer (some ⟨g3, 0, none⟩) :: .int .i64 x.f0 :: .tuple #[.int .i64 (k : Int), .bool true] :: .int .i64 (k : Int) :: .bool true :: z 15 :: z 16 :: z 17 :: z 18 :: z 19 :: z 20 :: z 21 :: z 22 :: z 23 :: z 24 :: z 25 :: z 26 :: z 27 :: z 28 :: z 29 :: z 30 :: z 31 :: z 32 :: .bool false :: .pointer (some ⟨g3, 1, none⟩) :: .int .i64 x.f1 :: .agg #[.int .i64 x.f0, .int .i64 x.f1, .int .i64 x.f2, .bool x.f3, .string x.f4, .slice A x.f5.length c, .string x.f6, .bool x.f7] :: .agg #[.int .i64 x.f1, .int .i64 x.f0, .int .i64 x.f1, .int .i64 x.f2, .bool x.f3, .string x.f4, .slice A x.f5.length c, .string x.f6, .bool x.f7] :: .bool true :: y 39 :: y 40 :: y 41 :: y 42 :: y 43 :: y 44 :: y 45 :: undef :: undef :: undef :: undef :: undef :: undef :: undef :: undef :: undef :: undef :: undef :: undef :: undef :: undef :: undef :: undef :: undef :: undef :: undef :: undef :: []) (fun (gg : Unit) => [(0, 39, .pointer (some ⟨gm, 0, none⟩)), (1, 40, .pointer (some ⟨gm, 0, none⟩)), (2, 41, .pointer (some ⟨gm, 0, none⟩)), (3, 42, .slice (some ⟨gv, 0, none⟩) n cv), (4, 43, .int .i64 (k : Int)), (5, 44, .agg #[.int .i64 x.f1, .int .i64 x.f0, .int .i64 x.f1, .int .i64 x.f2, .bool x.f3, .string x.f4, .slice A x.f5.length c, .string x.f6, .bool x.f7]), (6, 45, .pointer (some ⟨gv, k * 9, none⟩))]) (fun LL gg y wx => Aside0 (LL 7 = false → Below W2.heap.size W2 wx) ∧ Aside0 (LL 7 = true → LL 3 = true ∧ LL 5 = true) ∧ Aside0 (LL 7 = true → (kW w0).R 47 wx base (fun k => some k = (Value.slice (some ⟨gv, 0, none⟩) n cv).ownBlock) (.slice (some ⟨gv, 0, none⟩) n cv) (T.set k x) ∧ On (· = gv) W2 wx)) () (zz [(39, undef), (40, undef), (41, undef), (42, undef), (43, undef), (44, undef), (45, undef)]) rfl rfl ⟨⟨fun _ => below_drew (Below.refl _ _)⟩, ⟨fun h => absurd h (by decide)⟩, ⟨fun h => absurd h (by decide)⟩⟩ ?_ ?_
          · refine Steps.cons ?_ (Steps.cons ?_ (Steps.cons ?_ (Steps.cons ?_ (Steps.cons ?_ (Steps.cons ?_ (Steps.cons ?_ (Steps.cons ?_ (Steps.nil))))))))
            · exact V0 0
            · exact V1 1 0
            · exact V1 2 1
            · refine V1 3 2 (hT := fun _ => rfl) (hR := fun LL gg y wx hLk hd ⟨hb, hz, hw⟩ => ⟨hb, ⟨fun h => ⟨rfl, (hz.out h).2⟩⟩, hw⟩) (h := fun LL gg y wx hl hLk e2 K hK => ?_)
              obtain ⟨⟨hb, hz, hw⟩⟩ := hl
              have hl7 := flag_off (fun h => (hz.out h).1) hLk
              have q_ : wx.cell? ⟨gm, 0, none⟩ = some (.slice (some ⟨gv, 0, none⟩) n cv) := (blk_cell (blk_below HM3.out.1 (hb.out hl7)) 0).trans rfl
              dsimp only [FA]
              refine wantd (by rfl) ?_
              go_simp
              exact hK.out
            · exact V0 4
            · refine V0 5 (hT := fun _ => rfl) (hR := fun LL gg y wx hLk hd ⟨hb, hz, hw⟩ => ⟨hb, ⟨fun h => ⟨(hz.out h).1, rfl⟩⟩, hw⟩) (h := fun LL gg y wx hl hLk  K hK => ?_)
              obtain ⟨⟨hb, hz, hw⟩⟩ := hl
              have hl7 := flag_off (fun h => (hz.out h).2) hLk
              have q0_ : wx.cell? ⟨g7, 0, none⟩ = some (.int .i64 x.f1) := (blk_cell (blk_below H7.out (hb.out hl7)) 0).trans rfl
              have q1_ : wx.cell? ⟨g7, 1, none⟩ = some (.int .i64 x.f0) := (blk_cell (blk_below H7.out (hb.out hl7)) 1).trans rfl
              have q2_ : wx.cell? ⟨g7, 2, none⟩ = some (.int .i64 x.f1) := (blk_cell (blk_below H7.out (hb.out hl7)) 2).trans rfl
              have q3_ : wx.cell? ⟨g7, 3, none⟩ = some (.int .i64 x.f2) := (blk_cell (blk_below H7.out (hb.out hl7)) 3).trans rfl
              have q4_ : wx.cell? ⟨g7, 4, none⟩ = some (.bool x.f3) := (blk_cell (blk_below H7.out (hb.out hl7)) 4).trans rfl
              have q5_ : wx.cell? ⟨g7, 5, none⟩ = some (.string x.f4) := (blk_cell (blk_below H7.out (hb.out hl7)) 5).trans rfl
              have q6_ : wx.cell? ⟨g7, 6, none⟩ = some (.slice A x.f5.length c) := (blk_cell (blk_below H7.out (hb.out hl7)) 6).trans rfl
              have q7_ : wx.cell? ⟨g7, 7, none⟩ = some (.string x.f6) := (blk_cell (blk_below H7.out (hb.out hl7)) 7).trans rfl
              have q8_ : wx.cell? ⟨g7, 8, none⟩ = some (.bool x.f7) := (blk_cell (blk_below H7.out (hb.out hl7)) 8).trans rfl
              dsimp only [FA]
              refine wantd (by rfl) ?_
              go_simp
              exact hK.out
            · refine V2 6 3 4 (h := fun LL gg y wx hl hLk e3 e4 K hK => ?_)
              obtain ⟨⟨hb, hz, hw⟩⟩ := hl
              have t1 := HLT.out.1
              have t2 := HLT.out.2.1
              have t3 := HLT.out.2.2
              dsimp only [FA]
              refine wantd (by rfl) ?_
              go_simp
              exact hK.out
            · refine CS (fun _ => rfl) fun LL gg y wx hl hLk hd hI K hK => ?_
              obtain ⟨⟨hb, hz, hw⟩⟩ := hl
              have e6 := hI.at 6 rfl (hd 6 rfl)
              have e5 := hI.at 5 rfl (hd 5 rfl)
              have hbq := hb.out hLk
              obtain ⟨cs, hcl, hcc, hcf, hset⟩ := HSET.out wx hbq
              obtain ⟨s0_, f0_, s1_, f1_, s2_, f2_, s3_, f3_, s4_, f4_, s5_, f5_, s6_, f6_, s7_, f7_, s8_, f8_⟩ := st9 hcl hcc hcf (.int .i64 x.f1) (.int .i64 x.f0) (.int .i64 x.f1) (.int .i64 x.f2) (.bool x.f3) (.string x.f4) (.slice A x.f5.length c) (.string x.f6) (.bool x.f7)
              dsimp only [FA]
              refine wantd (by rfl) ?_
              go_simp
              exact hK _ _ (sm2 e6 e5) ⟨⟨fun h => by cases h⟩, ⟨fun _ => ⟨hd 3 rfl, hd 5 rfl⟩⟩, ⟨fun _ => hset⟩⟩
          · intro LL gg y wd hall hI hl
            obtain ⟨⟨hb, hz, hw⟩⟩ := hl
            dsimp only [FA] at ⊢
            have HW := Aside0.mk (hw.out (hall 7 (by decide)))
            clear hI hb hz hw hall
            go_wp2_with fail
            go_ret
            have hon : On (fun k => k = gm ∨ some k = (Value.slice (some ⟨gv, 0, none⟩) n cv).ownBlock) W2 wd := HW.out.2.mono (fun k hk => .inr (by rw [hk]; rfl))
            exact ⟨_, by rw [show decide (seqT T x.f0 < x.f1) = true from decide_eq_true (by have := HNL.out; omega)]; rfl, by rw [HNT.out]; exact ⟨HW.out.2.blk HM3.out.1 HNE.out, HM3.out.2.1, HW.out.1⟩, .inl rfl, (On.of_below HB3.out).trans hon⟩
    | false =>
      have HSD : Aside0 (seqT T x.f0 = -1) := ⟨seq_no HRT.out HOD.out.symm⟩
      have HPUT : Aside0 (putT x T = T.take k ++ [x] ++ T.drop k) := ⟨by rw [put_new HRT.out HOD.out.symm, ← HKD.out]⟩
      have HG := Aside0.mk HM1.out.1
      refine wp_reg 19 rfl rfl (by kernel_rfl) (fun z => .pointer (some ⟨gm, 0, none⟩) :: repV x (.slice A x.f5.length c) :: undef :: .pointer (some ⟨g3, 0, none⟩) :: .bool false :: .int .i64 (k : Int) :: .bool false :: undef :: .tuple #[.int .i64 (k : Int), .bool false] :: .pointer (some ⟨gm, 0, none⟩) :: .pointer (some ⟨g3, 0, none⟩) :: .int .i64 x.f0 :: .tuple #[.int .i64 (k : Int), .bool false] :: .int .i64 (k : Int) :: .bool false :: z 15 :: z 16 :: z 17 :: z 18 :: z 19 :: z 20 :: z 21 :: z 22 :: z 23 :: z 24 :: z 25 :: z 26 :: z 27 :: z 28 :: z 29 :: z 30 :: z 31 :: z 32 :: z 33 :: undef :: undef :: undef :: undef :: undef :: undef :: undef :: undef :: undef :: undef :: undef :: undef :: undef :: undef :: undef :: undef :: undef :: undef :: undef :: undef :: undef :: undef :: undef :: undef :: undef :: undef :: undef :: undef :: undef :: undef :: undef :: undef :: []) (fun (gg : Unit) => [(0, 15, .pointer (some ⟨g3, 1, none⟩)), (1, 16, .int .i64 x.f1), (2, 17, .bool false), (3, 18, .bool false), (4, 19, .bool false), (5, 20, .bool false), (6, 21, undef), (7, 22, undef), (8, 23, undef), (9, 24, undef), (10, 25, undef), (11, 26, undef), (12, 27, undef), (13, 28, undef), (14, 29, undef), (15, 30, undef), (16, 31, undef), (17, 32, .bool false), (18, 33, .bool false)]) (fun LL gg z wx => Aside0 (Below w1.heap.size w1 wx)) () (zz [(15, undef), (16, undef), (17, undef), (18, undef), (19, undef), (20, undef), (21, undef), (22, undef), (23, undef), (24, undef), (25, undef), (26, undef), (27, undef), (28, undef), (29, undef), (30, undef), (31, undef), (32, undef), (33, undef)]) rfl rfl ⟨below_drew (Below.refl _ _)⟩ ?_ ?_
      · refine Steps.cons ?_ (Steps.cons ?_ (Steps.cons ?_ (Steps.cons ?_ (Steps.cons ?_ (Steps.cons ?_ (Steps.cons ?_ (Steps.cons ?_ (Steps.cons ?_ (Steps.cons ?_ (Steps.cons ?_ (Steps.cons ?_ (Steps.cons ?_ (Steps.cons ?_ (Steps.cons ?_ (Steps.cons ?_ (Steps.cons ?_ (Steps.cons ?_ (Steps.cons ?_ (Steps.nil)))))))))))))))))))
        · exact V0 0
        · refine V1 1 0 (h := fun LL gg z wx hl hLk e0 K hK => ?_)
          obtain ⟨hb⟩ := hl
          have q_ : wx.cell? ⟨g3, 1, none⟩ = some (.int .i64 x.f1) := (blk_cell (blk_below H3.out hb.out) 1).trans rfl
          dsimp only [FA]
          refine wantd (by rfl) ?_
          go_simp
          exact hK.out
        · refine V1 2 1 (h := fun LL gg z wx hl hLk e1 K hK => ?_)
          obtain ⟨hb⟩ := hl
          have t1 := HNEG.out
          dsimp only [FA]
          refine wantd (by rfl) ?_
          go_simp
          exact hK.out
        · exact V1 3 2
        · exact V1 4 3
        · exact V2 5 3 4
        · exact U1 6 5
        · exact U1 7 5
        · exact U1 8 5
        · exact U1 9 5
        · exact U1 10 5
        · exact U1 11 5
        · exact U1 12 5
        · exact U1 13 5
        · exact U1 14 5
        · exact U1 15 5
        · exact U1 16 5
        · exact V2 17 3 5
        · exact V2 18 3 17
      · intro LL gg z wc hall hI hl
        obtain ⟨hb⟩ := hl
        have e18 := hI.at 18 rfl (hall 18 (by decide))
        dsimp only [FA] at ⊢
        rw [e18]
        have HBC := hb
        clear hI hb e18 hall
        have HNL : Aside0 (seqT T x.f0 < x.f1) := ⟨by rw [HSD.out]; have := of_eq_false HNEG.out; omega⟩
        have HNT : Aside0 (noteT T x = T.take k ++ [x] ++ T.drop k) := ⟨by unfold noteT; rw [if_pos HNL.out, HPUT.out]⟩
        have HM2 := Aside0.mk (HM1.out.below HBC.out)
        have H3C := Aside0.mk (blk_below H3.out HBC.out)
        have HBC2 := Aside0.mk (below_step HB1.out HBC.out)
        clear H3 HBC HM1
        have d0 : wc.cell? ⟨g3, 0, none⟩ = some (.int .i64 x.f0) := (blk_cell H3C.out 0).trans rfl
        have d1 : wc.cell? ⟨g3, 1, none⟩ = some (.int .i64 x.f1) := (blk_cell H3C.out 1).trans rfl
        have d2 : wc.cell? ⟨g3, 2, none⟩ = some (.int .i64 x.f2) := (blk_cell H3C.out 2).trans rfl
        have d3 : wc.cell? ⟨g3, 3, none⟩ = some (.bool x.f3) := (blk_cell H3C.out 3).trans rfl
        have d4 : wc.cell? ⟨g3, 4, none⟩ = some (.string x.f4) := (blk_cell H3C.out 4).trans rfl
        have d5 : wc.cell? ⟨g3, 5, none⟩ = some (.slice A x.f5.length c) := (blk_cell H3C.out 5).trans rfl
        have d6 : wc.cell? ⟨g3, 6, none⟩ = some (.string x.f6) := (blk_cell H3C.out 6).trans rfl
        have d7 : wc.cell? ⟨g3, 7, none⟩ = some (.bool x.f7) := (blk_cell H3C.out 7).trans rfl
        go_wp2_with fail
        clear d0 d1 d2 d3 d4 d5 d6 d7
        obtain ⟨W2, hW2⟩ : ∃ W2, W2 = wc.alloc (.cells #[.int .i64 x.f1, .int .i64 x.f0, .int .i64 x.f1, .int .i64 x.f2, .bool x.f3, .string x.f4, .slice A x.f5.length c, .string x.f6, .bool x.f7] 47) := ⟨_, rfl⟩
        obtain ⟨g7, hg7⟩ : ∃ g7, g7 = wc.heap.size := ⟨_, rfl⟩
        have H7 : Aside0 (W2.heap[g7]? = some (.cells #[.int .i64 x.f1, .int .i64 x.f0, .int .i64 x.f1, .int .i64 x.f2, .bool x.f3, .string x.f4, .slice A x.f5.length c, .string x.f6, .bool x.f7] 47 (0, 0))) := ⟨by rw [hW2, hg7]; exact blk_new wc _⟩
        have HM3 : Aside0 (Mtv W2 w0 base gm _ T) := ⟨by rw [hW2]; exact HM2.out.below (below_alloc (Below.refl _ _) _)⟩
        have HB3 : Aside0 (Below w.heap.size w W2) := ⟨by rw [hW2]; exact below_alloc HBC2.out _⟩
        rw [← hW2, ← hg7]
        clear hW2 hg7 HM2 H3C HBC2
        obtain ⟨T3, hT3⟩ : ∃ T3, T3 = T.take k ++ [x] ++ T.drop k := ⟨_, rfl⟩
        have HT3 := Aside0.mk hT3
        clear hT3
        obtain ⟨AD, hAD⟩ : ∃ AD, AD = (if cv = k then A0 else A0.map (·.add (k * 9))) := ⟨_, rfl⟩
        have HKN : Aside0 (k ≤ n) := ⟨by rw [HKD.out, HN.out]; exact kT_le _ _⟩
        have hrd := Kd.R_reads' HM3.out.2.2
        have HCK : Aside0 ((kW w0).C W2 A0 k (T.take k)) := ⟨by
          have h := (Kd.R_reads' (Kd.R_take (m := k) HM3.out.2.2 (by have := HKN.out; have := HN.out; omega))).2.2
          rwa [List.length_take, Nat.min_eq_left (by have := HKN.out; have := HN.out; omega)] at h⟩
        have HCD : Aside0 ((kW w0).C W2 AD (n - k) (T.drop k)) := ⟨by
          have h := Kd.C_drop (m := k) (c := cv) hrd.2.2 (by have := HKN.out; have := HN.out; omega) (by have := hrd.2.1; have := HN.out; omega)
          rw [List.length_drop, ← HN.out] at h
          rw [hAD]; exact h⟩
        obtain ⟨i0_, hi0_, _, hsz_, _⟩ := info_parts info47
        have HCT : Aside0 (∀ W : World, (Instr.slice 44 (.slice A0 n cv) none (some (.int .i64 (k : Int))) none).run Try.prog W = .ok (.slice A0 k cv) W) := ⟨fun W => by
          have h := cut_to (P := Try.prog) 44 47 .i64 Try.underlying44 hi0_ A0 n cv (k : Int) (by omega) (by have := HKN.out; omega) hrd.2.1 W
          rwa [Int.toNat_natCast] at h⟩
        have HCF : Aside0 (∀ W : World, (Instr.slice 44 (.slice A0 n cv) (some (.int .i64 (k : Int))) none none).run Try.prog W = .ok (.slice AD (n - k) (cv - k)) W) := ⟨fun W => by
          have h := cut_from (P := Try.prog) 44 47 .i64 Try.underlying44 hi0_ 9 hsz_ A0 n cv (k : Int) (by omega) (by have := HKN.out; omega) W
          rw [Int.toNat_natCast] at h
          rw [hAD]; exact h⟩
        clear hAD hrd hi0_ hsz_
        refine wp_reg 21 rfl rfl (by kernel_rfl) (fun y => .pointer (some ⟨gm, 0, none⟩) :: repV x (.slice A x.f5.length c) :: undef :: .pointer (some ⟨g3, 0, none⟩) :: .bool false :: .int .i64 (k : Int) :: .bool false :: .pointer (some ⟨g7, 0, none⟩) :: .tuple #[.int .i64 (k : Int), .bool false] :: .pointer (some ⟨gm, 0, none⟩) :: .pointer (some ⟨g3, 0, none⟩) :: .int .i64 x.f0 :: .tuple #[.int .i64 (k : Int), .bool false] :: .int .i64 (k : Int) :: .bool false :: z 15 :: z 16 :: z 17 :: z 18 :: z 19 :: z 20 :: z 21 :: z 22 :: z 23 :: z 24 :: z 25 :: z 26 :: z 27 :: z 28 :: z 29 :: z 30 :: z 31 :: z 32 :: .bool false :: .pointer (some ⟨g3, 1, none⟩) :: .int .i64 x.f1 :: .agg #[.int .i64 x.f0, .int .i64 x.f1, .int .i64 x.f2, .bool x.f3, .string x.f4, .slice A x.f5.length c, .string x.f6, .bool x.f7] :: .agg #[.int .i64 x.f1, .int .i64 x.f0, .int .i64 x.f1, .int .i64 x.f2, .bool x.f3, .string x.f4, .slice A x.f5.length c, .string x.f6, .bool x.f7] :: .bool false :: undef :: undef :: undef :: undef :: undef :: undef :: undef :: y 46 :: y 47 :: y 48 :: y 49 :: y 50 :: y 51 :: y 52 :: y 53 :: y 54 :: y 55 :: y 56 :: y 57 :: y 58 :: y 59 :: y 60 :: y 61 :: y 62 :: y 63 :: y 64 :: y 65 :: []) (fun (gg : Value × Nat × Value × (Option Addr) × Nat) => [(0, 46, .pointer (some ⟨gm, 0, none⟩)), (1, 47, .pointer (some ⟨gm, 0, none⟩)), (2, 48, .pointer (some ⟨gm, 0, none⟩)), (3, 49, .pointer (some ⟨gm, 0, none⟩)), (4, 50, .slice A0 n cv), (5, 51, .int .i64 (k : Int)), (6, 52, .slice A0 k cv), (7, 53, gg.1), (8, 54, .agg #[.int .i64 x.f1, .int .i64 x.f0, .int .i64 x.f1, .int .i64 x.f2, .bool x.f3, .string x.f4, .slice A x.f5.length c, .string x.f6, .bool x.f7]), (9, 55, .slice (some ⟨gg.2.1, 0, none⟩) 1 1), (10, 56, gg.2.2.1), (11, 57, .pointer (some ⟨gm, 0, none⟩)), (12, 58, .pointer (some ⟨gm, 0, none⟩)), (13, 59, .pointer (some ⟨gm, 0, none⟩)), (14, 60, .slice A0 n cv), (15, 61, .int .i64 (k : Int)), (16, 62, .slice AD (n - k) (cv - k)), (17, 63, .slice gg.2.2.2.1 T3.length gg.2.2.2.2), (18, 64, .pointer (some ⟨gm, 0, none⟩)), (19, 65, .pointer (some ⟨gm, 0, none⟩))]) (fun LL gg y wx => Aside0 (LL 20 = false → Below W2.heap.size W2 wx) ∧ Aside0 ((LL 20 = true → LL 4 = true ∧ LL 14 = true ∧ LL 8 = true ∧ LL 17 = true) ∧ (LL 10 = true → LL 7 = true ∧ LL 9 = true) ∧ (LL 17 = true → LL 10 = true)) ∧ Aside0 (LL 7 = true → LL 10 = false → (kW w0).R 47 wx W2.heap.size (fun _ => True) gg.1 (T.take k)) ∧ Aside0 (LL 9 = true → LL 10 = false → wx.heap[gg.2.1]? = some (.cells #[.int .i64 x.f1, .int .i64 x.f0, .int .i64 x.f1, .int .i64 x.f2, .bool x.f3, .string x.f4, .slice A x.f5.length c, .string x.f6, .bool x.f7] 47 (0, 0)) ∧ W2.heap.size ≤ gg.2.1) ∧ Aside0 (LL 7 = true → LL 9 = true → LL 10 = false → some gg.2.1 ≠ gg.1.ownBlock) ∧ Aside0 (LL 10 = true → LL 17 = false → (kW w0).R 47 wx W2.heap.size (fun _ => True) gg.2.2.1 (T.take k ++ [x])) ∧ Aside0 (LL 17 = true → LL 20 = false → (kW w0).R 47 wx W2.heap.size (fun _ => True) (.slice gg.2.2.2.1 T3.length gg.2.2.2.2) T3) ∧ Aside0 (LL 20 = true → ∃ w9 : World, Below W2.heap.size W2 w9 ∧ (kW w0).R 47 w9 W2.heap.size (fun _ => True) (.slice gg.2.2.2.1 T3.length gg.2.2.2.2) T3 ∧ wx = w9.setCell ⟨gm, 0, none⟩ (.slice gg.2.2.2.1 T3.length gg.2.2.2.2))) (undef, 0, undef, none, 0) (zz [(46, undef), (47, undef), (48, undef), (49, undef), (50, undef), (51, undef), (52, undef), (53, undef), (54, undef), (55, undef), (56, undef), (57, undef), (58, undef), (59, undef), (60, undef), (61, undef), (62, undef), (63, undef), (64, undef), (65, undef)]) rfl rfl ⟨⟨fun _ => below_drew (Below.refl _ _)⟩, ⟨⟨fun h => absurd h (by decide), fun h => absurd h (by decide), fun h => absurd h (by decide)⟩⟩, ⟨fun h => absurd h (by decide)⟩, ⟨fun h => absurd h (by decide)⟩, ⟨fun h => absurd h (by decide)⟩, ⟨fun h => absurd h (by decide)⟩, ⟨fun h => absurd h (by decide)⟩, ⟨fun h => absurd h (by decide)⟩⟩ ?_ ?_
        · refine Steps.cons ?_ (Steps.cons ?_ (Steps.cons ?_ (Steps.cons ?_ (Steps.cons ?_ (Steps.cons ?_ (Steps.cons ?_ (Steps.cons ?_ (Steps.cons ?_ (Steps.cons ?_ (Steps.cons ?_ (Steps.cons ?_ (Steps.cons ?_ (Steps.cons ?_ (Steps.cons ?_ (Steps.cons ?_ (Steps.cons ?_ (Steps.cons ?_ (Steps.cons ?_ (Steps.cons ?_ (Steps.cons ?_ (Steps.nil)))))))))))))))))))))
          · exact V0 0
          · exact V0 1
          · exact V1 2 1
          · exact V1 3 2
          · refine V1 4 3 (hT := fun _ => rfl) (hR := fun LL gg y wx hLk hd ⟨hb, hz, h1, hgL, hne, h2, h3, hw⟩ => ⟨hb, ⟨⟨fun h => ⟨rfl, (hz.out.1 h).2⟩, hz.out.2⟩⟩, h1, hgL, hne, h2, h3, hw⟩) (h := fun LL gg y wx hl hLk e3 K hK => ?_)
            obtain ⟨⟨hb, hz, h1, hgL, hne, h2, h3, hw⟩⟩ := hl
            have hl20 := flag_off (fun h => (hz.out.1 h).1) hLk
            have q_ : wx.cell? ⟨gm, 0, none⟩ = some (.slice A0 n cv) := (blk_cell (blk_below HM3.out.1 (hb.out hl20)) 0).trans rfl
            dsimp only [FA]
            refine wantd (by rfl) ?_
            go_simp
            exact hK.out
          · exact V0 5
          · refine V2 6 4 5 (h := fun LL gg y wx hl hLk e4 e5 K hK => ?_)
            obtain ⟨⟨hb, hz, h1, hgL, hne, h2, h3, hw⟩⟩ := hl
            have t1 := HCT.out
            dsimp only [FA]
            refine wantd (by rfl) ?_
            go_simp
            exact hK.out
          · refine CD 7 (fun _ => rfl) (fun _ => rfl) fun LL gg y wx hl hLk hd hI K hK => ?_
            obtain ⟨⟨hb, hz, h1, hgL, hne, h2, h3, hw⟩⟩ := hl
            have e6 := hI.at 6 rfl (hd 6 rfl)
            have hl10 := flag_off (fun h => (hz.out.2.1 h).1) hLk
            have hl17 := flag_off (fun h => hz.out.2.2 h) hl10
            have hl20 := flag_off (fun h => (hz.out.1 h).2.2.2) hl17
            have hbq := hb.out hl20
            refine Kd.R_append_rows_step (kW w0) (Rr := (kW w0).K wx) (w0 := W2) W2.heap.size (by rfl) (.const (.slice none 0 0)) (.tmp 52) 44 47 (.agg #[(.int .i64 0), (.int .i64 0), (.int .i64 0), (.int .i64 0), (.bool false), (.string ⟨#[]⟩), (.slice none 0 0), (.string ⟨#[]⟩), (.bool false)]) 104 rfl Try.underlying44 info47 rfl (show 0 < 9 by decide) (by omega) (.slice none 0 0) [] (T.take k) _ k _ (fun _ => True) (fun _ => False) rfl e6 (Kd.R_nil _ _ _ _ _) (Kd.C_below HCK.out hbq) (fun _ _ h => h) (fun _ h => h.elim) (fun _ _ => trivial) hbq hbq.size (by have := HTL.out; have := HN.out; have := HKN.out; simp only [List.length_append, List.length_take, List.length_cons, List.length_nil]; omega) ?_
            intro v' w' ho hb1 hg hat
            exact hK (v', gg.2.1, gg.2.2.1, gg.2.2.2.1, gg.2.2.2.2) _ _ rfl rfl rfl ⟨⟨fun _ => hb1⟩, ⟨⟨hz.out.1, fun h => absurd (hl10.symm.trans h) (by decide), hz.out.2.2⟩⟩, ⟨fun _ _ => ho⟩, ⟨fun h9 _ => ⟨(hg.block gg.2.1 (blk_lt (hgL.out h9 hl10).1) (by simp [Value.ownBlock])).trans (hgL.out h9 hl10).1, (hgL.out h9 hl10).2⟩⟩, ⟨fun _ h9 _ he => by rcases hat with h | ⟨b_, h, hle⟩; rw [h] at he; cases he; rw [h] at he; have e9 : gg.2.1 = b_ := Option.some.inj he; have := blk_lt (hgL.out h9 hl10).1; omega⟩, ⟨fun h => absurd (hl10.symm.trans h) (by decide)⟩, ⟨fun h => absurd (hl17.symm.trans h) (by decide)⟩, ⟨fun h => absurd (hl20.symm.trans h) (by decide)⟩⟩
          · refine V0 8 (hT := fun _ => rfl) (hR := fun LL gg y wx hLk hd ⟨hb, hz, h1, hgL, hne, h2, h3, hw⟩ => ⟨hb, ⟨⟨fun h => ⟨(hz.out.1 h).1, (hz.out.1 h).2.1, rfl, (hz.out.1 h).2.2.2⟩, hz.out.2⟩⟩, h1, hgL, hne, h2, h3, hw⟩) (h := fun LL gg y wx hl hLk  K hK => ?_)
            obtain ⟨⟨hb, hz, h1, hgL, hne, h2, h3, hw⟩⟩ := hl
            have hl20 := flag_off (fun h => (hz.out.1 h).2.2.1) hLk
            have q0_ : wx.cell? ⟨g7, 0, none⟩ = some (.int .i64 x.f1) := (blk_cell (blk_below H7.out (hb.out hl20)) 0).trans rfl
            have q1_ : wx.cell? ⟨g7, 1, none⟩ = some (.int .i64 x.f0) := (blk_cell (blk_below H7.out (hb.out hl20)) 1).trans rfl
            have q2_ : wx.cell? ⟨g7, 2, none⟩ = some (.int .i64 x.f1) := (blk_cell (blk_below H7.out (hb.out hl20)) 2).trans rfl
            have q3_ : wx.cell? ⟨g7, 3, none⟩ = some (.int .i64 x.f2) := (blk_cell (blk_below H7.out (hb.out hl20)) 3).trans rfl
            have q4_ : wx.cell? ⟨g7, 4, none⟩ = some (.bool x.f3) := (blk_cell (blk_below H7.out (hb.out hl20)) 4).trans rfl
            have q5_ : wx.cell? ⟨g7, 5, none⟩ = some (.string x.f4) := (blk_cell (blk_below H7.out (hb.out hl20)) 5).trans rfl
            have q6_ : wx.cell? ⟨g7, 6, none⟩ = some (.slice A x.f5.length c) := (blk_cell (blk_below H7.out (hb.out hl20)) 6).trans rfl
            have q7_ : wx.cell? ⟨g7, 7, none⟩ = some (.string x.f6) := (blk_cell (blk_below H7.out (hb.out hl20)) 7).trans rfl
            have q8_ : wx.cell? ⟨g7, 8, none⟩ = some (.bool x.f7) := (blk_cell (blk_below H7.out (hb.out hl20)) 8).trans rfl
            dsimp only [FA]
            refine wantd (by rfl) ?_
            go_simp
            exact hK.out
          · refine CD 9 (fun _ => rfl) (fun _ => rfl) fun LL gg y wx hl hLk hd hI K hK => ?_
            obtain ⟨⟨hb, hz, h1, hgL, hne, h2, h3, hw⟩⟩ := hl
            have e8 := hI.at 8 rfl (hd 8 rfl)
            have hl10 := flag_off (fun h => (hz.out.2.1 h).2) hLk
            have hl17 := flag_off (fun h => hz.out.2.2 h) hl10
            have hl20 := flag_off (fun h => (hz.out.1 h).2.2.2) hl17
            have hbq := hb.out hl20
            dsimp only [FA]
            refine wantd (by rfl) ?_
            go_simp
            exact hK (gg.1, wx.heap.size, gg.2.2.1, gg.2.2.2.1, gg.2.2.2.2) _ _ (sm1 e8) rfl rfl ⟨⟨fun _ => below_alloc hbq _⟩, ⟨⟨hz.out.1, fun h => absurd (hl10.symm.trans h) (by decide), hz.out.2.2⟩⟩, ⟨fun h7 _ => Kd.R_alloc (h1.out h7 hl10) _⟩, ⟨fun _ _ => ⟨blk_new wx _, hbq.size⟩⟩, ⟨fun h7 _ _ he => by obtain ⟨inn, hown⟩ := Kd.R_own (h1.out h7 hl10); have e9 : gg.1.ownBlock = some wx.heap.size := he.symm; have := own_lt hown _ e9; omega⟩, ⟨fun h => absurd (hl10.symm.trans h) (by decide)⟩, ⟨fun h => absurd (hl17.symm.trans h) (by decide)⟩, ⟨fun h => absurd (hl20.symm.trans h) (by decide)⟩⟩
          · refine CD 10 (fun _ => rfl) (fun _ => rfl) fun LL gg y wx hl hLk hd hI K hK => ?_
            obtain ⟨⟨hb, hz, h1, hgL, hne, h2, h3, hw⟩⟩ := hl
            have e7 := hI.at 7 rfl (hd 7 rfl)
            have e9 := hI.at 9 rfl (hd 9 rfl)
            have hl17 := flag_off (fun h => hz.out.2.2 h) hLk
            have hl20 := flag_off (fun h => (hz.out.1 h).2.2.2) hl17
            have hbq := hb.out hl20
            have hI1 := hgL.out (hd 9 rfl) hLk
            refine Kd.R_append_rows_step (kW w0) (Rr := (kW w0).K wx) (w0 := W2) W2.heap.size (by rfl) (.tmp 53) (.tmp 55) 44 47 (.agg #[(.int .i64 0), (.int .i64 0), (.int .i64 0), (.int .i64 0), (.bool false), (.string ⟨#[]⟩), (.slice none 0 0), (.string ⟨#[]⟩), (.bool false)]) 104 rfl Try.underlying44 info47 rfl (show 0 < 9 by decide) (by omega) gg.1 (T.take k) [x] _ 1 _ (fun _ => True) (fun _ => False) e7 e9 (h1.out (hd 7 rfl) hLk) (row9 hI1.1 HK.out) (fun _ _ h => h) (fun _ h => h.elim) (fun _ _ => trivial) hbq hbq.size (by have := HTL.out; have := HN.out; have := HKN.out; simp only [List.length_append, List.length_take, List.length_cons, List.length_nil]; omega) ?_
            intro v' w' ho hb1 hg hat
            exact hK (gg.1, gg.2.1, v', gg.2.2.2.1, gg.2.2.2.2) _ _ rfl rfl rfl ⟨⟨fun _ => hb1⟩, ⟨⟨hz.out.1, fun _ => ⟨hd 7 rfl, hd 9 rfl⟩, fun h => rfl⟩⟩, ⟨fun _ h => absurd (show true = false from h) (by decide)⟩, ⟨fun _ h => absurd (show true = false from h) (by decide)⟩, ⟨fun _ _ h => absurd (show true = false from h) (by decide)⟩, ⟨fun _ _ => ho⟩, ⟨fun h => absurd (hl17.symm.trans h) (by decide)⟩, ⟨fun h => absurd (hl20.symm.trans h) (by decide)⟩⟩
          · exact V0 11
          · exact V1 12 11
          · exact V1 13 12
          · refine V1 14 13 (hT := fun _ => rfl) (hR := fun LL gg y wx hLk hd ⟨hb, hz, h1, hgL, hne, h2, h3, hw⟩ => ⟨hb, ⟨⟨fun h => ⟨(hz.out.1 h).1, rfl, (hz.out.1 h).2.2⟩, hz.out.2⟩⟩, h1, hgL, hne, h2, h3, hw⟩) (h := fun LL gg y wx hl hLk e13 K hK => ?_)
            obtain ⟨⟨hb, hz, h1, hgL, hne, h2, h3, hw⟩⟩ := hl
            have hl20 := flag_off (fun h => (hz.out.1 h).2.1) hLk
            have q_ : wx.cell? ⟨gm, 0, none⟩ = some (.slice A0 n cv) := (blk_cell (blk_below HM3.out.1 (hb.out hl20)) 0).trans rfl
            dsimp only [FA]
            refine wantd (by rfl) ?_
            go_simp
            exact hK.out
          · exact V0 15
          · refine V2 16 14 15 (h := fun LL gg y wx hl hLk e14 e15 K hK => ?_)
            obtain ⟨⟨hb, hz, h1, hgL, hne, h2, h3, hw⟩⟩ := hl
            have t1 := HCF.out
            dsimp only [FA]
            refine wantd (by rfl) ?_
            go_simp
            exact hK.out
          · refine CD 17 (fun _ => rfl) (fun _ => rfl) fun LL gg y wx hl hLk hd hI K hK => ?_
            obtain ⟨⟨hb, hz, h1, hgL, hne, h2, h3, hw⟩⟩ := hl
            have e10 := hI.at 10 rfl (hd 10 rfl)
            have e16 := hI.at 16 rfl (hd 16 rfl)
            have hl20 := flag_off (fun h => (hz.out.1 h).2.2.2) hLk
            have hbq := hb.out hl20
            refine Kd.R_append_rows_step (kW w0) (Rr := (kW w0).K wx) (w0 := W2) W2.heap.size (by rfl) (.tmp 56) (.tmp 62) 44 47 (.agg #[(.int .i64 0), (.int .i64 0), (.int .i64 0), (.int .i64 0), (.bool false), (.string ⟨#[]⟩), (.slice none 0 0), (.string ⟨#[]⟩), (.bool false)]) 104 rfl Try.underlying44 info47 rfl (show 0 < 9 by decide) (by omega) gg.2.2.1 (T.take k ++ [x]) (T.drop k) _ (n - k) _ (fun _ => True) (fun _ => False) e10 e16 (h2.out (hd 10 rfl) hLk) (Kd.C_below HCD.out hbq) (fun _ _ h => h) (fun _ h => h.elim) (fun _ _ => trivial) hbq hbq.size (by have := HTL.out; have := HN.out; have := HKN.out; simp only [List.length_append, List.length_take, List.length_cons, List.length_nil]; omega) ?_
            intro v' w' ho hb1 hg hat
            rw [← HT3.out] at ho
            obtain ⟨A', c', rfl⟩ := Kd.R_slice ho
            exact hK (gg.1, gg.2.1, gg.2.2.1, A', c') _ _ rfl rfl rfl ⟨⟨fun _ => hb1⟩, ⟨⟨fun h => absurd (hl20.symm.trans h) (by decide), hz.out.2.1, fun _ => hd 10 rfl⟩⟩, ⟨fun _ h => absurd ((hd 10 rfl).symm.trans h) (by decide)⟩, ⟨fun _ h => absurd ((hd 10 rfl).symm.trans h) (by decide)⟩, ⟨fun _ _ h => absurd ((hd 10 rfl).symm.trans h) (by decide)⟩, ⟨fun _ h => absurd (show true = false from h) (by decide)⟩, ⟨fun _ _ => ho⟩, ⟨fun h => absurd (hl20.symm.trans h) (by decide)⟩⟩
          · exact V1 18 0
          · exact V1 19 18
          · refine CS (fun _ => rfl) fun LL gg y wx hl hLk hd hI K hK => ?_
            obtain ⟨⟨hb, hz, h1, hgL, hne, h2, h3, hw⟩⟩ := hl
            have e19 := hI.at 19 rfl (hd 19 rfl)
            have e17 := hI.at 17 rfl (hd 17 rfl)
            have hbq := hb.out hLk
            have h3_ := h3.out (hd 17 rfl) hLk
            have q_ : wx.cell? ⟨gm, 0, none⟩ = some (.slice A0 n cv) := (blk_cell (blk_below HM3.out.1 hbq) 0).trans rfl
            have f_ := blk_frozen (blk_below HM3.out.1 hbq) 0
            dsimp only [FA]
            refine wantd (by rfl) ?_
            go_simp
            exact hK _ _ (sm2 e19 e17) ⟨⟨fun h => by cases h⟩, ⟨⟨fun _ => ⟨hd 4 rfl, hd 14 rfl, hd 8 rfl, hd 17 rfl⟩, hz.out.2⟩⟩, ⟨fun _ h => absurd ((hd 10 rfl).symm.trans h) (by decide)⟩, ⟨fun _ h => absurd ((hd 10 rfl).symm.trans h) (by decide)⟩, ⟨fun _ _ h => absurd ((hd 10 rfl).symm.trans h) (by decide)⟩, ⟨fun _ h => absurd ((hd 17 rfl).symm.trans h) (by decide)⟩, ⟨fun _ h => by cases h⟩, ⟨fun _ => ⟨wx, hbq, h3_, rfl⟩⟩⟩
        · intro LL gg y wd hall hI hl
          obtain ⟨q1, gb, q2, B3, c3⟩ := gg
          obtain ⟨⟨hb, hz, h1, hgL, hne, h2, h3, hw⟩⟩ := hl
          dsimp only [FA] at hb hz h1 hgL hne h2 h3 hw ⊢
          have HW := Aside0.mk (hw.out (hall 20 (by decide)))
          clear hI hb hz h1 hgL hne h2 h3 hw hall
          go_wp2_with fail
          go_ret
          obtain ⟨w9, b9, r9, rfl⟩ := HW.out
          have hg9 := blk_below HM3.out.1 b9
          have hgw := blk_lt HM3.out.1
          have hon : On (· = gm) w9 (w9.setCell ⟨gm, 0, none⟩ (.slice B3 T3.length c3)) := On.set (P := (· = gm)) (On.refl _ _) (p := ⟨gm, 0, none⟩) (show gm = gm from rfl) (.slice B3 T3.length c3)
          have r8 : (kW w0).R 47 (w9.setCell ⟨gm, 0, none⟩ (.slice B3 T3.length c3)) base (fun k => some k = (Value.slice B3 T3.length c3).ownBlock) (.slice B3 T3.length c3) T3 := Kd.R_lower (Kd.R_tight rfl (Kd.R_far (Kd.R_mono (Kd.R_bound r9) (ok' := fun k => W2.heap.size ≤ k) (fun k hk => hk.2.1)) (fun k hk => by show k ≠ gm; omega) (p := ⟨gm, 0, none⟩) (.slice B3 T3.length c3))) (by have := HM3.out.2.1; omega)
          have hown : ∃ k, (Value.slice B3 T3.length c3).ownBlock = some k ∧ w.heap.size ≤ k := by
            obtain ⟨g9, c9, e9, h9, _⟩ := Kd.R_form r9 (by rw [HT3.out, List.length_append, List.length_append, List.length_singleton]; omega)
            exact ⟨g9, by rw [e9]; rfl, Nat.le_trans HB3.out.size h9⟩
          exact ⟨_, by first | rfl | (rw [show decide (seqT T x.f0 < x.f1) = true from decide_eq_true (by have := HNL.out; omega)]; rfl), by rw [HNT.out, ← HT3.out]; exact ⟨blk_set hg9 0 (.slice B3 T3.length c3), HM3.out.2.1, r8⟩, .inr hown, ((On.of_below HB3.out).trans ((On.of_below b9).trans (hon.mono (fun k hk => .inl hk))))⟩
end Go.Proofs.YtdeepnpbibhfiaaW.PrintOnce

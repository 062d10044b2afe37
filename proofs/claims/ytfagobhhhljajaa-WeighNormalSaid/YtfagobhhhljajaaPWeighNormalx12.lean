-- printed by a program of this session (wip/tools), a turned form of the kit's print
import Derived.Test.YtfagobhhhljajaaPWeighNormalx0
import Derived.Test.YtfagobhhhljajaaPWeighNormalx2
import Derived.Test.YtfagobhhhljajaaPWeighNormalx6
import Derived.Test.YtfagobhhhljajaaPWeighNormalx8
import Derived.Test.YtfagobhhhljajaaPWeighNormalx9
import Derived.Test.YtfagobhhhljajaaPWeighNormalx10
import Derived.Test.YtfagobhhhljajaaPWeighNormalx11
namespace Go.Proofs.Ytfagobhhhljajaa.PWeighNormal
open Go.RowKit Go.Proofs.YtfagobhhhljajaaW.PrintWords Go.Proofs.YtfagobhhhljajaaW.PrintLast Go.Proofs.YtfagobhhhljajaaW.PrintMore
attribute [local go_sem] max2_int min2_int max_two min_two max_three min_three max_four min_four max2_str min2_str str_geq str_leq str_gtr   -- for this text's walks alone
set_option linter.unusedVariables false
set_option linter.unusedSimpArgs false

/-! ### gazetteerref1_Order: function 36 -/
def gazetteerref1_Order.f (l0 : List S42) (l1 : List Int) : Option (List Int) := if l0.length ≤ 1000000 ∧ l1.length ≤ 1000000 then some (orderL l0 l1) else none
open Go.Proofs.YtfagobhhhljajaaW.PrintReg
theorem rclass_f (l : List S42) (hl : l.length ≤ 1000000) (r : Int) : gazetteerref1_Class.f (l.length + 1) l r = some (clsOf l r) := by
 unfold gazetteerref1_Class.f
 rw [rfind_ok l hl r, Option.bind_some]
 unfold clsOf rowOf
 have hlt := firstAt_lt (fun s : S42 => s.f0 == r) l
 split
 ·
  rfl
 ·
  rw [if_pos (by omega), if_pos hlt.1]
set_option maxHeartbeats 8000000 in
set_option maxRecDepth 100000 in
theorem gazetteerref1_Order.calls (A0 : Option Addr) (c0 : Nat) (l0 : List (S42)) (A1 : Option Addr) (c1 : Nat) (l1 : List Int) (r : List Int) (w : World) (hr0 : Kd.C k42 w A0 l0.length l0) (hc0 : l0.length ≤ c0) (hr1 : Kd.C (Kd.int .i32) w A1 l1.length l1) (hc1 : l1.length ≤ c1) (h : gazetteerref1_Order.f l0 l1 = some r) :
  Calls Try.prog 36 #[.slice A0 l0.length c0, .slice A1 l1.length c1] w fun e w' => ∃ v0_ : Value, e = .returned (v0_) ∧ Kd.R (Kd.int .i32) 21 w' w.heap.size (fun _ => True) v0_ r ∧ Below w.heap.size w w' := by
 unfold gazetteerref1_Order.f at h
 split at h
 case isFalse => cases h
 case isTrue hl =>
 obtain rfl := Option.some.inj h
 have FCL := Aside0.mk (fun x W2 (hb : Below w.heap.size w W2) => gazetteerref1_Class.calls (l0.length + 1) A0 c0 l0 x (clsOf l0 x) W2 (Kd.C_below hr0 hb) hc0 (rclass_f l0 hl.1 x))
 have HL := Aside0.mk hl.2
 have HR1 := Aside0.mk (And.intro hr1 hc1)
 have hmf := run_mf (P := Try.prog)
 clear hr0 hc0 h hl hr1 hc1
 go_enter Try.func36, Try.ntmps36
 go_wp2_with (first | ((with_reducible refine gate_builtin (b := .append) (xs := #[.const (.slice none 0 0), .tmp 8]) rfl ?_); at_builtin; refine Kd.R_append_rows (Kd.int .i32) (w0 := w) w.heap.size rfl (.const (.slice none 0 0)) (.tmp 8) 26 21 (.int .i32 0) 4 rfl Try.underlying26 info21 rfl (by decide) (by omega) (.slice none 0 0) ([] : List Int) l1 _ _ _ (fun _ => True) (fun _ => False) rfl rfl ?aO ?aR (fun _ _ h => h) (fun _ h => h.elim) (fun _ _ => trivial) ?aB ?aS ?aL ?_; (case aR => exact HR1.out.1); (case aB => exact Below.refl _ _); (case aO => exact Kd.R_nil _ _ _ _ (fun _ => True)); (case aS => exact Nat.le_refl _); (case aL => have := HL.out; simp; omega); intro v w1 hR hB1 hg2 hat2; clear hg2 hat2))
 rw [List.nil_append] at hR
 have HB1 := Aside0.mk hB1
 rcases arr_of_R hR with ⟨rfl, hs⟩ | ⟨g, cap, XX, rfl, hg, hA, hc1, hc2, hc3⟩
 ·
  have HN : Aside0 (orderL l0 l1 = []) := ⟨by rw [hs]; rfl⟩
  clear hR hB1 hs
  go_wp2_with fail
  go_loopw [6] (fun v6 wr => v6 = .int .i64 1 ∧ wr = w1) (fun _ _ => 0)
  case atStart => exact ⟨rfl, rfl⟩
  case round =>
   obtain ⟨rfl, rfl⟩ := hrel
   go_wp2_with fail
   go_ret
   rw [HN.out]
   exact ⟨_, rfl, Kd.R_nil _ _ _ _ _, HB1.out⟩
 ·
  have HA := Aside0.mk hA
  have HG : Aside0 (w.heap.size ≤ g ∧ l1.length ≤ cap ∧ cap ≤ maxLen ∧ l1.length + XX.length = cap ∧ g < w1.heap.size) := ⟨hg, hc1, hc2, hc3, hA.lt⟩
  obtain ⟨n, hn⟩ : ∃ n, n = l1.length := ⟨_, rfl⟩
  have HN := Aside0.mk hn
  rw [← hn]
  clear hR hB1 hA hg hc1 hc2 hc3 hn
  go_wp2_with fail
  go_loopw [6] (fun v6 wr => ∃ (i : Nat) (D : List Int), v6 = .int .i64 (i : Int) ∧ Aside0 (1 ≤ i ∧ (i ≤ n ∨ n = 0) ∧ D = Go.Proofs.YtfagobhhhljajaaW.PrintSort.ordA (clsOf l0) [] (l1.take i) ++ l1.drop i) ∧ Aside0 (Go.Proofs.YtfagobhhhljajaaW.PrintSort.Arr XX wr g D) ∧ Aside0 (Go.Proofs.YtfagobhhhljajaaW.PrintTree.On (· = g) w1 wr)) (fun v6 _ => n + 1 - (intOf v6).toNat)
  case atStart => exact ⟨1, l1, rfl, ⟨by omega, by omega, (Go.Proofs.YtfagobhhhljajaaW.PrintSort.ordA_one l1).symm⟩, HA, ⟨Go.Proofs.YtfagobhhhljajaaW.PrintTree.On.refl _ _⟩⟩
  case round =>
   clear HA
   obtain ⟨i, D, rfl, HD, HA, HO⟩ := hrel
   by_cases hlt : (i : Int) < (n : Int)
   ·
    have q1 := eq_true hlt
    have q2 : (i < n) = True := eq_true (by omega)
    have HI : Aside0 (i < n) := ⟨by omega⟩
    have HM := Aside0.mk (Go.Proofs.YtfagobhhhljajaaW.PrintSort.Mid.start (k := clsOf l0) (s := l1) (i := i) (by have := HN.out; omega))
    rw [← HD.out.2.2] at HM
    have HIW := Aside0.mk (show wrap64 ((i : Int) + 1) = ((i + 1 : Nat) : Int) by have := HN.out; have := HL.out; unfold wrap64; omega)
    clear hlt
    go_wp2_with fail
    go_loopw [7] (fun v7 wr => ∃ (m : Nat) (D : List Int), v7 = .int .i64 (m : Int) ∧ Aside0 (Go.Proofs.YtfagobhhhljajaaW.PrintSort.Mid (clsOf l0) l1 i m D) ∧ Aside0 (Go.Proofs.YtfagobhhhljajaaW.PrintSort.Arr XX wr g D) ∧ Aside0 (Go.Proofs.YtfagobhhhljajaaW.PrintTree.On (· = g) w1 wr)) (fun v7 _ => (intOf v7).toNat)
    case atStart => exact ⟨i, D, rfl, HM, HA, HO⟩
    case round =>
     clear HA HO HM HD
     obtain ⟨m, D, rfl, HM, HA, HO⟩ := hrel
     have HDL : Aside0 (D.length = n ∧ m ≤ i) := ⟨by have h := HM.out.len (by have := HN.out; have := HI.out; omega); rw [HN.out]; exact h⟩
     have HBQ := Aside0.mk (HB1.out.trans (HO.out.to_below HB1.out.size (fun k hk => by rw [hk]; exact HG.out.1)))
     obtain ⟨p, hp⟩ : ∃ b, b = decide (0 < m) := ⟨_, rfl⟩
     obtain ⟨x, hx⟩ : ∃ x, x = D.getD m 0 := ⟨_, rfl⟩
     obtain ⟨y, hy⟩ : ∃ y, y = D.getD (m - 1) 0 := ⟨_, rfl⟩
     obtain ⟨q, hq⟩ : ∃ b, b = decide (0 < clsOf l0 x) := ⟨_, rfl⟩
     obtain ⟨c, hc⟩ : ∃ b, b = decide (clsOf l0 x < clsOf l0 y) := ⟨_, rfl⟩
     obtain ⟨pm, hpm⟩ : ∃ j, j = m - 1 := ⟨_, rfl⟩
     have HP : Aside0 (((0 : Int) < (m : Int)) = True ∧ (0 < m) = True ∧ p = true ∨ ((0 : Int) < (m : Int)) = False ∧ (0 < m) = False ∧ p = false) := ⟨by by_cases h : 0 < m; exact .inl ⟨eq_true (by omega), eq_true h, hp.trans (decide_eq_true h)⟩; exact .inr ⟨eq_false (by omega), eq_false h, hp.trans (decide_eq_false h)⟩⟩
     have HQ : Aside0 ((0 < clsOf l0 x) = True ∧ True ∧ q = true ∨ (0 < clsOf l0 x) = False ∧ True ∧ q = false) := ⟨by by_cases h : 0 < clsOf l0 x; exact .inl ⟨eq_true h, trivial, hq.trans (decide_eq_true h)⟩; exact .inr ⟨eq_false h, trivial, hq.trans (decide_eq_false h)⟩⟩
     have HC : Aside0 ((clsOf l0 x < clsOf l0 y) = True ∧ True ∧ c = true ∨ (clsOf l0 x < clsOf l0 y) = False ∧ True ∧ c = false) := ⟨by by_cases h : clsOf l0 x < clsOf l0 y; exact .inl ⟨eq_true h, trivial, hc.trans (decide_eq_true h)⟩; exact .inr ⟨eq_false h, trivial, hc.trans (decide_eq_false h)⟩⟩
     have HML : Aside0 (((0 : Int) ≤ (m : Int)) = True ∧ ((m : Int) < (n : Int)) = True ∧ (m < n) = True ∧ m < D.length) := ⟨by have := HDL.out; have := HI.out; exact ⟨eq_true (by omega), eq_true (by omega), eq_true (by omega), by omega⟩⟩
     have HPM : Aside0 (p = true → wrap64 ((m : Int) - 1) = (pm : Int) ∧ ((0 : Int) ≤ (pm : Int)) = True ∧ ((pm : Int) < (n : Int)) = True ∧ (pm < n) = True ∧ pm < D.length ∧ pm + 1 = m) := ⟨fun h => by
      rw [hp] at h
      have h := of_decide_eq_true h
      have := HDL.out; have := HI.out; have := HL.out; have := HN.out
      exact ⟨by unfold wrap64; omega, eq_true (by omega), eq_true (by omega), eq_true (by omega), by omega, by omega⟩⟩
     have HXY : Aside0 (x = D.getD m 0 ∧ y = D.getD pm 0) := ⟨hx, by rw [hpm]; exact hy⟩
     have HRES : Aside0 (((p && q) && c) = decide (0 < m ∧ 0 < clsOf l0 (D.getD m 0) ∧ clsOf l0 (D.getD m 0) < clsOf l0 (D.getD (m - 1) 0))) := ⟨by rw [hp, hq, hc, hx, hy, ← Bool.decide_and, ← Bool.decide_and]; exact decide_eq_decide.2 and_assoc⟩
     have hymm := Aside0.mk hy
     obtain ⟨b, hb⟩ : ∃ b, b = ((p && q) && c) := ⟨_, rfl⟩
     have HBB := Aside0.mk hb
     clear q1 q2 hp hx hy hq hc hpm hb
     go_wp2_with fail
     refine wp_reg 27 rfl rfl (by kernel_rfl) (fun z => .slice A0 l0.length c0 :: .slice A1 n c1 :: undef :: undef :: .slice none 0 0 :: .slice (some ⟨g, 0, none⟩) n cap :: .int .i64 (i : Int) :: .int .i64 (m : Int) :: .slice A1 n c1 :: .slice (some ⟨g, 0, none⟩) n cap :: .int .i64 (i : Int) :: .slice (some ⟨g, 0, none⟩) n cap :: .int .i64 (n : Int) :: .bool true :: u14 :: u15 :: .int .i64 (i : Int) :: z 17 :: z 18 :: z 19 :: z 20 :: z 21 :: z 22 :: z 23 :: z 24 :: z 25 :: z 26 :: z 27 :: z 28 :: z 29 :: z 30 :: z 31 :: z 32 :: z 33 :: z 34 :: z 35 :: z 36 :: z 37 :: z 38 :: z 39 :: z 40 :: z 41 :: z 42 :: z 43 :: u44 :: u45 :: u46 :: u47 :: u48 :: u49 :: u50 :: u51 :: u52 :: u53 :: u54 :: u55 :: u56 :: u57 :: u58 :: u59 :: u60 :: u61 :: undef :: []) (fun (gg : Unit) => [(0, 17, .int .i64 (m : Int)), (1, 18, .bool p), (2, 19, .bool p), (3, 20, bif p then .slice A0 l0.length c0 else undef), (4, 21, bif p then .slice (some ⟨g, 0, none⟩) n cap else undef), (5, 22, bif p then .int .i64 (m : Int) else undef), (6, 23, bif p then .pointer (some ⟨g, m, none⟩) else undef), (7, 24, bif p then .int .i32 x else undef), (8, 25, bif p then .int .i64 (clsOf l0 x) else undef), (9, 26, bif p then .bool q else undef), (10, 27, .bool (p && q)), (11, 28, .bool (p && q)), (12, 29, bif p && q then .slice A0 l0.length c0 else undef), (13, 30, bif p && q then .slice (some ⟨g, 0, none⟩) n cap else undef), (14, 31, bif p && q then .int .i64 (m : Int) else undef), (15, 32, bif p && q then .int .i64 (pm : Int) else undef), (16, 33, bif p && q then .pointer (some ⟨g, pm, none⟩) else undef), (17, 34, bif p && q then .int .i32 y else undef), (18, 35, bif p && q then .int .i64 (clsOf l0 y) else undef), (19, 36, bif p && q then .slice A0 l0.length c0 else undef), (20, 37, bif p && q then .slice (some ⟨g, 0, none⟩) n cap else undef), (21, 38, bif p && q then .int .i64 (m : Int) else undef), (22, 39, bif p && q then .pointer (some ⟨g, m, none⟩) else undef), (23, 40, bif p && q then .int .i32 x else undef), (24, 41, bif p && q then .int .i64 (clsOf l0 x) else undef), (25, 42, bif p && q then .bool c else undef), (26, 43, .bool b)]) (fun LL gg z wx => Aside0 (Below wr.heap.size wr wx)) () (zz [(17, u17), (18, u18), (19, u19), (20, u20), (21, u21), (22, u22), (23, u23), (24, u24), (25, u25), (26, u26), (27, u27), (28, u28), (29, u29), (30, u30), (31, u31), (32, u32), (33, u33), (34, u34), (35, u35), (36, u36), (37, u37), (38, u38), (39, u39), (40, u40), (41, u41), (42, u42), (43, u43)]) rfl rfl ⟨below_drew (Below.refl _ _)⟩ ?_ ?_
     ·
      refine Steps.cons ?_ (Steps.cons ?_ (Steps.cons ?_ (Steps.cons ?_ (Steps.cons ?_ (Steps.cons ?_ (Steps.cons ?_ (Steps.cons ?_ (Steps.cons ?_ (Steps.cons ?_ (Steps.cons ?_ (Steps.cons ?_ (Steps.cons ?_ (Steps.cons ?_ (Steps.cons ?_ (Steps.cons ?_ (Steps.cons ?_ (Steps.cons ?_ (Steps.cons ?_ (Steps.cons ?_ (Steps.cons ?_ (Steps.cons ?_ (Steps.cons ?_ (Steps.cons ?_ (Steps.cons ?_ (Steps.cons ?_ (Steps.cons ?_ (Steps.nil)))))))))))))))))))))))))))
      ·
       exact V0 0
      ·
       refine V1 1 0 (h := fun LL gg z wx hl hLk e0 K hK => ?_)
       rcases HP.out with ⟨t1, t2, rfl⟩ | ⟨t1, t2, rfl⟩ <;> (dsimp only [FA]; refine wantd (by rfl) ?_; go_simp; exact hK.out)
      ·
       exact V1 2 1
      ·
       refine G1 3 2 (h := fun LL gg z wx hl hLk eg K hK => ?_)
       cases p <;> first | exact unwanted (by dsimp only [FA]; rw [eg]; rfl) (hK z rfl).out | (dsimp only [FA]; refine wantd (by rw [eg]; rfl) ?_; go_simp; exact (hK _ (sm1 eg)).out)
      ·
       refine G1 4 2 (h := fun LL gg z wx hl hLk eg K hK => ?_)
       cases p <;> first | exact unwanted (by dsimp only [FA]; rw [eg]; rfl) (hK z rfl).out | (dsimp only [FA]; refine wantd (by rw [eg]; rfl) ?_; go_simp; exact (hK _ (sm1 eg)).out)
      ·
       refine G1 5 2 (h := fun LL gg z wx hl hLk eg K hK => ?_)
       cases p <;> first | exact unwanted (by dsimp only [FA]; rw [eg]; rfl) (hK z rfl).out | (dsimp only [FA]; refine wantd (by rw [eg]; rfl) ?_; go_simp; exact (hK _ (sm1 eg)).out)
      ·
       refine G3 6 2 4 5 (h := fun LL gg z wx hl hLk eg e4 e5 K hK => ?_)
       obtain ⟨hb⟩ := hl
       cases p <;> first | exact unwanted (by dsimp only [FA]; rw [eg]; rfl) (hK z rfl).out | (have t1 := HML.out.1; have t2 := HML.out.2.1; have t3 := HML.out.2.2.1; dsimp only [FA]; refine wantd (by rw [eg]; rfl) ?_; go_simp; exact (hK _ (sm3 eg e4 e5)).out)
      ·
       refine G2 7 2 6 (h := fun LL gg z wx hl hLk eg e6 K hK => ?_)
       obtain ⟨hb⟩ := hl
       cases p <;> first | exact unwanted (by dsimp only [FA]; rw [eg]; rfl) (hK z rfl).out | (have hq := HA.out.below hb.out; have ck : wx.cell? ⟨g, m, none⟩ = some (.int .i32 x) := (by have h := hq.cell (o := m) rfl 0 (by have := HML.out.2.2.2; omega); rw [Nat.add_zero, ← HXY.out.1] at h; exact h); dsimp only [FA]; refine wantd (by rw [eg]; rfl) ?_; go_simp; exact (hK _ (sm2 eg e6)).out)
      ·
       refine CD 8 (fun _ => rfl) (fun _ => rfl) fun LL gg z wx hl hLk hd hI K hK => ?_
       obtain ⟨hb⟩ := hl
       have eg := hI.at 2 rfl (hd 2 rfl)
       have e3 := hI.at 3 rfl (hd 3 rfl)
       have e7 := hI.at 7 rfl (hd 7 rfl)
       cases p <;> first | exact unwanted (by dsimp only [FA]; rw [eg]; rfl) (hK gg z wx rfl rfl rfl hb) | (dsimp only [FA]; refine wantd (by rw [eg]; rfl) ?_; go_simp; refine (FCL.out x wx (below_step HBQ.out hb.out)).mono ?_; rintro e w' ⟨rfl, hb1⟩; exact hK gg _ _ (sm3 eg e3 e7) rfl rfl ⟨below_step hb.out hb1.below⟩)
      ·
       refine G2 9 2 8 (h := fun LL gg z wx hl hLk eg e8 K hK => ?_)
       cases p <;> rcases HQ.out with ⟨t1, t2, rfl⟩ | ⟨t1, t2, rfl⟩ <;> first | exact unwanted (by dsimp only [FA]; rw [eg]; rfl) (hK z rfl).out | (dsimp only [FA]; refine wantd (by rw [eg]; rfl) ?_; go_simp; exact (hK _ (sm2 eg e8)).out)
      ·
       refine V2 10 2 9 (h := fun LL gg z wx hl hLk e2 e9 K hK => ?_)
       cases p <;> (dsimp only [FA]; refine wantd (by rfl) ?_; go_simp; exact hK.out)
      ·
       exact V1 11 10
      ·
       refine G1 12 11 (h := fun LL gg z wx hl hLk eg K hK => ?_)
       cases p <;> cases q <;> first | exact unwanted (by dsimp only [FA]; rw [eg]; rfl) (hK z rfl).out | (dsimp only [FA]; refine wantd (by rw [eg]; rfl) ?_; go_simp; exact (hK _ (sm1 eg)).out)
      ·
       refine G1 13 11 (h := fun LL gg z wx hl hLk eg K hK => ?_)
       cases p <;> cases q <;> first | exact unwanted (by dsimp only [FA]; rw [eg]; rfl) (hK z rfl).out | (dsimp only [FA]; refine wantd (by rw [eg]; rfl) ?_; go_simp; exact (hK _ (sm1 eg)).out)
      ·
       refine G1 14 11 (h := fun LL gg z wx hl hLk eg K hK => ?_)
       cases p <;> cases q <;> first | exact unwanted (by dsimp only [FA]; rw [eg]; rfl) (hK z rfl).out | (dsimp only [FA]; refine wantd (by rw [eg]; rfl) ?_; go_simp; exact (hK _ (sm1 eg)).out)
      ·
       refine G2 15 11 14 (h := fun LL gg z wx hl hLk eg e14 K hK => ?_)
       obtain ⟨hb⟩ := hl
       cases p <;> cases q <;> first | exact unwanted (by dsimp only [FA]; rw [eg]; rfl) (hK z rfl).out | (have t1 : IntKind.wrap .i64 ((m : Int) - 1) = (pm : Int) := (i64_w _).trans (HPM.out rfl).1; dsimp only [FA]; refine wantd (by rw [eg]; rfl) ?_; go_simp; exact (hK _ (sm2 eg e14)).out)
      ·
       refine G3 16 11 13 15 (h := fun LL gg z wx hl hLk eg e13 e15 K hK => ?_)
       obtain ⟨hb⟩ := hl
       cases p <;> cases q <;> first | exact unwanted (by dsimp only [FA]; rw [eg]; rfl) (hK z rfl).out | (have t1 := (HPM.out rfl).2.1; have t2 := (HPM.out rfl).2.2.1; have t3 := (HPM.out rfl).2.2.2.1; dsimp only [FA]; refine wantd (by rw [eg]; rfl) ?_; go_simp; exact (hK _ (sm3 eg e13 e15)).out)
      ·
       refine G2 17 11 16 (h := fun LL gg z wx hl hLk eg e16 K hK => ?_)
       obtain ⟨hb⟩ := hl
       cases p <;> cases q <;> first | exact unwanted (by dsimp only [FA]; rw [eg]; rfl) (hK z rfl).out | (have hq := HA.out.below hb.out; have ck : wx.cell? ⟨g, pm, none⟩ = some (.int .i32 y) := (by have h := hq.cell (o := pm) rfl 0 (by have := (HPM.out rfl).2.2.2.2.1; omega); rw [Nat.add_zero, ← HXY.out.2] at h; exact h); dsimp only [FA]; refine wantd (by rw [eg]; rfl) ?_; go_simp; exact (hK _ (sm2 eg e16)).out)
      ·
       refine CD 18 (fun _ => rfl) (fun _ => rfl) fun LL gg z wx hl hLk hd hI K hK => ?_
       obtain ⟨hb⟩ := hl
       have eg := hI.at 11 rfl (hd 11 rfl)
       have e12 := hI.at 12 rfl (hd 12 rfl)
       have e17 := hI.at 17 rfl (hd 17 rfl)
       cases p <;> cases q <;> first | exact unwanted (by dsimp only [FA]; rw [eg]; rfl) (hK gg z wx rfl rfl rfl hb) | (dsimp only [FA]; refine wantd (by rw [eg]; rfl) ?_; go_simp; refine (FCL.out y wx (below_step HBQ.out hb.out)).mono ?_; rintro e w' ⟨rfl, hb1⟩; exact hK gg _ _ (sm3 eg e12 e17) rfl rfl ⟨below_step hb.out hb1.below⟩)
      ·
       refine G1 19 11 (h := fun LL gg z wx hl hLk eg K hK => ?_)
       cases p <;> cases q <;> first | exact unwanted (by dsimp only [FA]; rw [eg]; rfl) (hK z rfl).out | (dsimp only [FA]; refine wantd (by rw [eg]; rfl) ?_; go_simp; exact (hK _ (sm1 eg)).out)
      ·
       refine G1 20 11 (h := fun LL gg z wx hl hLk eg K hK => ?_)
       cases p <;> cases q <;> first | exact unwanted (by dsimp only [FA]; rw [eg]; rfl) (hK z rfl).out | (dsimp only [FA]; refine wantd (by rw [eg]; rfl) ?_; go_simp; exact (hK _ (sm1 eg)).out)
      ·
       refine G1 21 11 (h := fun LL gg z wx hl hLk eg K hK => ?_)
       cases p <;> cases q <;> first | exact unwanted (by dsimp only [FA]; rw [eg]; rfl) (hK z rfl).out | (dsimp only [FA]; refine wantd (by rw [eg]; rfl) ?_; go_simp; exact (hK _ (sm1 eg)).out)
      ·
       refine G3 22 11 20 21 (h := fun LL gg z wx hl hLk eg e20 e21 K hK => ?_)
       obtain ⟨hb⟩ := hl
       cases p <;> cases q <;> first | exact unwanted (by dsimp only [FA]; rw [eg]; rfl) (hK z rfl).out | (have t1 := HML.out.1; have t2 := HML.out.2.1; have t3 := HML.out.2.2.1; dsimp only [FA]; refine wantd (by rw [eg]; rfl) ?_; go_simp; exact (hK _ (sm3 eg e20 e21)).out)
      ·
       refine G2 23 11 22 (h := fun LL gg z wx hl hLk eg e22 K hK => ?_)
       obtain ⟨hb⟩ := hl
       cases p <;> cases q <;> first | exact unwanted (by dsimp only [FA]; rw [eg]; rfl) (hK z rfl).out | (have hq := HA.out.below hb.out; have ck : wx.cell? ⟨g, m, none⟩ = some (.int .i32 x) := (by have h := hq.cell (o := m) rfl 0 (by have := HML.out.2.2.2; omega); rw [Nat.add_zero, ← HXY.out.1] at h; exact h); dsimp only [FA]; refine wantd (by rw [eg]; rfl) ?_; go_simp; exact (hK _ (sm2 eg e22)).out)
      ·
       refine CD 24 (fun _ => rfl) (fun _ => rfl) fun LL gg z wx hl hLk hd hI K hK => ?_
       obtain ⟨hb⟩ := hl
       have eg := hI.at 11 rfl (hd 11 rfl)
       have e19 := hI.at 19 rfl (hd 19 rfl)
       have e23 := hI.at 23 rfl (hd 23 rfl)
       cases p <;> cases q <;> first | exact unwanted (by dsimp only [FA]; rw [eg]; rfl) (hK gg z wx rfl rfl rfl hb) | (dsimp only [FA]; refine wantd (by rw [eg]; rfl) ?_; go_simp; refine (FCL.out x wx (below_step HBQ.out hb.out)).mono ?_; rintro e w' ⟨rfl, hb1⟩; exact hK gg _ _ (sm3 eg e19 e23) rfl rfl ⟨below_step hb.out hb1.below⟩)
      ·
       refine G3 25 11 18 24 (h := fun LL gg z wx hl hLk eg e18 e24 K hK => ?_)
       cases p <;> cases q <;> rcases HC.out with ⟨t1, t2, rfl⟩ | ⟨t1, t2, rfl⟩ <;> first | exact unwanted (by dsimp only [FA]; rw [eg]; rfl) (hK z rfl).out | (dsimp only [FA]; refine wantd (by rw [eg]; rfl) ?_; go_simp; exact (hK _ (sm3 eg e18 e24)).out)
      ·
       refine V2 26 11 25 (h := fun LL gg z wx hl hLk e11 e25 K hK => ?_)
       obtain ⟨hb⟩ := hl
       cases p <;> cases q <;> (obtain rfl := HBB.out; dsimp only [FA]; refine wantd (by rfl) ?_; go_simp; exact hK.out)
     ·
      intro LL gg z wc hall hI hl
      obtain ⟨hb⟩ := hl
      have e26 := hI.at 26 rfl (hall 26 (by decide))
      dsimp only [FA] at ⊢
      rw [e26]
      have HBC := hb
      clear hI hb e26 hall
      have HAC := Aside0.mk (HA.out.below HBC.out)
      cases b with
      | true =>
       have HT : Aside0 (0 < m ∧ 0 < clsOf l0 x ∧ clsOf l0 x < clsOf l0 y) := ⟨by have h := HRES.out; rw [← HBB.out] at h; have h2 := of_decide_eq_true h.symm; rw [← HXY.out.1] at h2; refine ⟨h2.1, h2.2.1, ?_⟩; rw [hymm.out]; exact h2.2.2⟩
       have HP2 := Aside0.mk (HPM.out (by rcases HP.out with h | h; exact h.2.2; exact absurd HT.out.1 (by rw [h.2.1]; exact id)))
       clear HA HP HQ HC HPM HRES HBB
       go_wp2_with fail
       refine wp_reg 18 rfl rfl (by kernel_rfl) (fun zq => .slice A0 l0.length c0 :: .slice A1 n c1 :: undef :: undef :: .slice none 0 0 :: .slice (some ⟨g, 0, none⟩) n cap :: .int .i64 (i : Int) :: .int .i64 (m : Int) :: .slice A1 n c1 :: .slice (some ⟨g, 0, none⟩) n cap :: .int .i64 (i : Int) :: .slice (some ⟨g, 0, none⟩) n cap :: .int .i64 (n : Int) :: .bool true :: u14 :: u15 :: .int .i64 (i : Int) :: z 17 :: z 18 :: z 19 :: z 20 :: z 21 :: z 22 :: z 23 :: z 24 :: z 25 :: z 26 :: z 27 :: z 28 :: z 29 :: z 30 :: z 31 :: z 32 :: z 33 :: z 34 :: z 35 :: z 36 :: z 37 :: z 38 :: z 39 :: z 40 :: z 41 :: z 42 :: .bool true :: u44 :: u45 :: zq 46 :: zq 47 :: zq 48 :: zq 49 :: zq 50 :: zq 51 :: zq 52 :: zq 53 :: zq 54 :: zq 55 :: zq 56 :: zq 57 :: zq 58 :: zq 59 :: zq 60 :: zq 61 :: undef :: []) (fun (gg : Unit) => [(0, 46, .slice (some ⟨g, 0, none⟩) n cap), (1, 47, .int .i64 (m : Int)), (2, 48, .int .i64 (pm : Int)), (3, 49, .slice (some ⟨g, 0, none⟩) n cap), (4, 50, .int .i64 (m : Int)), (5, 51, .slice (some ⟨g, 0, none⟩) n cap), (6, 52, .int .i64 (m : Int)), (7, 53, .pointer (some ⟨g, m, none⟩)), (8, 54, .int .i32 x), (9, 55, .slice (some ⟨g, 0, none⟩) n cap), (10, 56, .int .i64 (m : Int)), (11, 57, .int .i64 (pm : Int)), (12, 58, .pointer (some ⟨g, pm, none⟩)), (13, 59, .int .i32 y), (14, 60, .pointer (some ⟨g, pm, none⟩)), (16, 61, .pointer (some ⟨g, m, none⟩))]) (fun LL gg zq wx => Aside0 (Go.Proofs.YtfagobhhhljajaaW.PrintSort.Arr XX wx g (bif LL 17 then ((D.set pm x).set m y) else bif LL 15 then (D.set pm x) else D)) ∧ Aside0 (Go.Proofs.YtfagobhhhljajaaW.PrintTree.On (· = g) wc wx) ∧ Aside0 ((LL 15 = true → LL 8 = true ∧ LL 13 = true) ∧ (LL 17 = true → LL 15 = true))) () (zz [(46, u46), (47, u47), (48, u48), (49, u49), (50, u50), (51, u51), (52, u52), (53, u53), (54, u54), (55, u55), (56, u56), (57, u57), (58, u58), (59, u59), (60, u60), (61, u61)]) rfl rfl ⟨⟨HAC.out.below (below_drew (Below.refl _ _))⟩, ⟨Go.Proofs.YtfagobhhhljajaaW.PrintTree.On.of_below (below_drew (Below.refl _ _))⟩, ⟨⟨fun h => absurd h (by decide), fun h => absurd h (by decide)⟩⟩⟩ ?_ ?_
       ·
        refine Steps.cons ?_ (Steps.cons ?_ (Steps.cons ?_ (Steps.cons ?_ (Steps.cons ?_ (Steps.cons ?_ (Steps.cons ?_ (Steps.cons ?_ (Steps.cons ?_ (Steps.cons ?_ (Steps.cons ?_ (Steps.cons ?_ (Steps.cons ?_ (Steps.cons ?_ (Steps.cons ?_ (Steps.cons ?_ (Steps.cons ?_ (Steps.cons ?_ (Steps.nil))))))))))))))))))
        ·
         exact V0 0
        ·
         exact V0 1
        ·
         refine V1 2 1 (h := fun LL gg zq wx hl hLk e1 K hK => ?_)
         obtain ⟨⟨hA, ho, hz⟩⟩ := hl
         have t1 : IntKind.wrap .i64 ((m : Int) - 1) = (pm : Int) := (i64_w _).trans HP2.out.1
         dsimp only [FA]
         refine wantd (by rfl) ?_
         go_simp
         exact hK.out
        ·
         exact V0 3
        ·
         exact V0 4
        ·
         exact V0 5
        ·
         exact V0 6
        ·
         refine V2 7 5 6 (h := fun LL gg zq wx hl hLk e5 e6 K hK => ?_)
         obtain ⟨⟨hA, ho, hz⟩⟩ := hl
         have t1 := HML.out.1
         have t2 := HML.out.2.1
         have t3 := HML.out.2.2.1
         dsimp only [FA]
         refine wantd (by rfl) ?_
         go_simp
         exact hK.out
        ·
         refine V1 8 7 (hT := fun _ => rfl) (hR := fun LL gg zq wx hLk hd ⟨hA, ho, hz⟩ => ⟨hA, ho, ⟨⟨fun h => ⟨rfl, (hz.out.1 h).2⟩, hz.out.2⟩⟩⟩) (h := fun LL gg zq wx hl hLk e7 K hK => ?_)
         obtain ⟨⟨hA, ho, hz⟩⟩ := hl
         have f15 := flag_off (fun h => (hz.out.1 h).1) hLk
         have f17 := flag_off (fun h => (hz.out.1 (hz.out.2 h)).1) hLk
         have hq : Go.Proofs.YtfagobhhhljajaaW.PrintSort.Arr XX wx g D := by have h := hA.out; rw [f17, f15] at h; exact h
         have ck : wx.cell? ⟨g, m, none⟩ = some (.int .i32 x) := by have h := hq.cell (o := m) rfl 0 (by have := HML.out.2.2.2; have := HP2.out.2.2.2.2; omega); rw [Nat.add_zero, ← HXY.out.1] at h; exact h
         dsimp only [FA]
         refine wantd (by rfl) ?_
         go_simp
         exact hK.out
        ·
         exact V0 9
        ·
         exact V0 10
        ·
         refine V1 11 10 (h := fun LL gg zq wx hl hLk e10 K hK => ?_)
         obtain ⟨⟨hA, ho, hz⟩⟩ := hl
         have t1 : IntKind.wrap .i64 ((m : Int) - 1) = (pm : Int) := (i64_w _).trans HP2.out.1
         dsimp only [FA]
         refine wantd (by rfl) ?_
         go_simp
         exact hK.out
        ·
         refine V2 12 9 11 (h := fun LL gg zq wx hl hLk e9 e11 K hK => ?_)
         obtain ⟨⟨hA, ho, hz⟩⟩ := hl
         have t1 := HP2.out.2.1
         have t2 := HP2.out.2.2.1
         have t3 := HP2.out.2.2.2.1
         dsimp only [FA]
         refine wantd (by rfl) ?_
         go_simp
         exact hK.out
        ·
         refine V1 13 12 (hT := fun _ => rfl) (hR := fun LL gg zq wx hLk hd ⟨hA, ho, hz⟩ => ⟨hA, ho, ⟨⟨fun h => ⟨(hz.out.1 h).1, rfl⟩, hz.out.2⟩⟩⟩) (h := fun LL gg zq wx hl hLk e12 K hK => ?_)
         obtain ⟨⟨hA, ho, hz⟩⟩ := hl
         have f15 := flag_off (fun h => (hz.out.1 h).2) hLk
         have f17 := flag_off (fun h => (hz.out.1 (hz.out.2 h)).2) hLk
         have hq : Go.Proofs.YtfagobhhhljajaaW.PrintSort.Arr XX wx g D := by have h := hA.out; rw [f17, f15] at h; exact h
         have ck : wx.cell? ⟨g, pm, none⟩ = some (.int .i32 y) := by have h := hq.cell (o := pm) rfl 0 (by have := HML.out.2.2.2; have := HP2.out.2.2.2.2; omega); rw [Nat.add_zero, ← HXY.out.2] at h; exact h
         dsimp only [FA]
         refine wantd (by rfl) ?_
         go_simp
         exact hK.out
        ·
         refine V2 14 0 2 (h := fun LL gg zq wx hl hLk e0 e2 K hK => ?_)
         obtain ⟨⟨hA, ho, hz⟩⟩ := hl
         have t1 := HP2.out.2.1
         have t2 := HP2.out.2.2.1
         have t3 := HP2.out.2.2.2.1
         dsimp only [FA]
         refine wantd (by rfl) ?_
         go_simp
         exact hK.out
        ·
         refine CS (fun _ => rfl) fun LL gg zq wx hl hLk hd hI K hK => ?_
         obtain ⟨⟨hA, ho, hz⟩⟩ := hl
         have e14 := hI.at 14 rfl (hd 14 rfl)
         have e8 := hI.at 8 rfl (hd 8 rfl)
         have f17 := flag_off (fun h => hz.out.2 h) hLk
         have hq : Go.Proofs.YtfagobhhhljajaaW.PrintSort.Arr XX wx g D := by have h := hA.out; rw [f17, hLk] at h; exact h
         have ck : wx.cell? ⟨g, pm, none⟩ = some (.int .i32 (D.getD pm 0)) := hq.cell (o := pm) rfl 0 (by have := HML.out.2.2.2; have := HP2.out.2.2.2.2; omega)
         have fz : wx.frozen? ⟨g, pm, none⟩ = false := hq.frozen (o := pm) rfl 0
         have hs : Go.Proofs.YtfagobhhhljajaaW.PrintSort.Arr XX (wx.setCell ⟨g, pm, none⟩ (.int .i32 x)) g (D.set pm x) ∧ Go.Proofs.YtfagobhhhljajaaW.PrintTree.On (· = g) wx (wx.setCell ⟨g, pm, none⟩ (.int .i32 x)) := hq.set (o := pm) rfl 0 x (by have := HML.out.2.2.2; have := HP2.out.2.2.2.2; omega)
         dsimp only [FA]
         refine wantd (by rfl) ?_
         go_simp
         exact hK _ _ (sm2 e14 e8) ⟨⟨(show Go.Proofs.YtfagobhhhljajaaW.PrintSort.Arr XX _ g (bif LL 17 then _ else (D.set pm x)) by rw [f17]; exact hs.1)⟩, ⟨ho.out.trans hs.2⟩, ⟨⟨fun _ => ⟨hd 8 rfl, hd 13 rfl⟩, fun _ => rfl⟩⟩⟩
        ·
         refine V2 15 3 4 (h := fun LL gg zq wx hl hLk e3 e4 K hK => ?_)
         obtain ⟨⟨hA, ho, hz⟩⟩ := hl
         have t1 := HML.out.1
         have t2 := HML.out.2.1
         have t3 := HML.out.2.2.1
         dsimp only [FA]
         refine wantd (by rfl) ?_
         go_simp
         exact hK.out
        ·
         refine CS (fun _ => rfl) fun LL gg zq wx hl hLk hd hI K hK => ?_
         obtain ⟨⟨hA, ho, hz⟩⟩ := hl
         have e16 := hI.at 15 rfl (hd 16 rfl)
         have e13 := hI.at 13 rfl (hd 13 rfl)
         have hq : Go.Proofs.YtfagobhhhljajaaW.PrintSort.Arr XX wx g (D.set pm x) := by have h := hA.out; rw [hLk, hd 15 rfl] at h; exact h
         have ck : wx.cell? ⟨g, m, none⟩ = some (.int .i32 ((D.set pm x).getD m 0)) := hq.cell (o := m) rfl 0 (by rw [List.length_set]; have := HML.out.2.2.2; have := HP2.out.2.2.2.2; omega)
         have fz : wx.frozen? ⟨g, m, none⟩ = false := hq.frozen (o := m) rfl 0
         have hs : Go.Proofs.YtfagobhhhljajaaW.PrintSort.Arr XX (wx.setCell ⟨g, m, none⟩ (.int .i32 y)) g ((D.set pm x).set m y) ∧ Go.Proofs.YtfagobhhhljajaaW.PrintTree.On (· = g) wx (wx.setCell ⟨g, m, none⟩ (.int .i32 y)) := hq.set (o := m) rfl 0 y (by rw [List.length_set]; have := HML.out.2.2.2; have := HP2.out.2.2.2.2; omega)
         dsimp only [FA]
         refine wantd (by rfl) ?_
         go_simp
         exact hK _ _ (sm2 e16 e13) ⟨⟨hs.1⟩, ⟨ho.out.trans hs.2⟩, ⟨⟨hz.out.1, fun _ => hd 15 rfl⟩⟩⟩
       ·
        intro LL gg zq wq hall hI hl
        obtain ⟨⟨hA, ho, hz⟩⟩ := hl
        dsimp only [FA] at ⊢
        have HA9 : Aside0 (Go.Proofs.YtfagobhhhljajaaW.PrintSort.Arr XX wq g ((D.set pm x).set m y)) := ⟨by have h := hA.out; rw [hall 17 (by decide)] at h; exact h⟩
        have HO9 := ho
        clear hI hA ho hz hall
        go_wp2_with fail
        go_roundw
        case rel =>
         refine ⟨pm, _, by rw [HP2.out.1], ⟨?_⟩, HA9, ⟨HO.out.trans ((Go.Proofs.YtfagobhhhljajaaW.PrintTree.On.of_below HBC.out).trans HO9.out)⟩⟩
         have h := HM.out.step HT.out.1 (by rw [← HXY.out.1]; exact HT.out.2.1) (by rw [← HXY.out.1, show m - 1 = pm by have := HP2.out.2.2.2.2; omega, ← HXY.out.2]; exact HT.out.2.2)
         rw [← HXY.out.1, show m - 1 = pm by have := HP2.out.2.2.2.2; omega, ← HXY.out.2] at h
         exact h
        case measure => rw [HP2.out.1]; simp only [intOf]; have := HP2.out.2.2.2.2; omega
      | false =>
       have HS := Aside0.mk (HM.out.stop (by have h := HRES.out; rw [← HBB.out] at h; exact of_decide_eq_false h.symm))
       clear HA HP HQ HC HPM HRES HBB
       go_wp2_with fail
       go_roundw
       case rel => exact ⟨i + 1, D, by rw [HIW.out], ⟨by omega, .inl (by have := HI.out; omega), HS.out⟩, HAC, ⟨HO.out.trans (Go.Proofs.YtfagobhhhljajaaW.PrintTree.On.of_below HBC.out)⟩⟩
       case measure => rw [HIW.out]; simp only [intOf]; have := HI.out; omega
   ·
    have q1 := eq_false hlt
    have q2 : (i < n) = False := eq_false (by omega)
    have HE : Aside0 (D = orderL l0 l1) := ⟨by
     rw [HD.out.2.2]
     have : l1.length ≤ i := by have := HN.out; omega
     rw [List.take_of_length_le this, List.drop_eq_nil_of_le this, List.append_nil]; rfl⟩
    have HDL : Aside0 (D.length = n) := ⟨by rw [HE.out]; unfold orderL; rw [Go.Proofs.YtfagobhhhljajaaW.PrintSort.ordA_len, HN.out]; simp⟩
    clear hlt
    go_wp2_with fail
    go_ret
    rw [HE.out] at HA HDL
    have hB9 := HO.out.to_below HB1.out.size (fun k hk => by rw [hk]; exact HG.out.1)
    refine ⟨_, by rw [show n = (orderL l0 l1).length from HDL.out.symm]; rfl, R_of_arr HG.out.1 HA.out (by rw [HDL.out, HN.out]; exact HG.out.2.1) HG.out.2.2.1 (by rw [HDL.out, HN.out]; exact HG.out.2.2.2.1), HB1.out.trans hB9⟩

/-! ### gazetteerref1_Apart: function 37 -/
def gazetteerref1_Apart.l0 : Nat → List (S42) → List Int → List Int → Int → Option (List Int)
 | 0, _, _, _, _ => none
 | k + 1, x0, x1, x5, x6 => if x6 < (x1.length : Int) then (if 0 ≤ x6 then ((gazetteerref1_find.f k x0 (rd x1 x6)).bind fun t172 => (if t172 ≥ 0 then (if 0 ≤ t172 then (if t172 < (x0.length : Int) then (if (((rd_T42 x0 t172).f2).length : Int) > 0 then (if x5.length + ((rd_T42 x0 t172).f2).length < 35184372088832 then (gazetteerref1_Apart.l0 k x0 x1 (x5 ++ ((rd_T42 x0 t172).f2)) (wrap64 (x6 + 1))) else (none)) else (if x5.length < 35184372088832 then (gazetteerref1_Apart.l0 k x0 x1 (x5 ++ [rd x1 x6]) (wrap64 (x6 + 1))) else (none))) else (none)) else (none)) else (if x5.length < 35184372088832 then (gazetteerref1_Apart.l0 k x0 x1 (x5 ++ [rd x1 x6]) (wrap64 (x6 + 1))) else (none)))) else (none)) else (some x5)
def gazetteerref1_Apart.f (k : Nat) (l0 : List (S42)) (l1 : List Int) : Option (List Int) := gazetteerref1_Apart.l0 k l0 l1 ([] : List Int) 0
theorem gazetteerref1_Apart.mono_l : ∀ k, (∀ y0 y1 y2 y3, LeO (gazetteerref1_Apart.l0 k y0 y1 y2 y3) (gazetteerref1_Apart.l0 (k + 1) y0 y1 y2 y3))
 | 0 => fun _ _ _ _ r h => by simp [gazetteerref1_Apart.l0] at h
 | k + 1 => by
  have ih0 := gazetteerref1_Apart.mono_l k
  ·
   intro y0 y1 y2 y3
   unfold gazetteerref1_Apart.l0
   repeat' first
   | (with_reducible exact ih0 _ _ _ _)
   | (with_reducible exact gazetteerref1_find.mono _ _ _)
   | (with_reducible exact LeO.refl _)
   | (with_reducible exact LeO.none _)
   | (with_reducible refine LeO.ite ?_ ?_)
   | (with_reducible refine LeO.bind ?_ (fun _ => ?_))
   | exact ih0 _ _ _ _
   | exact gazetteerref1_find.mono _ _ _
   | exact LeO.none _
   | refine LeO.ite ?_ ?_
   | refine LeO.bind ?_ (fun _ => ?_)
theorem gazetteerref1_Apart.mono : ∀ a0 a1 k, LeO (gazetteerref1_Apart.f k a0 a1) (gazetteerref1_Apart.f (k + 1) a0 a1) := by
 intro a0 a1 k
 have ih0 := gazetteerref1_Apart.mono_l k
 unfold gazetteerref1_Apart.f
 repeat' first
   | (with_reducible exact ih0 _ _ _ _)
   | (with_reducible exact gazetteerref1_find.mono _ _ _)
   | (with_reducible exact LeO.refl _)
   | (with_reducible exact LeO.none _)
   | (with_reducible refine LeO.ite ?_ ?_)
   | (with_reducible refine LeO.bind ?_ (fun _ => ?_))
   | exact ih0 _ _ _ _
   | exact gazetteerref1_find.mono _ _ _
   | exact LeO.none _
   | refine LeO.ite ?_ ?_
   | refine LeO.bind ?_ (fun _ => ?_)
set_option maxHeartbeats 8000000 in
set_option maxRecDepth 100000 in
theorem gazetteerref1_Apart.calls (k : Nat) (A0 : Option Addr) (c0 : Nat) (l0 : List (S42)) (A1 : Option Addr) (c1 : Nat) (l1 : List Int) (r : List Int) (w : World) (hr0 : Kd.C k42 w A0 l0.length l0) (hc0 : l0.length ≤ c0) (hr1 : Kd.C (Kd.int .i32) w A1 l1.length l1) (hc1 : l1.length ≤ c1) (h : gazetteerref1_Apart.f k l0 l1 = some r) :
  Calls Try.prog 37 #[.slice A0 l0.length c0, .slice A1 l1.length c1] w fun e w' => ∃ v0_ : Value, e = .returned (v0_) ∧ Kd.R (Kd.int .i32) 21 w' w.heap.size (fun _ => True) v0_ r ∧ Below w.heap.size w w' := by
 have HR0 := Aside0.mk hr0
 have HC0 := Aside0.mk hc0
 clear hr0 hc0
 have HR1 := Aside0.mk hr1
 have HC1 := Aside0.mk hc1
 clear hr1 hc1
 have HB := Aside0.mk (Below.refl w.heap.size w)
 have H : (gazetteerref1_Apart.l0 k l0 l1 ([] : List Int) 0) = some r := h
 clear h
 have H' := Aside0.mk H
 clear H
 go_enter Try.func37, Try.ntmps37
 go_wp2
 go_loopg [5, 6] k (fun kq v5 v6 w' => ∃ (x5_1 : List Int) (x6_1 : Int), v6 = .int .i64 x6_1 ∧ Aside0 (gazetteerref1_Apart.l0 kq l0 l1 x5_1 x6_1 = some r) ∧ Aside0 (kq ≤ k) ∧ Aside0 (Kd.R (Kd.int .i32) 21 w' w.heap.size (fun _ => True) v5 x5_1) ∧ Aside0 (Below w.heap.size w w'))
 case atStart => exact ⟨(([] : List Int)), (0), (by first | rfl | (simp; done) | (simp [*]; done)), H', ⟨Nat.le_refl _⟩, ⟨by first | exact Kd.R_nil _ _ _ _ _ | exact Kd.N_nil _ _ _ _ _ | exact Kd.V_nil _ _ _ _ _ | exact Kd.Q_nil _ _ _ _ _ | exact Kd.S_nil _ _ _ _ _⟩, ⟨by repeat (first | (with_reducible first | exact HB.out | apply below_alloc | apply pw_below_drewN | apply below_drew1) | exact HB.out)⟩⟩
 case round =>
  clear H'
  try clear c1
  try clear p2
  obtain ⟨x5_1, x6_1, rfl, HA, HK1, HO_5, HB⟩ := hrel
  cases gk with
  | zero => exact absurd HA.out (by simp [gazetteerref1_Apart.l0])
  | succ k1 =>
   have H := HA.out
   clear HA
   simp only [gazetteerref1_Apart.l0] at H
   by_cases c3 : x6_1 < (l1.length : Int)
   ·
    rw [if_pos c3] at H
    have c3b0 : decide (x6_1 < (l1.length : Int)) = true := decide_eq_true c3
    clear c3
    by_cases c4 : 0 ≤ x6_1
    ·
     rw [if_pos c4] at H
     have c4b0 : decide (0 ≤ x6_1) = true := decide_eq_true c4
     clear c4
     replace H := Option.bind_eq_some_iff.mp H
     obtain ⟨t172, A50, H⟩ := H
     replace H : (if t172 ≥ 0 then (if 0 ≤ t172 then (if t172 < (l0.length : Int) then (if (((rd_T42 l0 t172).f2).length : Int) > 0 then (if x5_1.length + ((rd_T42 l0 t172).f2).length < 35184372088832 then (gazetteerref1_Apart.l0 k1 l0 l1 (x5_1 ++ ((rd_T42 l0 t172).f2)) (wrap64 (x6_1 + 1))) else (none)) else (if x5_1.length < 35184372088832 then (gazetteerref1_Apart.l0 k1 l0 l1 (x5_1 ++ [rd l1 x6_1]) (wrap64 (x6_1 + 1))) else (none))) else (none)) else (none)) else (if x5_1.length < 35184372088832 then (gazetteerref1_Apart.l0 k1 l0 l1 (x5_1 ++ [rd l1 x6_1]) (wrap64 (x6_1 + 1))) else (none))) = some r := H
     have A5 := Aside0.mk A50
     clear A50
     by_cases c6 : t172 ≥ 0
     ·
      rw [if_pos c6] at H
      have c6b0 : decide (0 ≤ t172) = true := decide_eq_true c6
      clear c6
      by_cases c7 : 0 ≤ t172
      ·
       rw [if_pos c7] at H
       have c7b0 : decide (0 ≤ t172) = true := decide_eq_true c7
       clear c7
       by_cases c8 : t172 < (l0.length : Int)
       ·
        rw [if_pos c8] at H
        have c8b0 : decide (t172 < (l0.length : Int)) = true := decide_eq_true c8
        clear c8
        by_cases c9 : (((rd_T42 l0 t172).f2).length : Int) > 0
        ·
         rw [if_pos c9] at H
         have c9b0 : decide (0 < (((rd_T42 l0 t172).f2).length : Int)) = true := decide_eq_true c9
         have c9b1 : decide (0 < ((rd_T42 l0 t172).f2).length) = true := decide_eq_true (by omega)
         clear c9
         by_cases c10 : x5_1.length + ((rd_T42 l0 t172).f2).length < 35184372088832
         ·
          rw [if_pos c10] at H
          have LMc10 := Aside0.mk c10
          clear c10
          obtain ⟨y175, hy175⟩ : ∃ y_ : List Int, y_ = (x5_1 ++ ((rd_T42 l0 t172).f2)) := ⟨_, rfl⟩
          replace H : (gazetteerref1_Apart.l0 k1 l0 l1 y175 (wrap64 (x6_1 + 1))) = some r := by first | (rw [hy175]; with_reducible exact H) | (have H2_ := (Option.bind_some _ _).symm.trans H; rw [hy175]; with_reducible exact H2_) | (have H2_ := (Option.bind_some _ _).symm.trans H; with_reducible exact H2_) | with_reducible exact H | (rw [hy175]; exact H) | exact H
          have Ny175 := Aside0.mk hy175
          clear hy175
          have H' := Aside0.mk H
          clear H
          have p171 : 0 ≤ (x6_1 : Int) := of_decide_eq_true (by first | (with_reducible assumption) | assumption)
          have q171 : x6_1 < (l1.length : Int) := of_decide_eq_true (by first | (with_reducible assumption) | assumption)
          obtain ⟨ad171, e171, hx171_0⟩ := Kd.at_int HR1.out x6_1 p171 q171
          cases e171
          replace hx171_0 := (HB.out.cell (World.block_lt_of_cell? w _ hx171_0)).trans hx171_0
          replace p171 := eq_true p171
          replace q171 := eq_true q171
          go_wp2_with (first | ((with_reducible refine gate_callee (f := 35) rfl ?_); refine goesL_ (some 19) rfl rfl Try.func35 (by kernel_rfl) rfl #[.slice A0 l0.length c0, .int .i32 (rd l1 x6_1)] rfl (by (try simp only [List.map_toArray, List.map_cons, List.map_nil]); first | done | rfl | (simp only [List.length_drop, List.length_take]; done) | (simp only [List.length_drop, List.length_take]; rfl)) ?_; (with_reducible refine (gazetteerref1_find.calls k1 _ _ l0 (rd l1 x6_1) t172 _ ?side1 ?side2 A5.out).mono ?_); (case side1 => repeat (first | exact (Kd.C_below HR0.out HB.out) | (with_reducible refine Kd.C_alloc ?_ _) | (with_reducible refine Kd.C_drewN ?_ _) | (with_reducible refine Kd.C_drew ?_))); (case side2 => exact HC0.out); rintro e w' ⟨rfl, ⟨nd, rfl⟩⟩; refine ⟨_, rfl, ?_⟩; have p173 : 0 ≤ (t172 : Int) := of_decide_eq_true (by first | (with_reducible assumption) | assumption); have q173 : t172 < (l0.length : Int) := of_decide_eq_true (by first | (with_reducible assumption) | assumption); obtain ⟨ad173, A173_2, c173_2, e173, hx173_0, hx173_1, hx173_2, hl173_2, hi173_2⟩ := at_T42 HR0.out t172 p173 q173; cases e173; replace hx173_0 := (HB.out.cell (World.block_lt_of_cell? w _ hx173_0)).trans hx173_0; replace hx173_1 := (HB.out.cell (World.block_lt_of_cell? w _ hx173_1)).trans hx173_1; replace hx173_2 := (HB.out.cell (World.block_lt_of_cell? w _ hx173_2)).trans hx173_2; have HR173_2 := Aside0.mk hi173_2; have HC173_2 := Aside0.mk hl173_2; clear hi173_2 hl173_2; replace p173 := eq_true p173; replace q173 := eq_true q173; have p174 : 0 ≤ (t172 : Int) := of_decide_eq_true (by first | (with_reducible assumption) | assumption); have q174 : t172 < (l0.length : Int) := of_decide_eq_true (by first | (with_reducible assumption) | assumption); obtain ⟨ad174, A174_2, c174_2, e174, hx174_0, hx174_1, hx174_2, hl174_2, hi174_2⟩ := at_T42 HR0.out t172 p174 q174; obtain rfl : ad173 = ad174 := (by injection e174); replace hx174_0 := (HB.out.cell (World.block_lt_of_cell? w _ hx174_0)).trans hx174_0; replace hx174_1 := (HB.out.cell (World.block_lt_of_cell? w _ hx174_1)).trans hx174_1; replace hx174_2 := (HB.out.cell (World.block_lt_of_cell? w _ hx174_2)).trans hx174_2; have HR174_2 := Aside0.mk hi174_2; have HC174_2 := Aside0.mk hl174_2; clear hi174_2 hl174_2; replace p174 := eq_true p174; replace q174 := eq_true q174; have ea_ := Option.some.inj (hx173_2.symm.trans hx174_2); injection ea_ with ea_ en_ ec_; subst ea_; subst ec_; clear en_) | ((with_reducible refine gate_builtin (b := .append) (xs := #[.tmp 31, .tmp 36]) rfl ?_); (try (refine gate_guard (by rfl) ?_; dsimp only)); at_builtin; refine Kd.R_append_rows (Kd.int .i32) (w0 := w) w.heap.size rfl (.tmp 31) (.tmp 36) 26 21 (.int .i32 0) 4 rfl Try.underlying26 info21 rfl (by decide) (by omega) u5 x5_1 ((rd_T42 l0 t172).f2) _ _ _ (fun _ => True) (fun _ => False) rfl rfl ?aO ?aR (fun _ _ h => h) (fun _ h => h.elim) ?aF ?aB ?aS ?aL ?_; (case aR => repeat (first | exact (Kd.C_below HR174_2.out (by repeat (first | (with_reducible first | exact HB.out | apply below_alloc | apply pw_below_drewN | apply below_drew1) | exact HB.out))) | (with_reducible refine Kd.C_alloc ?_ _) | (with_reducible refine Kd.C_drewN ?_ _) | (with_reducible refine Kd.C_drew ?_))); (case aB => exact (by repeat (first | (with_reducible first | exact HB.out | apply below_alloc | apply pw_below_drewN | apply below_drew1) | exact HB.out))); (case aF => exact (fun _ _ => trivial)); (case aO => exact (by (with_reducible repeat (first | apply Kd.R_alloc | apply Kd.R_drewN | apply Kd.R_drew)); exact HO_5.out)); (case aS => exact (below_size (by repeat (first | (with_reducible first | exact HB.out | apply below_alloc | apply pw_below_drewN | apply below_drew1) | exact HB.out)))); (case aL => have := LMc10.out; omega); intro v176 w11 ho hb hg hat; rw [← Ny175.out] at ho; have n0_ := Aside0.mk (hb); have n1_ := Aside0.mk (ho); clear HB; clear HO_5; have HB := n0_; have HO177 := n1_; clear n0_ n1_; clear ho hb hg hat))
          go_roundg k1
          case measure => have := HK1.out; omega
          case rel => exact ⟨(y175), (wrap64 (x6_1 + 1)), (by first | rfl | (simp; done) | (simp [*]; done)), H', ⟨by have := HK1.out; omega⟩, ⟨by (with_reducible repeat (first | apply Kd.R_alloc | apply Kd.R_drewN | apply Kd.R_drew)); exact HO177.out⟩, ⟨by repeat (first | (with_reducible first | exact HB.out | apply below_alloc | apply pw_below_drewN | apply below_drew1) | exact HB.out)⟩⟩
         ·
          rw [if_neg c10] at H
          exact absurd H (by simp)
        ·
         rw [if_neg c9] at H
         have c9b0 : decide (0 < (((rd_T42 l0 t172).f2).length : Int)) = false := decide_eq_false c9
         have c9b1 : decide (0 < ((rd_T42 l0 t172).f2).length) = false := decide_eq_false (by omega)
         clear c9
         by_cases c12 : x5_1.length < 35184372088832
         ·
          rw [if_pos c12] at H
          have LMc12 := Aside0.mk c12
          clear c12
          obtain ⟨y179, hy179⟩ : ∃ y_ : List Int, y_ = (x5_1 ++ [rd l1 x6_1]) := ⟨_, rfl⟩
          replace H : (gazetteerref1_Apart.l0 k1 l0 l1 y179 (wrap64 (x6_1 + 1))) = some r := by first | (rw [hy179]; with_reducible exact H) | (have H2_ := (Option.bind_some _ _).symm.trans H; rw [hy179]; with_reducible exact H2_) | (have H2_ := (Option.bind_some _ _).symm.trans H; with_reducible exact H2_) | with_reducible exact H | (rw [hy179]; exact H) | exact H
          have Ny179 := Aside0.mk hy179
          clear hy179
          have H' := Aside0.mk H
          clear H
          have p171 : 0 ≤ (x6_1 : Int) := of_decide_eq_true (by first | (with_reducible assumption) | assumption)
          have q171 : x6_1 < (l1.length : Int) := of_decide_eq_true (by first | (with_reducible assumption) | assumption)
          obtain ⟨ad171, e171, hx171_0⟩ := Kd.at_int HR1.out x6_1 p171 q171
          cases e171
          replace hx171_0 := (HB.out.cell (World.block_lt_of_cell? w _ hx171_0)).trans hx171_0
          replace p171 := eq_true p171
          replace q171 := eq_true q171
          go_wp2_with (first | ((with_reducible refine gate_callee (f := 35) rfl ?_); refine goesL_ (some 19) rfl rfl Try.func35 (by kernel_rfl) rfl #[.slice A0 l0.length c0, .int .i32 (rd l1 x6_1)] rfl (by (try simp only [List.map_toArray, List.map_cons, List.map_nil]); first | done | rfl | (simp only [List.length_drop, List.length_take]; done) | (simp only [List.length_drop, List.length_take]; rfl)) ?_; (with_reducible refine (gazetteerref1_find.calls k1 _ _ l0 (rd l1 x6_1) t172 _ ?side1 ?side2 A5.out).mono ?_); (case side1 => repeat (first | exact (Kd.C_below HR0.out HB.out) | (with_reducible refine Kd.C_alloc ?_ _) | (with_reducible refine Kd.C_drewN ?_ _) | (with_reducible refine Kd.C_drew ?_))); (case side2 => exact HC0.out); rintro e w' ⟨rfl, ⟨nd, rfl⟩⟩; refine ⟨_, rfl, ?_⟩; have p173 : 0 ≤ (t172 : Int) := of_decide_eq_true (by first | (with_reducible assumption) | assumption); have q173 : t172 < (l0.length : Int) := of_decide_eq_true (by first | (with_reducible assumption) | assumption); obtain ⟨ad173, A173_2, c173_2, e173, hx173_0, hx173_1, hx173_2, hl173_2, hi173_2⟩ := at_T42 HR0.out t172 p173 q173; cases e173; replace hx173_0 := (HB.out.cell (World.block_lt_of_cell? w _ hx173_0)).trans hx173_0; replace hx173_1 := (HB.out.cell (World.block_lt_of_cell? w _ hx173_1)).trans hx173_1; replace hx173_2 := (HB.out.cell (World.block_lt_of_cell? w _ hx173_2)).trans hx173_2; have HR173_2 := Aside0.mk hi173_2; have HC173_2 := Aside0.mk hl173_2; clear hi173_2 hl173_2; replace p173 := eq_true p173; replace q173 := eq_true q173; have p178 : 0 ≤ (x6_1 : Int) := of_decide_eq_true (by first | (with_reducible assumption) | assumption); have q178 : x6_1 < (l1.length : Int) := of_decide_eq_true (by first | (with_reducible assumption) | assumption); obtain ⟨ad178, e178, hx178_0⟩ := Kd.at_int HR1.out x6_1 p178 q178; obtain rfl : ad171 = ad178 := (by injection e178); replace hx178_0 := (HB.out.cell (World.block_lt_of_cell? w _ hx178_0)).trans hx178_0; replace p178 := eq_true p178; replace q178 := eq_true q178) | ((with_reducible refine gate_builtin (b := .append) (xs := #[.tmp 38, .tmp 43]) rfl ?_); (try (refine gate_guard (by rfl) ?_; dsimp only)); at_builtin; refine Kd.R_append (Kd.int .i32) (w0 := w) w.heap.size rfl (.tmp 38) (.tmp 43) 26 21 (.int .i32 0) 4 rfl Try.underlying26 info21 rfl (by decide) (by omega) u5 x5_1 (rd l1 x6_1) [.int .i32 (rd l1 x6_1)] (fun _ => True) (fun _ => False) rfl rfl ?aP (fun _ hk => hk.elim) ?aF ?aO ?aB ?aS ?aL ?_; (case aP => exact rfl); (case aB => exact (by repeat (first | (with_reducible first | exact HB.out | apply below_alloc | apply pw_below_drewN | apply below_drew1) | exact HB.out))); (case aF => exact (fun _ _ => trivial)); (case aO => exact (by (with_reducible repeat (first | apply Kd.R_alloc | apply Kd.R_drewN | apply Kd.R_drew)); exact HO_5.out)); (case aS => exact (below_size (by repeat (first | (with_reducible first | exact HB.out | apply below_alloc | apply pw_below_drewN | apply below_drew1) | exact HB.out)))); (case aL => have := LMc12.out; omega); intro v180 w13 ho hb hg hat; rw [← Ny179.out] at ho; have n0_ := Aside0.mk (hb); have n1_ := Aside0.mk (ho); clear HB; clear HO_5; have HB := n0_; have HO181 := n1_; clear n0_ n1_; clear ho hb hg hat))
          go_roundg k1
          case measure => have := HK1.out; omega
          case rel => exact ⟨(y179), (wrap64 (x6_1 + 1)), (by first | rfl | (simp; done) | (simp [*]; done)), H', ⟨by have := HK1.out; omega⟩, ⟨by (with_reducible repeat (first | apply Kd.R_alloc | apply Kd.R_drewN | apply Kd.R_drew)); exact HO181.out⟩, ⟨by repeat (first | (with_reducible first | exact HB.out | apply below_alloc | apply pw_below_drewN | apply below_drew1) | exact HB.out)⟩⟩
         ·
          rw [if_neg c12] at H
          exact absurd H (by simp)
       ·
        rw [if_neg c8] at H
        exact absurd H (by simp)
      ·
       rw [if_neg c7] at H
       exact absurd H (by simp)
     ·
      rw [if_neg c6] at H
      have c6b0 : decide (0 ≤ t172) = false := decide_eq_false c6
      clear c6
      by_cases c14 : x5_1.length < 35184372088832
      ·
       rw [if_pos c14] at H
       have LMc14 := Aside0.mk c14
       clear c14
       obtain ⟨y183, hy183⟩ : ∃ y_ : List Int, y_ = (x5_1 ++ [rd l1 x6_1]) := ⟨_, rfl⟩
       replace H : (gazetteerref1_Apart.l0 k1 l0 l1 y183 (wrap64 (x6_1 + 1))) = some r := by first | (rw [hy183]; with_reducible exact H) | (have H2_ := (Option.bind_some _ _).symm.trans H; rw [hy183]; with_reducible exact H2_) | (have H2_ := (Option.bind_some _ _).symm.trans H; with_reducible exact H2_) | with_reducible exact H | (rw [hy183]; exact H) | exact H
       have Ny183 := Aside0.mk hy183
       clear hy183
       have H' := Aside0.mk H
       clear H
       have p171 : 0 ≤ (x6_1 : Int) := of_decide_eq_true (by first | (with_reducible assumption) | assumption)
       have q171 : x6_1 < (l1.length : Int) := of_decide_eq_true (by first | (with_reducible assumption) | assumption)
       obtain ⟨ad171, e171, hx171_0⟩ := Kd.at_int HR1.out x6_1 p171 q171
       cases e171
       replace hx171_0 := (HB.out.cell (World.block_lt_of_cell? w _ hx171_0)).trans hx171_0
       replace p171 := eq_true p171
       replace q171 := eq_true q171
       go_wp2_with (first | ((with_reducible refine gate_callee (f := 35) rfl ?_); refine goesL_ (some 19) rfl rfl Try.func35 (by kernel_rfl) rfl #[.slice A0 l0.length c0, .int .i32 (rd l1 x6_1)] rfl (by (try simp only [List.map_toArray, List.map_cons, List.map_nil]); first | done | rfl | (simp only [List.length_drop, List.length_take]; done) | (simp only [List.length_drop, List.length_take]; rfl)) ?_; (with_reducible refine (gazetteerref1_find.calls k1 _ _ l0 (rd l1 x6_1) t172 _ ?side1 ?side2 A5.out).mono ?_); (case side1 => repeat (first | exact (Kd.C_below HR0.out HB.out) | (with_reducible refine Kd.C_alloc ?_ _) | (with_reducible refine Kd.C_drewN ?_ _) | (with_reducible refine Kd.C_drew ?_))); (case side2 => exact HC0.out); rintro e w' ⟨rfl, ⟨nd, rfl⟩⟩; refine ⟨_, rfl, ?_⟩; have p182 : 0 ≤ (x6_1 : Int) := of_decide_eq_true (by first | (with_reducible assumption) | assumption); have q182 : x6_1 < (l1.length : Int) := of_decide_eq_true (by first | (with_reducible assumption) | assumption); obtain ⟨ad182, e182, hx182_0⟩ := Kd.at_int HR1.out x6_1 p182 q182; obtain rfl : ad171 = ad182 := (by injection e182); replace hx182_0 := (HB.out.cell (World.block_lt_of_cell? w _ hx182_0)).trans hx182_0; replace p182 := eq_true p182; replace q182 := eq_true q182) | ((with_reducible refine gate_builtin (b := .append) (xs := #[.tmp 38, .tmp 43]) rfl ?_); (try (refine gate_guard (by rfl) ?_; dsimp only)); at_builtin; refine Kd.R_append (Kd.int .i32) (w0 := w) w.heap.size rfl (.tmp 38) (.tmp 43) 26 21 (.int .i32 0) 4 rfl Try.underlying26 info21 rfl (by decide) (by omega) u5 x5_1 (rd l1 x6_1) [.int .i32 (rd l1 x6_1)] (fun _ => True) (fun _ => False) rfl rfl ?aP (fun _ hk => hk.elim) ?aF ?aO ?aB ?aS ?aL ?_; (case aP => exact rfl); (case aB => exact (by repeat (first | (with_reducible first | exact HB.out | apply below_alloc | apply pw_below_drewN | apply below_drew1) | exact HB.out))); (case aF => exact (fun _ _ => trivial)); (case aO => exact (by (with_reducible repeat (first | apply Kd.R_alloc | apply Kd.R_drewN | apply Kd.R_drew)); exact HO_5.out)); (case aS => exact (below_size (by repeat (first | (with_reducible first | exact HB.out | apply below_alloc | apply pw_below_drewN | apply below_drew1) | exact HB.out)))); (case aL => have := LMc14.out; omega); intro v184 w15 ho hb hg hat; rw [← Ny183.out] at ho; have n0_ := Aside0.mk (hb); have n1_ := Aside0.mk (ho); clear HB; clear HO_5; have HB := n0_; have HO185 := n1_; clear n0_ n1_; clear ho hb hg hat))
       go_roundg k1
       case measure => have := HK1.out; omega
       case rel => exact ⟨(y183), (wrap64 (x6_1 + 1)), (by first | rfl | (simp; done) | (simp [*]; done)), H', ⟨by have := HK1.out; omega⟩, ⟨by (with_reducible repeat (first | apply Kd.R_alloc | apply Kd.R_drewN | apply Kd.R_drew)); exact HO185.out⟩, ⟨by repeat (first | (with_reducible first | exact HB.out | apply below_alloc | apply pw_below_drewN | apply below_drew1) | exact HB.out)⟩⟩
      ·
       rw [if_neg c14] at H
       exact absurd H (by simp)
    ·
     rw [if_neg c4] at H
     exact absurd H (by simp)
   ·
    rw [if_neg c3] at H
    have c3b0 : decide (x6_1 < (l1.length : Int)) = false := decide_eq_false c3
    clear c3
    obtain rfl := Option.some.inj H
    go_wp2
    go_ret
    exact ⟨_, by first | rfl | (simp [errW_none, errW_some] <;> rfl) | (simp [*, errW_none, errW_some] <;> rfl), by (with_reducible repeat (first | apply Kd.R_alloc | apply Kd.R_drewN | apply Kd.R_drew)); exact HO_5.out, by repeat (first | (with_reducible first | exact HB.out | apply below_alloc | apply pw_below_drewN | apply below_drew1) | exact HB.out)⟩

/-! ### gazetteerref1_Normal: function 19 -/
def gazetteerref1_Normal.l0 : Nat → List (S42) → List Int → Int → Option (List Int × Int)
 | 0, _, _, _ => none
 | k + 1, x0, x1, x6 => if x6 < (x1.length : Int) then (if 0 ≤ x6 then ((gazetteerref1_May.f (rd x1 x6)).bind fun t188 => (if t188 = true then (gazetteerref1_Normal.l0 k x0 x1 (wrap64 (x6 + 1))) else (some (([] : List Int), 2)))) else (none)) else ((gazetteerref1_Apart.f k x0 x1).bind fun t189 => ((gazetteerref1_Order.f x0 t189).bind fun t192 => (some (t192, 0))))
def gazetteerref1_Normal.f (k : Nat) (l0 : List (S42)) (l1 : List Int) : Option (List Int × Int) := (gazetteerref1_LoreMay.f l0).bind fun t186 => (if t186 = true then (gazetteerref1_Normal.l0 k l0 l1 0) else (some (([] : List Int), 4)))
theorem gazetteerref1_Normal.mono_l : ∀ k, (∀ y0 y1 y2, LeO (gazetteerref1_Normal.l0 k y0 y1 y2) (gazetteerref1_Normal.l0 (k + 1) y0 y1 y2))
 | 0 => fun _ _ _ r h => by simp [gazetteerref1_Normal.l0] at h
 | k + 1 => by
  have ih0 := gazetteerref1_Normal.mono_l k
  ·
   intro y0 y1 y2
   unfold gazetteerref1_Normal.l0
   repeat' first
   | (with_reducible exact ih0 _ _ _)
   | (with_reducible exact gazetteerref1_Apart.mono _ _ _)
   | (with_reducible exact LeO.refl _)
   | (with_reducible exact LeO.none _)
   | (with_reducible refine LeO.ite ?_ ?_)
   | (with_reducible refine LeO.bind ?_ (fun _ => ?_))
   | exact ih0 _ _ _
   | exact gazetteerref1_Apart.mono _ _ _
   | exact LeO.none _
   | refine LeO.ite ?_ ?_
   | refine LeO.bind ?_ (fun _ => ?_)
theorem gazetteerref1_Normal.mono : ∀ a0 a1 k, LeO (gazetteerref1_Normal.f k a0 a1) (gazetteerref1_Normal.f (k + 1) a0 a1) := by
 intro a0 a1 k
 have ih0 := gazetteerref1_Normal.mono_l k
 unfold gazetteerref1_Normal.f
 repeat' first
   | (with_reducible exact ih0 _ _ _)
   | (with_reducible exact gazetteerref1_Apart.mono _ _ _)
   | (with_reducible exact LeO.refl _)
   | (with_reducible exact LeO.none _)
   | (with_reducible refine LeO.ite ?_ ?_)
   | (with_reducible refine LeO.bind ?_ (fun _ => ?_))
   | exact ih0 _ _ _
   | exact gazetteerref1_Apart.mono _ _ _
   | exact LeO.none _
   | refine LeO.ite ?_ ?_
   | refine LeO.bind ?_ (fun _ => ?_)
set_option maxHeartbeats 8000000 in
set_option maxRecDepth 100000 in
theorem gazetteerref1_Normal.calls (k : Nat) (A0 : Option Addr) (c0 : Nat) (l0 : List (S42)) (A1 : Option Addr) (c1 : Nat) (l1 : List Int) (r1 : List Int) (r2 : Int) (w : World) (hr0 : Kd.C k42 w A0 l0.length l0) (hc0 : l0.length ≤ c0) (hr1 : Kd.C (Kd.int .i32) w A1 l1.length l1) (hc1 : l1.length ≤ c1) (h : gazetteerref1_Normal.f k l0 l1 = some (r1, r2)) :
  Calls Try.prog 19 #[.slice A0 l0.length c0, .slice A1 l1.length c1] w fun e w' => ∃ v0_ : Value, e = .returned (.tuple #[v0_, .int .i64 r2]) ∧ Kd.R (Kd.int .i32) 21 w' w.heap.size (fun _ => True) v0_ r1 ∧ Below w.heap.size w w' := by
 have HR0 := Aside0.mk hr0
 have HC0 := Aside0.mk hc0
 clear hr0 hc0
 have HR1 := Aside0.mk hr1
 have HC1 := Aside0.mk hc1
 clear hr1 hc1
 have HB := Aside0.mk (Below.refl w.heap.size w)
 have H : ((gazetteerref1_LoreMay.f l0).bind fun t186 => (if t186 = true then (gazetteerref1_Normal.l0 k l0 l1 0) else (some (([] : List Int), 4)))) = some (r1, r2) := h
 clear h
 replace H := Option.bind_eq_some_iff.mp H
 obtain ⟨t186, A30, H⟩ := H
 replace H : (if t186 = true then (gazetteerref1_Normal.l0 k l0 l1 0) else (some (([] : List Int), 4))) = some (r1, r2) := H
 have A3 := Aside0.mk A30
 clear A30
 by_cases c4 : t186 = true
 ·
  subst c4
  have H1 : (gazetteerref1_Normal.l0 k l0 l1 0) = some (r1, r2) := by rw [if_pos rfl] at H; exact H
  clear H
  have H := H1
  clear H1
  have H' := Aside0.mk H
  clear H
  go_enter Try.func19, Try.ntmps19
  go_wp2_with (first | ((with_reducible refine gate_callee (f := 33) rfl ?_); refine goesL_ (some 8) rfl rfl Try.func33 (by kernel_rfl) rfl #[.slice A0 l0.length c0] rfl (by (try simp only [List.map_toArray, List.map_cons, List.map_nil]); first | done | rfl | (simp only [List.length_drop, List.length_take]; done) | (simp only [List.length_drop, List.length_take]; rfl)) ?_; (with_reducible refine (gazetteerref1_LoreMay.calls _ _ l0 true _ ?side1 ?side2 A3.out).mono ?_); (case side1 => repeat (first | exact HR0.out | (with_reducible refine Kd.C_alloc ?_ _) | (with_reducible refine Kd.C_drewN ?_ _) | (with_reducible refine Kd.C_drew ?_))); (case side2 => exact HC0.out); rintro e w5 ⟨rfl, hb⟩; refine ⟨_, rfl, ?_⟩; have n0_ := Aside0.mk (below_step (by repeat (first | (with_reducible first | exact HB.out | apply below_alloc | apply pw_below_drewN | apply below_drew1) | exact HB.out)) hb); clear HB; have HB := n0_; clear n0_; (try clear hb); (try clear hb2); (try clear hk); (try clear hi)))
  go_loopg [6] k (fun kq v6 w' => ∃ (x6_1 : Int), v6 = .int .i64 x6_1 ∧ Aside0 (gazetteerref1_Normal.l0 kq l0 l1 x6_1 = some (r1, r2)) ∧ Aside0 (kq ≤ k) ∧ Aside0 (Below w.heap.size w w'))
  case atStart => exact ⟨(0), (by first | rfl | (simp; done) | (simp [*]; done)), H', ⟨Nat.le_refl _⟩, ⟨by repeat (first | (with_reducible first | exact HB.out | apply below_alloc | apply pw_below_drewN | apply below_drew1) | exact HB.out)⟩⟩
  case round =>
   clear H'
   try clear c1
   try clear p2
   try clear c3
   try clear c4
   obtain ⟨x6_1, rfl, HA, HK1, HB⟩ := hrel
   cases gk with
   | zero => exact absurd HA.out (by simp [gazetteerref1_Normal.l0])
   | succ k1 =>
    have H := HA.out
    clear HA
    simp only [gazetteerref1_Normal.l0] at H
    by_cases c6 : x6_1 < (l1.length : Int)
    ·
     rw [if_pos c6] at H
     have c6b0 : decide (x6_1 < (l1.length : Int)) = true := decide_eq_true c6
     clear c6
     by_cases c7 : 0 ≤ x6_1
     ·
      rw [if_pos c7] at H
      have c7b0 : decide (0 ≤ x6_1) = true := decide_eq_true c7
      clear c7
      replace H := Option.bind_eq_some_iff.mp H
      obtain ⟨t188, A80, H⟩ := H
      replace H : (if t188 = true then (gazetteerref1_Normal.l0 k1 l0 l1 (wrap64 (x6_1 + 1))) else (some (([] : List Int), 2))) = some (r1, r2) := H
      have A8 := Aside0.mk A80
      clear A80
      by_cases c9 : t188 = true
      ·
       subst c9
       have H1 : (gazetteerref1_Normal.l0 k1 l0 l1 (wrap64 (x6_1 + 1))) = some (r1, r2) := by rw [if_pos rfl] at H; exact H
       clear H
       have H := H1
       clear H1
       have H' := Aside0.mk H
       clear H
       have p187 : 0 ≤ (x6_1 : Int) := of_decide_eq_true (by first | (with_reducible assumption) | assumption)
       have q187 : x6_1 < (l1.length : Int) := of_decide_eq_true (by first | (with_reducible assumption) | assumption)
       obtain ⟨ad187, e187, hx187_0⟩ := Kd.at_int HR1.out x6_1 p187 q187
       cases e187
       replace hx187_0 := (HB.out.cell (World.block_lt_of_cell? w _ hx187_0)).trans hx187_0
       replace p187 := eq_true p187
       replace q187 := eq_true q187
       go_wp2_with (first | ((with_reducible refine gate_callee (f := 20) rfl ?_); refine goesL_ (some 20) rfl rfl Try.func20 (by kernel_rfl) rfl #[.int .i32 (rd l1 x6_1)] rfl (by (try simp only [List.map_toArray, List.map_cons, List.map_nil]); first | done | rfl | (simp only [List.length_drop, List.length_take]; done) | (simp only [List.length_drop, List.length_take]; rfl)) ?_; (with_reducible refine (gazetteerref1_May.calls (rd l1 x6_1) true _ A8.out).mono ?_); rintro e w' ⟨rfl, ⟨nd, rfl⟩⟩; refine ⟨_, rfl, ?_⟩))
       go_roundg k1
       case measure => have := HK1.out; omega
       case rel => exact ⟨(wrap64 (x6_1 + 1)), (by first | rfl | (simp; done) | (simp [*]; done)), H', ⟨by have := HK1.out; omega⟩, ⟨by repeat (first | (with_reducible first | exact HB.out | apply below_alloc | apply pw_below_drewN | apply below_drew1) | exact HB.out)⟩⟩
      ·
       replace c9 := Bool.eq_false_iff.mpr c9
       subst c9
       have H1 : (some (([] : List Int), 2)) = some (r1, r2) := by rw [if_neg (show ¬ (false = true) by decide)] at H; exact H
       clear H
       have H := H1
       clear H1
       simp only [Option.some.injEq, Prod.mk.injEq] at H
       obtain ⟨rfl, rfl⟩ := H
       have p187 : 0 ≤ (x6_1 : Int) := of_decide_eq_true (by first | (with_reducible assumption) | assumption)
       have q187 : x6_1 < (l1.length : Int) := of_decide_eq_true (by first | (with_reducible assumption) | assumption)
       obtain ⟨ad187, e187, hx187_0⟩ := Kd.at_int HR1.out x6_1 p187 q187
       cases e187
       replace hx187_0 := (HB.out.cell (World.block_lt_of_cell? w _ hx187_0)).trans hx187_0
       replace p187 := eq_true p187
       replace q187 := eq_true q187
       go_wp2_with (first | ((with_reducible refine gate_callee (f := 20) rfl ?_); refine goesL_ (some 20) rfl rfl Try.func20 (by kernel_rfl) rfl #[.int .i32 (rd l1 x6_1)] rfl (by (try simp only [List.map_toArray, List.map_cons, List.map_nil]); first | done | rfl | (simp only [List.length_drop, List.length_take]; done) | (simp only [List.length_drop, List.length_take]; rfl)) ?_; (with_reducible refine (gazetteerref1_May.calls (rd l1 x6_1) false _ A8.out).mono ?_); rintro e w' ⟨rfl, ⟨nd, rfl⟩⟩; refine ⟨_, rfl, ?_⟩))
       go_ret2
       exact ⟨_, by first | rfl | (simp [errW_none, errW_some] <;> rfl) | (simp [*, errW_none, errW_some] <;> rfl), by first | exact Kd.R_nil _ _ _ _ _ | exact Kd.N_nil _ _ _ _ _ | exact Kd.V_nil _ _ _ _ _ | exact Kd.Q_nil _ _ _ _ _ | exact Kd.S_nil _ _ _ _ _, by repeat (first | (with_reducible first | exact HB.out | apply below_alloc | apply pw_below_drewN | apply below_drew1) | exact HB.out)⟩
     ·
      rw [if_neg c7] at H
      exact absurd H (by simp)
    ·
     rw [if_neg c6] at H
     have c6b0 : decide (x6_1 < (l1.length : Int)) = false := decide_eq_false c6
     clear c6
     replace H := Option.bind_eq_some_iff.mp H
     obtain ⟨t189, A100, H⟩ := H
     replace H : ((gazetteerref1_Order.f l0 t189).bind fun t192 => (some (t192, 0))) = some (r1, r2) := H
     have A10 := Aside0.mk A100
     clear A100
     replace H := Option.bind_eq_some_iff.mp H
     obtain ⟨t192, A110, H⟩ := H
     replace H : (some (t192, 0)) = some (r1, r2) := H
     have A11 := Aside0.mk A110
     clear A110
     simp only [Option.some.injEq, Prod.mk.injEq] at H
     obtain ⟨rfl, rfl⟩ := H
     go_wp2_with (first | ((with_reducible refine gate_callee (f := 37) rfl ?_); refine goesL_ (some 25) rfl rfl Try.func37 (by kernel_rfl) rfl #[.slice A0 l0.length c0, .slice A1 l1.length c1] rfl (by (try simp only [List.map_toArray, List.map_cons, List.map_nil]); first | done | rfl | (simp only [List.length_drop, List.length_take]; done) | (simp only [List.length_drop, List.length_take]; rfl)) ?_; (with_reducible refine (gazetteerref1_Apart.calls k1 _ _ l0 _ _ l1 t189 _ ?side1 ?side2 ?side3 ?side4 A10.out).mono ?_); (case side1 => repeat (first | exact (Kd.C_below HR0.out HB.out) | (with_reducible refine Kd.C_alloc ?_ _) | (with_reducible refine Kd.C_drewN ?_ _) | (with_reducible refine Kd.C_drew ?_))); (case side2 => exact HC0.out); (case side3 => repeat (first | exact (Kd.C_below HR1.out HB.out) | (with_reducible refine Kd.C_alloc ?_ _) | (with_reducible refine Kd.C_drewN ?_ _) | (with_reducible refine Kd.C_drew ?_))); (case side4 => exact HC1.out); rintro e w12 ⟨v190, rfl, ho0, hb⟩; refine ⟨_, rfl, ?_⟩; have n0_ := Aside0.mk (Kd.R_lower ho0 (below_size (by repeat (first | (with_reducible first | exact HB.out | apply below_alloc | apply pw_below_drewN | apply below_drew1) | exact HB.out)))); have n1_ := Aside0.mk (below_step (by repeat (first | (with_reducible first | exact HB.out | apply below_alloc | apply pw_below_drewN | apply below_drew1) | exact HB.out)) hb); clear HB; have HO191 := n0_; have HB := n1_; clear n0_ n1_; (try clear hb); (try clear hb2); (try clear hk); (try clear hi); (try clear ho0); obtain ⟨Ao13, co13, eo13⟩ := Kd.R_slice HO191.out; subst eo13) | ((with_reducible refine gate_callee (f := 36) rfl ?_); refine goesL_ (some 26) rfl rfl Try.func36 (by kernel_rfl) rfl #[.slice A0 l0.length c0, .slice Ao13 t189.length co13] rfl (by (try simp only [List.map_toArray, List.map_cons, List.map_nil]); first | done | rfl | (simp only [List.length_drop, List.length_take]; done) | (simp only [List.length_drop, List.length_take]; rfl)) ?_; (with_reducible refine (gazetteerref1_Order.calls _ _ l0 _ _ t189 t192 _ ?side1 ?side2 ?side3 ?side4 A11.out).mono ?_); (case side1 => repeat (first | exact (Kd.C_below HR0.out HB.out) | (with_reducible refine Kd.C_alloc ?_ _) | (with_reducible refine Kd.C_drewN ?_ _) | (with_reducible refine Kd.C_drew ?_))); (case side2 => exact HC0.out); (case side3 => repeat (first | exact (Kd.R_reads' HO191.out).2.2 | (with_reducible refine Kd.C_alloc ?_ _) | (with_reducible refine Kd.C_drewN ?_ _) | (with_reducible refine Kd.C_drew ?_))); (case side4 => exact (Kd.R_reads' HO191.out).2.1); rintro e w14 ⟨v193, rfl, ho0, hb⟩; refine ⟨_, rfl, ?_⟩; have n0_ := Aside0.mk (Kd.R_elder' (by (with_reducible repeat (first | apply Kd.R_alloc | apply Kd.R_drewN | apply Kd.R_drew)); exact HO191.out) (Kd.R_base ho0) hb); have n1_ := Aside0.mk (Kd.R_lower (Kd.R_new' ho0 (Kd.R_lt (by (with_reducible repeat (first | apply Kd.R_alloc | apply Kd.R_drewN | apply Kd.R_drew)); exact HO191.out))) (below_size (by repeat (first | (with_reducible first | exact HB.out | apply below_alloc | apply pw_below_drewN | apply below_drew1) | exact HB.out)))); have n2_ := Aside0.mk (below_step (by repeat (first | (with_reducible first | exact HB.out | apply below_alloc | apply pw_below_drewN | apply below_drew1) | exact HB.out)) hb); clear HO191; clear HB; have HO191 := n0_; have HO194 := n1_; have HB := n2_; clear n0_ n1_ n2_; (try clear hb); (try clear hb2); (try clear hk); (try clear hi); (try clear ho0)))
     go_ret2
     exact ⟨_, by first | rfl | (simp [errW_none, errW_some] <;> rfl) | (simp [*, errW_none, errW_some] <;> rfl), by (with_reducible repeat (first | apply Kd.R_alloc | apply Kd.R_drewN | apply Kd.R_drew)); exact Kd.R_mono HO194.out (fun _ hk => trivial), by repeat (first | (with_reducible first | exact HB.out | apply below_alloc | apply pw_below_drewN | apply below_drew1) | exact HB.out)⟩
 ·
  replace c4 := Bool.eq_false_iff.mpr c4
  subst c4
  have H1 : (some (([] : List Int), 4)) = some (r1, r2) := by rw [if_neg (show ¬ (false = true) by decide)] at H; exact H
  clear H
  have H := H1
  clear H1
  simp only [Option.some.injEq, Prod.mk.injEq] at H
  obtain ⟨rfl, rfl⟩ := H
  go_enter Try.func19, Try.ntmps19
  go_wp2_with (first | ((with_reducible refine gate_callee (f := 33) rfl ?_); refine goesL_ (some 8) rfl rfl Try.func33 (by kernel_rfl) rfl #[.slice A0 l0.length c0] rfl (by (try simp only [List.map_toArray, List.map_cons, List.map_nil]); first | done | rfl | (simp only [List.length_drop, List.length_take]; done) | (simp only [List.length_drop, List.length_take]; rfl)) ?_; (with_reducible refine (gazetteerref1_LoreMay.calls _ _ l0 false _ ?side1 ?side2 A3.out).mono ?_); (case side1 => repeat (first | exact HR0.out | (with_reducible refine Kd.C_alloc ?_ _) | (with_reducible refine Kd.C_drewN ?_ _) | (with_reducible refine Kd.C_drew ?_))); (case side2 => exact HC0.out); rintro e w15 ⟨rfl, hb⟩; refine ⟨_, rfl, ?_⟩; have n0_ := Aside0.mk (below_step (by repeat (first | (with_reducible first | exact HB.out | apply below_alloc | apply pw_below_drewN | apply below_drew1) | exact HB.out)) hb); clear HB; have HB := n0_; clear n0_; (try clear hb); (try clear hb2); (try clear hk); (try clear hi)))
  go_ret2
  exact ⟨_, by first | rfl | (simp [errW_none, errW_some] <;> rfl) | (simp [*, errW_none, errW_some] <;> rfl), by first | exact Kd.R_nil _ _ _ _ _ | exact Kd.N_nil _ _ _ _ _ | exact Kd.V_nil _ _ _ _ _ | exact Kd.Q_nil _ _ _ _ _ | exact Kd.S_nil _ _ _ _ _, by repeat (first | (with_reducible first | exact HB.out | apply below_alloc | apply pw_below_drewN | apply below_drew1) | exact HB.out)⟩

end Go.Proofs.Ytfagobhhhljajaa.PWeighNormal

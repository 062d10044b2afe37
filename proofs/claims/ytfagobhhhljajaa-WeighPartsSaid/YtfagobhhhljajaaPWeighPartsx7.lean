-- printed by a program of this session (wip/tools), a turned form of the kit's print
import Derived.Test.YtfagobhhhljajaaPWeighPartsx0
import Derived.Test.YtfagobhhhljajaaPWeighPartsx2
import Derived.Test.YtfagobhhhljajaaPWeighPartsx3
import Derived.Test.YtfagobhhhljajaaPWeighPartsx5
import Derived.Test.YtfagobhhhljajaaPWeighPartsx6
namespace Go.Proofs.Ytfagobhhhljajaa.PWeighParts
open Go.RowKit Go.Proofs.YtfagobhhhljajaaW.PrintWords Go.Proofs.YtfagobhhhljajaaW.PrintLast Go.Proofs.YtfagobhhhljajaaW.PrintMore
attribute [local go_sem] max2_int min2_int max_two min_two max_three min_three max_four min_four max2_str min2_str str_geq str_leq str_gtr   -- for this text's walks alone
set_option linter.unusedVariables false
set_option linter.unusedSimpArgs false

/-! ### weigh_Elements: function 11 -/
/-- The longest row of at most so many runes. -/
def longN (rows : List S44) (s : List Int) : Nat → Option S44
 | 0 => none
 | n + 1 => match rowFor rows (s.take (n + 1)) with
  | some x => some x
  | none => longN rows s n
/-- The longest row at a text's beginning. -/
def longestR (rows : List S44) (s : List Int) : Option S44 := longN rows s (min 3 s.length)
/-- A row made longer by marks behind it, and what is left of the text. -/
def longerR (cls : Int → Int) (rows : List S44) : S44 → Int → List Int → List Int → S44 × List Int
 | x, _, left, [] => (x, left)
 | x, over, left, r :: t => if cls r = 0 then (x, left ++ r :: t) else
  match rowFor rows (x.f0 ++ [r]) with
  | some y => if over < cls r then longerR cls rows y over left t else longerR cls rows x (max over (cls r)) (left ++ [r]) t
  | none => longerR cls rows x (max over (cls r)) (left ++ [r]) t
/-- The elements of a rune that is in no row. -/
def impliedL (r : Int) : List S39 := [⟨wrap64 (64000 + (wrap64 (wrap32 (Int.tdiv r 3999)))), 32, 2⟩, ⟨wrap64 (60001 + (wrap64 (Int.tmod r 3999))), 0, 0⟩]
/-- The elements of runes; the number bounds the rounds. -/
def elemsN (cls : Int → Int) (rows : List S44) : Nat → List Int → List S39
 | 0, _ => []
 | _ + 1, [] => []
 | k + 1, r :: t => match longestR rows (r :: t) with
  | none => impliedL r ++ elemsN cls rows k t
  | some x => (longerR cls rows x 0 [] ((r :: t).drop x.f0.length)).1.f1 ++ elemsN cls rows k (longerR cls rows x 0 [] ((r :: t).drop x.f0.length)).2
def weigh_Elements.f (l0_0 : List S42) (l0_1 : List S44) (a0_2 : Int) (a0_3 : Bool) (l1 : List Int) : Option (List S39 × Int) := (weigh_May.f l0_0 l0_1 a0_2 a0_3).bind fun m => if m = true then ((lore_Normal.f l0_0 l1).bind fun p => if p.2 = 0 then (if p.1.length ≤ 1000000000 then some (elemsN (fun r => (rowOf l0_0 r).f1) l0_1 p.1.length p.1, 0) else none) else some ([], p.2)) else some ([], 4)
open Go.Proofs.YtfagobhhhljajaaW.PrintReg
set_option maxHeartbeats 4000000 in
set_option maxRecDepth 100000 in
theorem longest_any (A0 : Option Addr) (c0 n0 : Nat) (top : Int) (sh : Bool) (A1 : Option Addr) (c1 : Nat) (rows : List S44) (A : Option Addr) (c : Nat) (s : List Int) (wb w : World) (hwb : Below wb.heap.size wb w) (hr : Kd.C k44 wb A1 rows.length rows) (hl : rows.length ≤ 1000000) (hf : ∀ x ∈ rows, x.f0.length ≤ 4611686018427387904) (h2 : Kd.C (Kd.int .i32) w A s.length s) (k2 : s.length ≤ c) (hris : Ris rows) (hsl : s.length ≤ 4611686018427387904) :
  Calls Try.prog 23 #[.agg #[.slice A0 n0 c0, .slice A1 rows.length c1, .int .i64 top, .bool sh], .slice A s.length c] w
   fun e w' => ∃ (A5 : Option Addr) (c5 : Nat) (A6 : Option Addr) (c6 : Nat), e = .returned (.tuple #[.agg #[.slice A5 ((longestR rows s).getD z44).f0.length c5, .slice A6 ((longestR rows s).getD z44).f1.length c6], .bool (longestR rows s).isSome]) ∧ RowV wb ((longestR rows s).getD z44) A5 c5 A6 c6 ∧ Below w.heap.size w w' := by
 obtain ⟨n, hn⟩ : ∃ n, n = rows.length := ⟨_, rfl⟩
 obtain ⟨l, hll⟩ : ∃ l, l = s.length := ⟨_, rfl⟩
 obtain ⟨W, hW⟩ : ∃ W, W = (w.alloc (.cells #[.slice A0 n0 c0, .slice A1 n c1, .int .i64 top, .bool sh] 25)).alloc (.cells #[.slice none 0 0, .slice none 0 0] 44) := ⟨_, rfl⟩
 have hB : Below w.heap.size w W := by subst hW; exact below_alloc (below_alloc (Below.refl _ _) _) _
 have g0 : W.heap[w.heap.size + 1]? = some (.cells #[.slice none 0 0, .slice none 0 0] 44 (0, 0)) := by subst hW; simpa using heap_alloc_new (w.alloc _) _
 have t0 : W.heap[w.heap.size]? = some (.cells #[.slice A0 n0 c0, .slice A1 n c1, .int .i64 top, .bool sh] 25 (0, 0)) := by subst hW; exact blk_alloc (by simpa using heap_alloc_new w _) _
 have FF := Aside0.mk (fun (u : List Int) (au : Option Addr) (cu : Nat) (W' : World) (hb : Below W.heap.size W W') (hu : Kd.C (Kd.int .i32) W' au u.length u) (hcu : u.length ≤ cu) => fun A5 c5 A6 c6 hpl => findr_any A0 c0 n0 top sh A1 c1 rows au cu u wb W' (below_step (below_step hwb hB) hb) hr hl hf hu hcu hris A5 c5 A6 c6 hpl)
 have FP := Aside0.mk (fun u => row_place A1 rows u wb hr hris)
 rw [← hn] at FF
 rw [← hn, ← hll]
 have HB := Aside0.mk hB
 have G0 := Aside0.mk g0
 have T0 := Aside0.mk t0
 have H2 := Aside0.mk (And.intro h2 k2)
 have HLL := Aside0.mk hll
 have HNN := Aside0.mk hn
 have HLB := Aside0.mk (show l ≤ 4611686018427387904 by rw [hll]; exact hsl)
 clear hr hwb hris hf h2 k2 hB g0 hl hn t0 hll hsl
 rcases Nat.lt_or_ge l 3 with h3 | h3
 ·
  have m1 : ((l : Int) < 3) = True := eq_true (by omega)
  have m2 : ((3 : Int) ≤ (l : Int)) = False := eq_false (by omega)
  have m3 : ((3 : Int) < (l : Int)) = False := eq_false (by omega)
  have m4 : ((l : Int) ≤ 3) = True := eq_true (by omega)
  have H3 : Aside0 (l ≤ l) := ⟨Nat.le_refl _⟩
  have HLR : Aside0 (longestR rows s = longN rows s l) := ⟨by unfold longestR; rw [← HLL.out, show min 3 l = l by omega]⟩
  clear h3
  go_enter Try.func23, Try.ntmps23
  go_wp2_with fail
  rw [← hW]
  obtain ⟨v11, hv11⟩ : ∃ v11, v11 = Value.int .i64 (l : Int) := ⟨_, rfl⟩
  rw [← hv11]
  have HV11 := Aside0.mk hv11
  clear hW m1 m2 m3 m4 hv11
  go_loopw [6] (fun v wq => ∃ m : Nat, v = .int .i64 (m : Int) ∧ Aside0 (m ≤ l ∧ longestR rows s = longN rows s m) ∧ Aside0 (Below W.heap.size W wq)) (fun v _ => (intOf v).toNat)
  case atStart => exact ⟨l, HV11.out, ⟨Nat.le_refl _, HLR.out⟩, ⟨Below.refl _ _⟩⟩
  case round =>
   obtain ⟨m, rfl, HM, HBR⟩ := hrel
   by_cases hm : 0 < m
   ·
    have r1 : ((0 : Int) < (m : Int)) = True := eq_true (by omega)
    have r2 : (0 < m) = True := eq_true hm
    obtain ⟨m1, hm1⟩ : ∃ m1, m1 + 1 = m := ⟨m - 1, by omega⟩
    have HM1 := Aside0.mk hm1
    have hml : m ≤ l := by have := HM.out.1; have := H3.out; omega
    obtain ⟨a3, e3, _⟩ := Kd.at_int H2.out.1 0 (by omega) (by have := HLL.out; omega)
    subst e3
    have htl : (s.take m).length = m := by rw [List.length_take]; have := HLL.out; omega
    obtain ⟨A5, c5, A6, c6, hv, hpl⟩ := FP.out (s.take m)
    have HV := Aside0.mk hv
    have TX := Aside0.mk (blk_below T0.out HBR.out)
    have FFD := Aside0.mk (fun (W' : World) (hb : Below wr.heap.size wr W') => FF.out (s.take m) (some a3) c W' (below_step HBR.out hb) (Kd.C_take (Kd.C_below H2.out.1 (below_step (below_step HB.out HBR.out) hb)) (by have := HLL.out; omega)) (by rw [htl]; have := H2.out.2; have := HLL.out; omega) A5 c5 A6 c6 (by have h := hpl; rw [← HNN.out] at h; exact h))
    rw [htl] at FFD
    have HS1 : Aside0 (((0 : Int) ≤ (m : Int)) = True ∧ ((m : Int) ≤ (c : Int)) = True ∧ (m ≤ c) = True ∧ (0 ≤ m) = True) := ⟨eq_true (by omega), eq_true (by have := H2.out.2; have := HLL.out; omega), eq_true (by have := H2.out.2; have := HLL.out; omega), eq_true (Nat.zero_le _)⟩
    have HMW := Aside0.mk (show wrap64 ((m : Int) - 1) = (m1 : Int) by have := HLB.out; unfold wrap64; omega)
    obtain ⟨Y, hY⟩ : ∃ Y, Y = (rowFor rows (s.take m)).getD z44 := ⟨_, rfl⟩
    rw [← hY] at FFD HV
    have hlong : longestR rows s = match rowFor rows (s.take m) with | some x => some x | none => longN rows s m1 := by rw [HM.out.2, ← hm1]; rfl
    clear hm hml htl hv hpl hm1
    go_wp2_with fail
    cases hib : rowFor rows (s.take m) with
    | none =>
     rw [hib] at hlong FFD
     have HLT := Aside0.mk hlong
     clear hib hlong hY r1 r2
     refine wp_reg 11 rfl rfl (by kernel_rfl) (fun z => .agg #[.slice A0 n0 c0, .slice A1 n c1, .int .i64 top, .bool sh] :: .slice (some a3) l c :: .pointer (some ⟨w.heap.size, 0, none⟩) :: undef :: .pointer (some ⟨w.heap.size + 1, 0, none⟩) :: u5 :: .int .i64 (m : Int) :: z 7 :: z 8 :: .slice (some a3) l c :: v11 :: v11 :: .int .i64 (m : Int) :: .bool true :: u14 :: u15 :: z 16 :: z 17 :: z 18 :: z 19 :: z 20 :: z 21 :: z 22 :: z 23 :: u24 :: u25 :: undef :: []) (fun (gg : Nat) => [(0, 17, .agg #[.slice A0 n0 c0, .slice A1 n c1, .int .i64 top, .bool sh]), (1, 18, .slice (some a3) l c), (2, 19, .int .i64 (m : Int)), (3, 20, .slice (some a3) m c), (4, 21, .tuple #[.agg #[.slice A5 Y.f0.length c5, .slice A6 Y.f1.length c6], .bool false]), (5, 16, .tuple #[.agg #[.slice A5 Y.f0.length c5, .slice A6 Y.f1.length c6], .bool false]), (6, 22, .agg #[.slice A5 Y.f0.length c5, .slice A6 Y.f1.length c6]), (7, 23, .bool false), (8, 7, .pointer (some ⟨gg, 0, none⟩)), (10, 8, .bool false)]) (fun LL gg z wx => Aside0 (Below wr.heap.size wr wx) ∧ Aside0 (LL 8 = true → RowAt wr.heap.size wx gg (LL 9) #[.slice A5 Y.f0.length c5, .slice A6 Y.f1.length c6] #[.slice none 0 0, .slice none 0 0] 44) ∧ Aside0 (LL 9 = true → LL 6 = true ∧ LL 8 = true)) 0 (zz [(7, u7), (8, u8), (16, u16), (17, u17), (18, u18), (19, u19), (20, u20), (21, u21), (22, u22), (23, u23)]) rfl rfl ⟨⟨below_drew (Below.refl _ _)⟩, ⟨fun h => absurd h (by decide)⟩, ⟨fun h => absurd h (by decide)⟩⟩ ?_ ?_
     ·
      refine Steps.cons ?_ (Steps.cons ?_ (Steps.cons ?_ (Steps.cons ?_ (Steps.cons ?_ (Steps.cons ?_ (Steps.cons ?_ (Steps.cons ?_ (Steps.cons ?_ (Steps.cons ?_ (Steps.cons ?_ (Steps.nil)))))))))))
      ·
       refine V0 0 (h := fun LL gg z wx hl hLk  K hK => ?_)
       obtain ⟨⟨hb, h9, z10⟩⟩ := hl
       have q0_T : wx.cell? ⟨w.heap.size, 0, none⟩ = some (.slice A0 n0 c0) := (blk_cell (blk_below TX.out hb.out) 0).trans rfl
       have q1_T : wx.cell? ⟨w.heap.size, 1, none⟩ = some (.slice A1 n c1) := (blk_cell (blk_below TX.out hb.out) 1).trans rfl
       have q2_T : wx.cell? ⟨w.heap.size, 2, none⟩ = some (.int .i64 top) := (blk_cell (blk_below TX.out hb.out) 2).trans rfl
       have q3_T : wx.cell? ⟨w.heap.size, 3, none⟩ = some (.bool sh) := (blk_cell (blk_below TX.out hb.out) 3).trans rfl
       dsimp only [FA]
       refine wantd (by rfl) ?_
       go_simp
       exact hK.out
      ·
       exact V0 1
      ·
       exact V0 2
      ·
       refine V2 3 1 2 (h := fun LL gg z wx hl hLk e1 e2 K hK => ?_)
       obtain ⟨⟨hb, h9, z10⟩⟩ := hl
       have hs1 := HS1.out.1
       have hs2 := HS1.out.2.1
       have hs3 := HS1.out.2.2.1
       have hs4 := HS1.out.2.2.2
       dsimp only [FA]
       refine wantd (by rfl) ?_
       go_simp
       exact hK.out
      ·
       refine CD 4 (fun _ => rfl) (fun _ => rfl) fun LL gg z wx hl hLk hd hI K hK => ?_
       obtain ⟨⟨hb, h9, z10⟩⟩ := hl
       have e0 := hI.at 0 rfl (hd 0 rfl)
       have e3 := hI.at 3 rfl (hd 3 rfl)
       dsimp only [FA]
       refine wantd (by rfl) ?_
       go_simp
       refine (FFD.out wx hb.out).mono ?_
       rintro e w' ⟨rfl, hb1⟩
       exact hK gg _ _ (sm2 e0 e3) rfl rfl ⟨⟨below_step hb.out hb1⟩, ⟨fun h => (h9.out h).below hb1⟩, z10⟩
      ·
       exact V1 5 4
      ·
       exact V1 6 5 (hT := fun _ => rfl) (hR := fun LL gg z wx hLk hd ⟨hb, h9, z10⟩ => ⟨hb, h9, ⟨fun h => ⟨upd_old (z10.out h).1, upd_old (z10.out h).2⟩⟩⟩)
      ·
       exact V1 7 5
      ·
       refine CD 8 (fun _ => rfl) (fun _ => rfl) fun LL gg z wx hl hLk hd hI K hK => ?_
       obtain ⟨⟨hb, h9, z10⟩⟩ := hl
       dsimp only [FA]
       refine wantd (by rfl) ?_
       go_simp
       exact hK wx.heap.size _ _ rfl rfl rfl ⟨⟨below_alloc hb.out _⟩, ⟨fun _ => RowAt.new _ _ _ (flag_off (fun h => (z10.out h).2) hLk) hb.out.size⟩, ⟨fun h => ⟨upd_old (z10.out h).1, upd_old (z10.out h).2⟩⟩⟩
      ·
       refine CS (fun _ => rfl) fun LL gg z wx hl hLk hd hI K hK => ?_
       obtain ⟨⟨hb, h9, z10⟩⟩ := hl
       have e8 := hI.at 8 rfl (hd 8 rfl)
       have e6 := hI.at 6 rfl (hd 6 rfl)
       have r := h9.out (hd 8 rfl)
       have rv := r.void hLk
       have f0 := blk_frozen rv 0
       have f1 := blk_frozen rv 1
       have c0_ := blk_cell rv 0
       have c1_ := blk_cell rv 1
       dsimp only [FA]
       refine wantd (by rfl) ?_
       go_simp
       exact hK _ _ (sm2 e8 e6) ⟨⟨below_set (below_set hb.out r.1) r.1⟩, ⟨fun _ => ⟨r.1, blk_put2 rv _ _⟩⟩, ⟨fun _ => ⟨hd 6 rfl, hd 8 rfl⟩⟩⟩
      ·
       exact V1 9 7
     ·
      intro LL g7 z wc hall hI hl
      obtain ⟨⟨hb, h9, z10⟩⟩ := hl
      have e8 := hI.at 8 rfl (hall 8 (by decide))
      have e10 := hI.at 9 rfl (hall 10 (by decide))
      dsimp only [FA] at ⊢
      rw [e10, e8]
      have HBC := hb
      have HG7 := Aside0.mk ((h9.out (hall 8 (by decide))).full (hall 9 (by decide)))
      clear hI hb h9 z10 e10 e8 hall
      have HBE := Aside0.mk (below_step HBR.out HBC.out)
      go_wp2_with fail
      go_roundw
      case rel => exact ⟨m1, by rw [HMW.out], ⟨by have := HM.out.1; have := HM1.out; omega, HLT.out⟩, HBE⟩
      case measure => rw [HMW.out]; simp only [intOf]; have := HM1.out; omega
    | some x =>
     rw [hib] at hlong FFD hY
     obtain rfl : Y = x := hY
     have HLT := Aside0.mk hlong
     clear hib hlong r1 r2
     refine wp_reg 11 rfl rfl (by kernel_rfl) (fun z => .agg #[.slice A0 n0 c0, .slice A1 n c1, .int .i64 top, .bool sh] :: .slice (some a3) l c :: .pointer (some ⟨w.heap.size, 0, none⟩) :: undef :: .pointer (some ⟨w.heap.size + 1, 0, none⟩) :: u5 :: .int .i64 (m : Int) :: z 7 :: z 8 :: .slice (some a3) l c :: v11 :: v11 :: .int .i64 (m : Int) :: .bool true :: u14 :: u15 :: z 16 :: z 17 :: z 18 :: z 19 :: z 20 :: z 21 :: z 22 :: z 23 :: u24 :: u25 :: undef :: []) (fun (gg : Nat) => [(0, 17, .agg #[.slice A0 n0 c0, .slice A1 n c1, .int .i64 top, .bool sh]), (1, 18, .slice (some a3) l c), (2, 19, .int .i64 (m : Int)), (3, 20, .slice (some a3) m c), (4, 21, .tuple #[.agg #[.slice A5 Y.f0.length c5, .slice A6 Y.f1.length c6], .bool true]), (5, 16, .tuple #[.agg #[.slice A5 Y.f0.length c5, .slice A6 Y.f1.length c6], .bool true]), (6, 22, .agg #[.slice A5 Y.f0.length c5, .slice A6 Y.f1.length c6]), (7, 23, .bool true), (8, 7, .pointer (some ⟨gg, 0, none⟩)), (10, 8, .bool true)]) (fun LL gg z wx => Aside0 (Below wr.heap.size wr wx) ∧ Aside0 (LL 8 = true → RowAt wr.heap.size wx gg (LL 9) #[.slice A5 Y.f0.length c5, .slice A6 Y.f1.length c6] #[.slice none 0 0, .slice none 0 0] 44) ∧ Aside0 (LL 9 = true → LL 6 = true ∧ LL 8 = true)) 0 (zz [(7, u7), (8, u8), (16, u16), (17, u17), (18, u18), (19, u19), (20, u20), (21, u21), (22, u22), (23, u23)]) rfl rfl ⟨⟨below_drew (Below.refl _ _)⟩, ⟨fun h => absurd h (by decide)⟩, ⟨fun h => absurd h (by decide)⟩⟩ ?_ ?_
     ·
      refine Steps.cons ?_ (Steps.cons ?_ (Steps.cons ?_ (Steps.cons ?_ (Steps.cons ?_ (Steps.cons ?_ (Steps.cons ?_ (Steps.cons ?_ (Steps.cons ?_ (Steps.cons ?_ (Steps.cons ?_ (Steps.nil)))))))))))
      ·
       refine V0 0 (h := fun LL gg z wx hl hLk  K hK => ?_)
       obtain ⟨⟨hb, h9, z10⟩⟩ := hl
       have q0_T : wx.cell? ⟨w.heap.size, 0, none⟩ = some (.slice A0 n0 c0) := (blk_cell (blk_below TX.out hb.out) 0).trans rfl
       have q1_T : wx.cell? ⟨w.heap.size, 1, none⟩ = some (.slice A1 n c1) := (blk_cell (blk_below TX.out hb.out) 1).trans rfl
       have q2_T : wx.cell? ⟨w.heap.size, 2, none⟩ = some (.int .i64 top) := (blk_cell (blk_below TX.out hb.out) 2).trans rfl
       have q3_T : wx.cell? ⟨w.heap.size, 3, none⟩ = some (.bool sh) := (blk_cell (blk_below TX.out hb.out) 3).trans rfl
       dsimp only [FA]
       refine wantd (by rfl) ?_
       go_simp
       exact hK.out
      ·
       exact V0 1
      ·
       exact V0 2
      ·
       refine V2 3 1 2 (h := fun LL gg z wx hl hLk e1 e2 K hK => ?_)
       obtain ⟨⟨hb, h9, z10⟩⟩ := hl
       have hs1 := HS1.out.1
       have hs2 := HS1.out.2.1
       have hs3 := HS1.out.2.2.1
       have hs4 := HS1.out.2.2.2
       dsimp only [FA]
       refine wantd (by rfl) ?_
       go_simp
       exact hK.out
      ·
       refine CD 4 (fun _ => rfl) (fun _ => rfl) fun LL gg z wx hl hLk hd hI K hK => ?_
       obtain ⟨⟨hb, h9, z10⟩⟩ := hl
       have e0 := hI.at 0 rfl (hd 0 rfl)
       have e3 := hI.at 3 rfl (hd 3 rfl)
       dsimp only [FA]
       refine wantd (by rfl) ?_
       go_simp
       refine (FFD.out wx hb.out).mono ?_
       rintro e w' ⟨rfl, hb1⟩
       exact hK gg _ _ (sm2 e0 e3) rfl rfl ⟨⟨below_step hb.out hb1⟩, ⟨fun h => (h9.out h).below hb1⟩, z10⟩
      ·
       exact V1 5 4
      ·
       exact V1 6 5 (hT := fun _ => rfl) (hR := fun LL gg z wx hLk hd ⟨hb, h9, z10⟩ => ⟨hb, h9, ⟨fun h => ⟨upd_old (z10.out h).1, upd_old (z10.out h).2⟩⟩⟩)
      ·
       exact V1 7 5
      ·
       refine CD 8 (fun _ => rfl) (fun _ => rfl) fun LL gg z wx hl hLk hd hI K hK => ?_
       obtain ⟨⟨hb, h9, z10⟩⟩ := hl
       dsimp only [FA]
       refine wantd (by rfl) ?_
       go_simp
       exact hK wx.heap.size _ _ rfl rfl rfl ⟨⟨below_alloc hb.out _⟩, ⟨fun _ => RowAt.new _ _ _ (flag_off (fun h => (z10.out h).2) hLk) hb.out.size⟩, ⟨fun h => ⟨upd_old (z10.out h).1, upd_old (z10.out h).2⟩⟩⟩
      ·
       refine CS (fun _ => rfl) fun LL gg z wx hl hLk hd hI K hK => ?_
       obtain ⟨⟨hb, h9, z10⟩⟩ := hl
       have e8 := hI.at 8 rfl (hd 8 rfl)
       have e6 := hI.at 6 rfl (hd 6 rfl)
       have r := h9.out (hd 8 rfl)
       have rv := r.void hLk
       have f0 := blk_frozen rv 0
       have f1 := blk_frozen rv 1
       have c0_ := blk_cell rv 0
       have c1_ := blk_cell rv 1
       dsimp only [FA]
       refine wantd (by rfl) ?_
       go_simp
       exact hK _ _ (sm2 e8 e6) ⟨⟨below_set (below_set hb.out r.1) r.1⟩, ⟨fun _ => ⟨r.1, blk_put2 rv _ _⟩⟩, ⟨fun _ => ⟨hd 6 rfl, hd 8 rfl⟩⟩⟩
      ·
       exact V1 9 7
     ·
      intro LL g7 z wc hall hI hl
      obtain ⟨⟨hb, h9, z10⟩⟩ := hl
      have e8 := hI.at 8 rfl (hall 8 (by decide))
      have e10 := hI.at 9 rfl (hall 10 (by decide))
      dsimp only [FA] at ⊢
      rw [e10, e8]
      have HBC := hb
      have HG7 := Aside0.mk ((h9.out (hall 8 (by decide))).full (hall 9 (by decide)))
      clear hI hb h9 z10 e10 e8 hall
      have g1 := blk_below G0.out (below_step HBR.out HBC.out)
      have BK := Aside0.mk g1
      have f0 := blk_frozen g1 0
      have f1 := blk_frozen g1 1
      have x0 := blk_cell g1 0
      have x1 := blk_cell g1 1
      have y0 : wc.cell? ⟨g7, 0, none⟩ = some (.slice A5 Y.f0.length c5) := (blk_cell HG7.out 0).trans rfl
      have y1 : wc.cell? ⟨g7, 1, none⟩ = some (.slice A6 Y.f1.length c6) := (blk_cell HG7.out 1).trans rfl
      have HBE := Aside0.mk (below_step HB.out (below_step HBR.out HBC.out))
      clear g1
      go_wp2_with fail
      have hB2 := below_set2 HBE.out (Nat.le_succ _) (.slice A5 Y.f0.length c5) (.slice A6 Y.f1.length c6)
      refine bodyPost_ret (results_ct rfl _ _ (w.heap.size + 1) 44 #[.slice A5 Y.f0.length c5, .slice A6 Y.f1.length c6] (0, 0) _ rfl (blk_put2 BK.out _ _) Try.underlying44 rfl (by kernel_rfl)) rfl ?_
      rw [HLT.out]
      exact ⟨A5, c5, A6, c6, rfl, HV.out, hB2⟩
   ·
    have r1 : ((0 : Int) < (m : Int)) = False := eq_false (by omega)
    have r2 : (0 < m) = False := eq_false hm
    have HLT : Aside0 (longestR rows s = none) := ⟨by rw [HM.out.2, show m = 0 by omega]; rfl⟩
    have g1 := blk_below G0.out HBR.out
    have BK := Aside0.mk g1
    have f0 := blk_frozen g1 0
    have f1 := blk_frozen g1 1
    have x0 := blk_cell g1 0
    have x1 := blk_cell g1 1
    have HBE := Aside0.mk (below_step HB.out HBR.out)
    clear hm g1
    go_wp2_with fail
    have hB2 := below_set2 HBE.out (Nat.le_succ _) (.slice none 0 0) (.slice none 0 0)
    refine bodyPost_ret (results_ct rfl _ _ (w.heap.size + 1) 44 #[.slice none 0 0, .slice none 0 0] (0, 0) _ rfl (blk_put2 BK.out _ _) Try.underlying44 rfl (by kernel_rfl)) rfl ?_
    rw [HLT.out]
    exact ⟨none, 0, none, 0, rfl, RowV.none _, hB2⟩
 ·
  have m1 : ((l : Int) < 3) = False := eq_false (by omega)
  have m2 : ((3 : Int) ≤ (l : Int)) = True := eq_true (by omega)
  have H3 : Aside0 (3 ≤ l) := ⟨h3⟩
  have HLR : Aside0 (longestR rows s = longN rows s 3) := ⟨by unfold longestR; rw [← HLL.out, show min 3 l = 3 by omega]⟩
  clear h3
  go_enter Try.func23, Try.ntmps23
  go_wp2_with fail
  rw [← hW]
  obtain ⟨v11, hv11⟩ : ∃ v11, v11 = Value.int .i64 3 := ⟨_, rfl⟩
  rw [← hv11]
  have HV11 : Aside0 (v11 = Value.int .i64 ((3 : Nat) : Int)) := ⟨hv11⟩
  clear hW m1 m2 hv11
  go_loopw [6] (fun v wq => ∃ m : Nat, v = .int .i64 (m : Int) ∧ Aside0 (m ≤ 3 ∧ longestR rows s = longN rows s m) ∧ Aside0 (Below W.heap.size W wq)) (fun v _ => (intOf v).toNat)
  case atStart => exact ⟨3, HV11.out, ⟨Nat.le_refl _, HLR.out⟩, ⟨Below.refl _ _⟩⟩
  case round =>
   obtain ⟨m, rfl, HM, HBR⟩ := hrel
   by_cases hm : 0 < m
   ·
    have r1 : ((0 : Int) < (m : Int)) = True := eq_true (by omega)
    have r2 : (0 < m) = True := eq_true hm
    obtain ⟨m1, hm1⟩ : ∃ m1, m1 + 1 = m := ⟨m - 1, by omega⟩
    have HM1 := Aside0.mk hm1
    have hml : m ≤ l := by have := HM.out.1; have := H3.out; omega
    obtain ⟨a3, e3, _⟩ := Kd.at_int H2.out.1 0 (by omega) (by have := HLL.out; omega)
    subst e3
    have htl : (s.take m).length = m := by rw [List.length_take]; have := HLL.out; omega
    obtain ⟨A5, c5, A6, c6, hv, hpl⟩ := FP.out (s.take m)
    have HV := Aside0.mk hv
    have TX := Aside0.mk (blk_below T0.out HBR.out)
    have FFD := Aside0.mk (fun (W' : World) (hb : Below wr.heap.size wr W') => FF.out (s.take m) (some a3) c W' (below_step HBR.out hb) (Kd.C_take (Kd.C_below H2.out.1 (below_step (below_step HB.out HBR.out) hb)) (by have := HLL.out; omega)) (by rw [htl]; have := H2.out.2; have := HLL.out; omega) A5 c5 A6 c6 (by have h := hpl; rw [← HNN.out] at h; exact h))
    rw [htl] at FFD
    have HS1 : Aside0 (((0 : Int) ≤ (m : Int)) = True ∧ ((m : Int) ≤ (c : Int)) = True ∧ (m ≤ c) = True ∧ (0 ≤ m) = True) := ⟨eq_true (by omega), eq_true (by have := H2.out.2; have := HLL.out; omega), eq_true (by have := H2.out.2; have := HLL.out; omega), eq_true (Nat.zero_le _)⟩
    have HMW := Aside0.mk (show wrap64 ((m : Int) - 1) = (m1 : Int) by have := HLB.out; unfold wrap64; omega)
    obtain ⟨Y, hY⟩ : ∃ Y, Y = (rowFor rows (s.take m)).getD z44 := ⟨_, rfl⟩
    rw [← hY] at FFD HV
    have hlong : longestR rows s = match rowFor rows (s.take m) with | some x => some x | none => longN rows s m1 := by rw [HM.out.2, ← hm1]; rfl
    clear hm hml htl hv hpl hm1
    go_wp2_with fail
    cases hib : rowFor rows (s.take m) with
    | none =>
     rw [hib] at hlong FFD
     have HLT := Aside0.mk hlong
     clear hib hlong hY r1 r2
     refine wp_reg 11 rfl rfl (by kernel_rfl) (fun z => .agg #[.slice A0 n0 c0, .slice A1 n c1, .int .i64 top, .bool sh] :: .slice (some a3) l c :: .pointer (some ⟨w.heap.size, 0, none⟩) :: undef :: .pointer (some ⟨w.heap.size + 1, 0, none⟩) :: u5 :: .int .i64 (m : Int) :: z 7 :: z 8 :: .slice (some a3) l c :: .int .i64 (l : Int) :: v11 :: .int .i64 (m : Int) :: .bool true :: u14 :: u15 :: z 16 :: z 17 :: z 18 :: z 19 :: z 20 :: z 21 :: z 22 :: z 23 :: u24 :: u25 :: undef :: []) (fun (gg : Nat) => [(0, 17, .agg #[.slice A0 n0 c0, .slice A1 n c1, .int .i64 top, .bool sh]), (1, 18, .slice (some a3) l c), (2, 19, .int .i64 (m : Int)), (3, 20, .slice (some a3) m c), (4, 21, .tuple #[.agg #[.slice A5 Y.f0.length c5, .slice A6 Y.f1.length c6], .bool false]), (5, 16, .tuple #[.agg #[.slice A5 Y.f0.length c5, .slice A6 Y.f1.length c6], .bool false]), (6, 22, .agg #[.slice A5 Y.f0.length c5, .slice A6 Y.f1.length c6]), (7, 23, .bool false), (8, 7, .pointer (some ⟨gg, 0, none⟩)), (10, 8, .bool false)]) (fun LL gg z wx => Aside0 (Below wr.heap.size wr wx) ∧ Aside0 (LL 8 = true → RowAt wr.heap.size wx gg (LL 9) #[.slice A5 Y.f0.length c5, .slice A6 Y.f1.length c6] #[.slice none 0 0, .slice none 0 0] 44) ∧ Aside0 (LL 9 = true → LL 6 = true ∧ LL 8 = true)) 0 (zz [(7, u7), (8, u8), (16, u16), (17, u17), (18, u18), (19, u19), (20, u20), (21, u21), (22, u22), (23, u23)]) rfl rfl ⟨⟨below_drew (Below.refl _ _)⟩, ⟨fun h => absurd h (by decide)⟩, ⟨fun h => absurd h (by decide)⟩⟩ ?_ ?_
     ·
      refine Steps.cons ?_ (Steps.cons ?_ (Steps.cons ?_ (Steps.cons ?_ (Steps.cons ?_ (Steps.cons ?_ (Steps.cons ?_ (Steps.cons ?_ (Steps.cons ?_ (Steps.cons ?_ (Steps.cons ?_ (Steps.nil)))))))))))
      ·
       refine V0 0 (h := fun LL gg z wx hl hLk  K hK => ?_)
       obtain ⟨⟨hb, h9, z10⟩⟩ := hl
       have q0_T : wx.cell? ⟨w.heap.size, 0, none⟩ = some (.slice A0 n0 c0) := (blk_cell (blk_below TX.out hb.out) 0).trans rfl
       have q1_T : wx.cell? ⟨w.heap.size, 1, none⟩ = some (.slice A1 n c1) := (blk_cell (blk_below TX.out hb.out) 1).trans rfl
       have q2_T : wx.cell? ⟨w.heap.size, 2, none⟩ = some (.int .i64 top) := (blk_cell (blk_below TX.out hb.out) 2).trans rfl
       have q3_T : wx.cell? ⟨w.heap.size, 3, none⟩ = some (.bool sh) := (blk_cell (blk_below TX.out hb.out) 3).trans rfl
       dsimp only [FA]
       refine wantd (by rfl) ?_
       go_simp
       exact hK.out
      ·
       exact V0 1
      ·
       exact V0 2
      ·
       refine V2 3 1 2 (h := fun LL gg z wx hl hLk e1 e2 K hK => ?_)
       obtain ⟨⟨hb, h9, z10⟩⟩ := hl
       have hs1 := HS1.out.1
       have hs2 := HS1.out.2.1
       have hs3 := HS1.out.2.2.1
       have hs4 := HS1.out.2.2.2
       dsimp only [FA]
       refine wantd (by rfl) ?_
       go_simp
       exact hK.out
      ·
       refine CD 4 (fun _ => rfl) (fun _ => rfl) fun LL gg z wx hl hLk hd hI K hK => ?_
       obtain ⟨⟨hb, h9, z10⟩⟩ := hl
       have e0 := hI.at 0 rfl (hd 0 rfl)
       have e3 := hI.at 3 rfl (hd 3 rfl)
       dsimp only [FA]
       refine wantd (by rfl) ?_
       go_simp
       refine (FFD.out wx hb.out).mono ?_
       rintro e w' ⟨rfl, hb1⟩
       exact hK gg _ _ (sm2 e0 e3) rfl rfl ⟨⟨below_step hb.out hb1⟩, ⟨fun h => (h9.out h).below hb1⟩, z10⟩
      ·
       exact V1 5 4
      ·
       exact V1 6 5 (hT := fun _ => rfl) (hR := fun LL gg z wx hLk hd ⟨hb, h9, z10⟩ => ⟨hb, h9, ⟨fun h => ⟨upd_old (z10.out h).1, upd_old (z10.out h).2⟩⟩⟩)
      ·
       exact V1 7 5
      ·
       refine CD 8 (fun _ => rfl) (fun _ => rfl) fun LL gg z wx hl hLk hd hI K hK => ?_
       obtain ⟨⟨hb, h9, z10⟩⟩ := hl
       dsimp only [FA]
       refine wantd (by rfl) ?_
       go_simp
       exact hK wx.heap.size _ _ rfl rfl rfl ⟨⟨below_alloc hb.out _⟩, ⟨fun _ => RowAt.new _ _ _ (flag_off (fun h => (z10.out h).2) hLk) hb.out.size⟩, ⟨fun h => ⟨upd_old (z10.out h).1, upd_old (z10.out h).2⟩⟩⟩
      ·
       refine CS (fun _ => rfl) fun LL gg z wx hl hLk hd hI K hK => ?_
       obtain ⟨⟨hb, h9, z10⟩⟩ := hl
       have e8 := hI.at 8 rfl (hd 8 rfl)
       have e6 := hI.at 6 rfl (hd 6 rfl)
       have r := h9.out (hd 8 rfl)
       have rv := r.void hLk
       have f0 := blk_frozen rv 0
       have f1 := blk_frozen rv 1
       have c0_ := blk_cell rv 0
       have c1_ := blk_cell rv 1
       dsimp only [FA]
       refine wantd (by rfl) ?_
       go_simp
       exact hK _ _ (sm2 e8 e6) ⟨⟨below_set (below_set hb.out r.1) r.1⟩, ⟨fun _ => ⟨r.1, blk_put2 rv _ _⟩⟩, ⟨fun _ => ⟨hd 6 rfl, hd 8 rfl⟩⟩⟩
      ·
       exact V1 9 7
     ·
      intro LL g7 z wc hall hI hl
      obtain ⟨⟨hb, h9, z10⟩⟩ := hl
      have e8 := hI.at 8 rfl (hall 8 (by decide))
      have e10 := hI.at 9 rfl (hall 10 (by decide))
      dsimp only [FA] at ⊢
      rw [e10, e8]
      have HBC := hb
      have HG7 := Aside0.mk ((h9.out (hall 8 (by decide))).full (hall 9 (by decide)))
      clear hI hb h9 z10 e10 e8 hall
      have HBE := Aside0.mk (below_step HBR.out HBC.out)
      go_wp2_with fail
      go_roundw
      case rel => exact ⟨m1, by rw [HMW.out], ⟨by have := HM.out.1; have := HM1.out; omega, HLT.out⟩, HBE⟩
      case measure => rw [HMW.out]; simp only [intOf]; have := HM1.out; omega
    | some x =>
     rw [hib] at hlong FFD hY
     obtain rfl : Y = x := hY
     have HLT := Aside0.mk hlong
     clear hib hlong r1 r2
     refine wp_reg 11 rfl rfl (by kernel_rfl) (fun z => .agg #[.slice A0 n0 c0, .slice A1 n c1, .int .i64 top, .bool sh] :: .slice (some a3) l c :: .pointer (some ⟨w.heap.size, 0, none⟩) :: undef :: .pointer (some ⟨w.heap.size + 1, 0, none⟩) :: u5 :: .int .i64 (m : Int) :: z 7 :: z 8 :: .slice (some a3) l c :: .int .i64 (l : Int) :: v11 :: .int .i64 (m : Int) :: .bool true :: u14 :: u15 :: z 16 :: z 17 :: z 18 :: z 19 :: z 20 :: z 21 :: z 22 :: z 23 :: u24 :: u25 :: undef :: []) (fun (gg : Nat) => [(0, 17, .agg #[.slice A0 n0 c0, .slice A1 n c1, .int .i64 top, .bool sh]), (1, 18, .slice (some a3) l c), (2, 19, .int .i64 (m : Int)), (3, 20, .slice (some a3) m c), (4, 21, .tuple #[.agg #[.slice A5 Y.f0.length c5, .slice A6 Y.f1.length c6], .bool true]), (5, 16, .tuple #[.agg #[.slice A5 Y.f0.length c5, .slice A6 Y.f1.length c6], .bool true]), (6, 22, .agg #[.slice A5 Y.f0.length c5, .slice A6 Y.f1.length c6]), (7, 23, .bool true), (8, 7, .pointer (some ⟨gg, 0, none⟩)), (10, 8, .bool true)]) (fun LL gg z wx => Aside0 (Below wr.heap.size wr wx) ∧ Aside0 (LL 8 = true → RowAt wr.heap.size wx gg (LL 9) #[.slice A5 Y.f0.length c5, .slice A6 Y.f1.length c6] #[.slice none 0 0, .slice none 0 0] 44) ∧ Aside0 (LL 9 = true → LL 6 = true ∧ LL 8 = true)) 0 (zz [(7, u7), (8, u8), (16, u16), (17, u17), (18, u18), (19, u19), (20, u20), (21, u21), (22, u22), (23, u23)]) rfl rfl ⟨⟨below_drew (Below.refl _ _)⟩, ⟨fun h => absurd h (by decide)⟩, ⟨fun h => absurd h (by decide)⟩⟩ ?_ ?_
     ·
      refine Steps.cons ?_ (Steps.cons ?_ (Steps.cons ?_ (Steps.cons ?_ (Steps.cons ?_ (Steps.cons ?_ (Steps.cons ?_ (Steps.cons ?_ (Steps.cons ?_ (Steps.cons ?_ (Steps.cons ?_ (Steps.nil)))))))))))
      ·
       refine V0 0 (h := fun LL gg z wx hl hLk  K hK => ?_)
       obtain ⟨⟨hb, h9, z10⟩⟩ := hl
       have q0_T : wx.cell? ⟨w.heap.size, 0, none⟩ = some (.slice A0 n0 c0) := (blk_cell (blk_below TX.out hb.out) 0).trans rfl
       have q1_T : wx.cell? ⟨w.heap.size, 1, none⟩ = some (.slice A1 n c1) := (blk_cell (blk_below TX.out hb.out) 1).trans rfl
       have q2_T : wx.cell? ⟨w.heap.size, 2, none⟩ = some (.int .i64 top) := (blk_cell (blk_below TX.out hb.out) 2).trans rfl
       have q3_T : wx.cell? ⟨w.heap.size, 3, none⟩ = some (.bool sh) := (blk_cell (blk_below TX.out hb.out) 3).trans rfl
       dsimp only [FA]
       refine wantd (by rfl) ?_
       go_simp
       exact hK.out
      ·
       exact V0 1
      ·
       exact V0 2
      ·
       refine V2 3 1 2 (h := fun LL gg z wx hl hLk e1 e2 K hK => ?_)
       obtain ⟨⟨hb, h9, z10⟩⟩ := hl
       have hs1 := HS1.out.1
       have hs2 := HS1.out.2.1
       have hs3 := HS1.out.2.2.1
       have hs4 := HS1.out.2.2.2
       dsimp only [FA]
       refine wantd (by rfl) ?_
       go_simp
       exact hK.out
      ·
       refine CD 4 (fun _ => rfl) (fun _ => rfl) fun LL gg z wx hl hLk hd hI K hK => ?_
       obtain ⟨⟨hb, h9, z10⟩⟩ := hl
       have e0 := hI.at 0 rfl (hd 0 rfl)
       have e3 := hI.at 3 rfl (hd 3 rfl)
       dsimp only [FA]
       refine wantd (by rfl) ?_
       go_simp
       refine (FFD.out wx hb.out).mono ?_
       rintro e w' ⟨rfl, hb1⟩
       exact hK gg _ _ (sm2 e0 e3) rfl rfl ⟨⟨below_step hb.out hb1⟩, ⟨fun h => (h9.out h).below hb1⟩, z10⟩
      ·
       exact V1 5 4
      ·
       exact V1 6 5 (hT := fun _ => rfl) (hR := fun LL gg z wx hLk hd ⟨hb, h9, z10⟩ => ⟨hb, h9, ⟨fun h => ⟨upd_old (z10.out h).1, upd_old (z10.out h).2⟩⟩⟩)
      ·
       exact V1 7 5
      ·
       refine CD 8 (fun _ => rfl) (fun _ => rfl) fun LL gg z wx hl hLk hd hI K hK => ?_
       obtain ⟨⟨hb, h9, z10⟩⟩ := hl
       dsimp only [FA]
       refine wantd (by rfl) ?_
       go_simp
       exact hK wx.heap.size _ _ rfl rfl rfl ⟨⟨below_alloc hb.out _⟩, ⟨fun _ => RowAt.new _ _ _ (flag_off (fun h => (z10.out h).2) hLk) hb.out.size⟩, ⟨fun h => ⟨upd_old (z10.out h).1, upd_old (z10.out h).2⟩⟩⟩
      ·
       refine CS (fun _ => rfl) fun LL gg z wx hl hLk hd hI K hK => ?_
       obtain ⟨⟨hb, h9, z10⟩⟩ := hl
       have e8 := hI.at 8 rfl (hd 8 rfl)
       have e6 := hI.at 6 rfl (hd 6 rfl)
       have r := h9.out (hd 8 rfl)
       have rv := r.void hLk
       have f0 := blk_frozen rv 0
       have f1 := blk_frozen rv 1
       have c0_ := blk_cell rv 0
       have c1_ := blk_cell rv 1
       dsimp only [FA]
       refine wantd (by rfl) ?_
       go_simp
       exact hK _ _ (sm2 e8 e6) ⟨⟨below_set (below_set hb.out r.1) r.1⟩, ⟨fun _ => ⟨r.1, blk_put2 rv _ _⟩⟩, ⟨fun _ => ⟨hd 6 rfl, hd 8 rfl⟩⟩⟩
      ·
       exact V1 9 7
     ·
      intro LL g7 z wc hall hI hl
      obtain ⟨⟨hb, h9, z10⟩⟩ := hl
      have e8 := hI.at 8 rfl (hall 8 (by decide))
      have e10 := hI.at 9 rfl (hall 10 (by decide))
      dsimp only [FA] at ⊢
      rw [e10, e8]
      have HBC := hb
      have HG7 := Aside0.mk ((h9.out (hall 8 (by decide))).full (hall 9 (by decide)))
      clear hI hb h9 z10 e10 e8 hall
      have g1 := blk_below G0.out (below_step HBR.out HBC.out)
      have BK := Aside0.mk g1
      have f0 := blk_frozen g1 0
      have f1 := blk_frozen g1 1
      have x0 := blk_cell g1 0
      have x1 := blk_cell g1 1
      have y0 : wc.cell? ⟨g7, 0, none⟩ = some (.slice A5 Y.f0.length c5) := (blk_cell HG7.out 0).trans rfl
      have y1 : wc.cell? ⟨g7, 1, none⟩ = some (.slice A6 Y.f1.length c6) := (blk_cell HG7.out 1).trans rfl
      have HBE := Aside0.mk (below_step HB.out (below_step HBR.out HBC.out))
      clear g1
      go_wp2_with fail
      have hB2 := below_set2 HBE.out (Nat.le_succ _) (.slice A5 Y.f0.length c5) (.slice A6 Y.f1.length c6)
      refine bodyPost_ret (results_ct rfl _ _ (w.heap.size + 1) 44 #[.slice A5 Y.f0.length c5, .slice A6 Y.f1.length c6] (0, 0) _ rfl (blk_put2 BK.out _ _) Try.underlying44 rfl (by kernel_rfl)) rfl ?_
      rw [HLT.out]
      exact ⟨A5, c5, A6, c6, rfl, HV.out, hB2⟩
   ·
    have r1 : ((0 : Int) < (m : Int)) = False := eq_false (by omega)
    have r2 : (0 < m) = False := eq_false hm
    have HLT : Aside0 (longestR rows s = none) := ⟨by rw [HM.out.2, show m = 0 by omega]; rfl⟩
    have g1 := blk_below G0.out HBR.out
    have BK := Aside0.mk g1
    have f0 := blk_frozen g1 0
    have f1 := blk_frozen g1 1
    have x0 := blk_cell g1 0
    have x1 := blk_cell g1 1
    have HBE := Aside0.mk (below_step HB.out HBR.out)
    clear hm g1
    go_wp2_with fail
    have hB2 := below_set2 HBE.out (Nat.le_succ _) (.slice none 0 0) (.slice none 0 0)
    refine bodyPost_ret (results_ct rfl _ _ (w.heap.size + 1) 44 #[.slice none 0 0, .slice none 0 0] (0, 0) _ rfl (blk_put2 BK.out _ _) Try.underlying44 rfl (by kernel_rfl)) rfl ?_
    rw [HLT.out]
    exact ⟨none, 0, none, 0, rfl, RowV.none _, hB2⟩
theorem blk_far2 {w : World} {g h : Nat} {o : Obj} (e : w.heap[g]? = some o) (hg : h ≠ g) (x y : Value) : ((w.setCell ⟨h, 0, Option.none⟩ x).setCell ⟨h, 1, Option.none⟩ y).heap[g]? = some o :=
 (Below.heap_setCell _ ⟨h, 1, Option.none⟩ y g (fun q => hg q.symm)).trans ((Below.heap_setCell w ⟨h, 0, Option.none⟩ x g (fun q => hg q.symm)).trans e)
theorem size_set2 {w : World} {h : Nat} (x y : Value) : ((w.setCell ⟨h, 0, Option.none⟩ x).setCell ⟨h, 1, Option.none⟩ y).heap.size = w.heap.size := by
 have e := (below_set2 (Below.refl w.heap.size w) (g := w.heap.size + h) (by omega) x y).size
 simp
theorem row1I {w : World} {g : Nat} {x : Int} (h : w.heap[g]? = some (.cells #[.int .i32 x] 21 (0, 0))) : Kd.C (Kd.int .i32) w (some ⟨g, 0, Option.none⟩) 1 [x] := by
 refine ⟨rfl, by decide, fun _ => ⟨_, rfl, fun j p hp => ?_⟩⟩
 cases j with
 | zero =>
  simp only [List.getElem?_cons_zero, Option.some.injEq] at hp
  subst hp
  refine ⟨[.int .i32 x], rfl, rfl, fun j u hu => ?_⟩
  cases j with
  | zero =>
   simp only [List.getElem?_cons_zero, Option.some.injEq] at hu
   subst hu
   exact (blk_cell h 0).trans rfl
  | succ j => simp at hu
 | succ j => simp at hp
set_option maxHeartbeats 4000000 in
set_option maxRecDepth 100000 in
theorem longer_any (A0 : Option Addr) (c0 : Nat) (lore : List S42) (top : Int) (sh : Bool) (A1 : Option Addr) (c1 : Nat) (rows : List S44) (X0 : S44) (A3 : Option Addr) (c3 : Nat) (A4 : Option Addr) (c4 : Nat) (A : Option Addr) (c : Nat) (s : List Int) (wb w : World) (hwb : Below wb.heap.size wb w) (hlo : Kd.C k42 wb A0 lore.length lore) (hc0 : lore.length ≤ c0) (hll : lore.length ≤ 1000000) (hr : Kd.C k44 wb A1 rows.length rows) (hl : rows.length ≤ 1000000) (hf : ∀ x ∈ rows, x.f0.length ≤ 3) (h2 : Kd.C (Kd.int .i32) w A s.length s) (k2 : s.length ≤ c) (hsl : s.length ≤ 1000000000) (hris : Ris rows) (hv : RowV wb X0 A3 c3 A4 c4) (hx3 : X0.f0.length ≤ 3) :
  Calls Try.prog 24 #[.agg #[.slice A0 lore.length c0, .slice A1 rows.length c1, .int .i64 top, .bool sh], .agg #[.slice A3 X0.f0.length c3, .slice A4 X0.f1.length c4], .slice A s.length c] w
   fun e w' => ∃ (A5 : Option Addr) (c5 : Nat) (A6 : Option Addr) (c6 : Nat) (v : Value), e = .returned (.tuple #[.agg #[.slice A5 (longerR (fun r => (rowOf lore r).f1) rows X0 0 [] s).1.f0.length c5, .slice A6 (longerR (fun r => (rowOf lore r).f1) rows X0 0 [] s).1.f1.length c6], v]) ∧ RowV wb (longerR (fun r => (rowOf lore r).f1) rows X0 0 [] s).1 A5 c5 A6 c6 ∧ Kd.R (Kd.int .i32) 21 w' w.heap.size (fun _ => True) v (longerR (fun r => (rowOf lore r).f1) rows X0 0 [] s).2 ∧ Below w.heap.size w w' := by
 obtain ⟨cls, hcls⟩ : ∃ cls : Int → Int, cls = fun r => (rowOf lore r).f1 := ⟨_, rfl⟩
 rw [← hcls]
 obtain ⟨n, hn⟩ : ∃ n, n = rows.length := ⟨_, rfl⟩
 obtain ⟨nl, hnl⟩ : ∃ nl, nl = lore.length := ⟨_, rfl⟩
 obtain ⟨l, hsn⟩ : ∃ l, l = s.length := ⟨_, rfl⟩
 obtain ⟨W, hW⟩ : ∃ W, W = ((w.alloc (.cells #[.slice A0 nl c0, .slice A1 n c1, .int .i64 top, .bool sh] 25)).alloc (.cells #[.slice A3 X0.f0.length c3, .slice A4 X0.f1.length c4] 44)).alloc (.cells #[.slice none 0 0, .slice none 0 0] 44) := ⟨_, rfl⟩
 have hB : Below w.heap.size w W := by subst hW; exact below_alloc (below_alloc (below_alloc (Below.refl _ _) _) _) _
 have t0 : W.heap[w.heap.size]? = some (.cells #[.slice A0 nl c0, .slice A1 n c1, .int .i64 top, .bool sh] 25 (0, 0)) := by subst hW; exact blk_alloc (blk_alloc (by simpa using heap_alloc_new w _) _) _
 have x0 : W.heap[w.heap.size + 1]? = some (.cells #[.slice A3 X0.f0.length c3, .slice A4 X0.f1.length c4] 44 (0, 0)) := by subst hW; exact blk_alloc (by simpa using heap_alloc_new (w.alloc _) _) _
 have z0 : W.heap[w.heap.size + 2]? = some (.cells #[.slice none 0 0, .slice none 0 0] 44 (0, 0)) := by
  subst hW
  have h := heap_alloc_new ((w.alloc (.cells #[.slice A0 nl c0, .slice A1 n c1, .int .i64 top, .bool sh] 25)).alloc (.cells #[.slice A3 X0.f0.length c3, .slice A4 X0.f1.length c4] 44)) (.cells #[.slice none 0 0, .slice none 0 0] 44)
  have hs : ((w.alloc (.cells #[.slice A0 nl c0, .slice A1 n c1, .int .i64 top, .bool sh] 25)).alloc (.cells #[.slice A3 X0.f0.length c3, .slice A4 X0.f1.length c4] 44)).heap.size = w.heap.size + 2 := by show ((w.heap.push _).push _).size = _; rw [Array.size_push, Array.size_push]
  rw [hs] at h
  exact h
 have FL := Aside0.mk (fun (r : Int) (W' : World) (hb : Below w.heap.size w W') => lore_Class.calls A0 c0 lore r (cls r) W' (Kd.C_below hlo (below_step hwb hb)) hc0 (by unfold lore_Class.f; rw [if_pos (by omega), hcls]))
 have FF := Aside0.mk (fun (u : List Int) (au : Option Addr) (cu : Nat) (W' : World) (hb : Below w.heap.size w W') (hu : Kd.C (Kd.int .i32) W' au u.length u) (hcu : u.length ≤ cu) => fun A5 c5 A6 c6 hpl => findr_any A0 c0 lore.length top sh A1 c1 rows au cu u wb W' (below_step hwb hb) hr hl (fun x hx => by have := hf x hx; omega) hu hcu hris A5 c5 A6 c6 hpl)
 have FP := Aside0.mk (fun u => row_place A1 rows u wb hr hris)
 rw [← hn, ← hnl] at FF
 rw [← hnl] at FL
 rw [← hn, ← hnl, ← hsn]
 have HB := Aside0.mk hB
 have T0 := Aside0.mk t0
 have X1 := Aside0.mk x0
 have Z0 := Aside0.mk z0
 have H2 := Aside0.mk (And.intro h2 (And.intro k2 hsl))
 have HV0 := Aside0.mk (And.intro hv hx3)
 have HF := Aside0.mk hf
 have HNN := Aside0.mk (And.intro hn (And.intro hnl hsn))
 have HWB := Aside0.mk hwb
 clear hr hwb hris hf h2 k2 hB hl hn t0 hsl hlo hc0 hll hv hx3 x0 z0 hcls hnl hsn
 go_enter Try.func24, Try.ntmps24
 go_wp2_with fail
 rw [← hW]
 clear hW
 go_loopw [8, 9, 17] (fun v8 v9 v17 wr => ∃ (i : Nat) (over : Int) (X : S44) (left : List Int) (A5 : Option Addr) (c5 : Nat) (A6 : Option Addr) (c6 : Nat), v17 = .int .i64 (i : Int) ∧ v9 = .int .i64 over ∧ Aside0 (i ≤ l ∧ left.length ≤ i ∧ X.f0.length ≤ 3 ∧ longerR cls rows X0 0 [] s = longerR cls rows X over left (s.drop i)) ∧ Aside0 (RowV wb X A5 c5 A6 c6) ∧ Aside0 (wr.heap[w.heap.size + 1]? = some (.cells #[.slice A5 X.f0.length c5, .slice A6 X.f1.length c6] 44 (0, 0))) ∧ Aside0 (wr.heap[w.heap.size]? = some (.cells #[.slice A0 nl c0, .slice A1 n c1, .int .i64 top, .bool sh] 25 (0, 0)) ∧ wr.heap[w.heap.size + 2]? = some (.cells #[.slice none 0 0, .slice none 0 0] 44 (0, 0)) ∧ w.heap.size + 3 ≤ wr.heap.size) ∧ Aside0 (Kd.R (Kd.int .i32) 21 wr (w.heap.size + 3) (fun _ => True) v8 left) ∧ Aside0 (Below w.heap.size w wr)) (fun _ _ v17 _ => l - (intOf v17).toNat)
 case atStart => exact ⟨0, 0, X0, [], A3, c3, A4, c4, rfl, rfl, ⟨Nat.zero_le _, Nat.zero_le _, HV0.out.2, rfl⟩, ⟨HV0.out.1⟩, X1, ⟨T0.out, Z0.out, by have := blk_lt Z0.out; omega⟩, ⟨Kd.R_nil _ _ _ _ _⟩, HB⟩
 case round =>
  obtain ⟨i, over, X, left, A5, c5, A6, c6, rfl, rfl, HI, HV, HX, HT, HL, HBR⟩ := hrel
  by_cases hlt : (i : Int) < (l : Int)
  ·
   have r1 := eq_true hlt
   have r2 : (i < l) = True := eq_true (by omega)
   have r0 : ((0 : Int) ≤ (i : Int)) = True := eq_true (by omega)
   have HIL : Aside0 (i < l) := ⟨by omega⟩
   obtain ⟨ad, e, hx0⟩ := Kd.at_int (i := (i : Int)) H2.out.1 (by omega) (by rw [← HNN.out.2.2]; exact hlt)
   cases e
   simp only [Int.toNat_natCast] at hx0
   replace hx0 := cell_keep HBR.out hx0
   obtain ⟨r, hr⟩ : ∃ r, r = rd s (i : Int) := ⟨_, rfl⟩
   rw [← hr] at hx0
   have hi9 : i < s.length := by have := HNN.out.2.2; have := HIL.out; omega
   have HRD : Aside0 (s.drop i = r :: s.drop (i + 1)) := ⟨by rw [List.drop_eq_getElem_cons hi9, hr]; congr 1; unfold rd; simp [List.getD, hi9]⟩
   clear hi9
   have q0 : wr.cell? ⟨w.heap.size, 0, none⟩ = some (.slice A0 nl c0) := (blk_cell HT.out.1 0).trans rfl
   clear hlt hr
   go_wp2_with fail
   refine (FL.out r wr HBR.out).mono ?_
   rintro e w1 ⟨rfl, hb⟩
   have HB1 := Aside0.mk (below_step HBR.out hb)
   have HX1 := Aside0.mk (blk_below HX.out hb)
   have HT1 := Aside0.mk (And.intro (blk_below HT.out.1 hb) (And.intro (blk_below HT.out.2.1 hb) (Nat.le_trans HT.out.2.2 hb.size)))
   have HL1 := Aside0.mk (Kd.R_below HL.out hb)
   obtain ⟨cc, hcc⟩ : ∃ cc, cc = cls r := ⟨_, rfl⟩
   rw [← hcc]
   have HCC := Aside0.mk hcc
   clear hb hx0 q0 r0 r1 r2 hcc HX HT HL HBR
   by_cases hz : cc = 0
   ·
    have HZ := Aside0.mk hz
    have d1 : (cc == 0) = true := by simpa using hz
    have d2 := eq_true hz
    have HRES : Aside0 (longerR cls rows X0 0 [] s = (X, left ++ s.drop i)) := ⟨by
     have hcr : cls r = 0 := HCC.out.symm.trans HZ.out
     rw [HI.out.2.2.2, HRD.out, longerR, if_pos hcr]⟩
    have HSD : Aside0 (∀ W' : World, Below w.heap.size w W' → Kd.C (Kd.int .i32) W' (some (ad.add i)) (l - i) (s.drop i)) := ⟨fun W' hb => by
     have h := Kd.C_mid (lo := i) (hi := s.length) (Kd.C_below H2.out.1 hb) (by have := HNN.out.2.2; have := HIL.out; omega) (Nat.le_refl _) H2.out.2.1
     rw [List.take_length, if_neg (by have := H2.out.2.1; have := HNN.out.2.2; have := HIL.out; omega)] at h
     have e : (s.drop i).length = l - i := by rw [List.length_drop, HNN.out.2.2]
     rw [e] at h
     rw [show (Kd.int .i32).sz = 1 from rfl, Nat.mul_one] at h
     exact h⟩
    have HS1 : Aside0 (((0 : Int) ≤ (i : Int)) = True ∧ ((i : Int) ≤ (l : Int)) = True ∧ (i ≤ l) = True ∧ ((l : Int) ≤ (c : Int)) = True ∧ (l ≤ c) = True ∧ (c = i) = False) := ⟨eq_true (by omega), eq_true (by have := HIL.out; omega), eq_true (Nat.le_of_lt HIL.out), eq_true (by have := H2.out.2.1; have := HNN.out.2.2; omega), eq_true (by have := H2.out.2.1; have := HNN.out.2.2; omega), eq_false (by have := H2.out.2.1; have := HNN.out.2.2; have := HIL.out; omega)⟩
    clear hz
    go_wp2_with fail
    refine wp_reg 8 rfl rfl (by kernel_rfl) (fun z => .agg #[.slice A0 nl c0, .slice A1 n c1, .int .i64 top, .bool sh] :: .agg #[.slice A3 X0.f0.length c3, .slice A4 X0.f1.length c4] :: .slice (some ad) l c :: .pointer (some ⟨w.heap.size, 0, none⟩) :: .pointer (some ⟨w.heap.size + 1, 0, none⟩) :: undef :: .pointer (some ⟨w.heap.size + 1 + 1, 0, none⟩) :: z 7 :: u8 :: .int .i64 over :: .int .i64 (i : Int) :: .int .i32 r :: .int .i64 cc :: u13 :: u14 :: .slice (some ad) l c :: .int .i64 (l : Int) :: .int .i64 (i : Int) :: .bool true :: .int .i64 (i : Int) :: .pointer (some (ad.add i)) :: .int .i32 r :: .pointer (some ⟨w.heap.size, 0, none⟩) :: .slice A0 nl c0 :: .int .i32 r :: .int .i64 cc :: .int .i64 cc :: .bool true :: z 28 :: z 29 :: z 30 :: z 31 :: z 32 :: z 33 :: u34 :: u35 :: u36 :: u37 :: u38 :: u39 :: u40 :: u41 :: u42 :: u43 :: u44 :: u45 :: u46 :: u47 :: u48 :: u49 :: u50 :: u51 :: u52 :: u53 :: u54 :: u55 :: u56 :: u57 :: u58 :: u59 :: undef :: undef :: []) (fun (gg : Value × Value) => [(0, 28, .agg #[.slice A5 X.f0.length c5, .slice A6 X.f1.length c6]), (1, 29, u8), (2, 30, .slice (some ad) l c), (3, 31, .int .i64 (i : Int)), (4, 32, .slice (some (ad.add i)) (l - i) (c - i)), (5, 33, gg.1), (7, 7, gg.2)]) (fun LL gg z wx => Aside0 (Below w.heap.size w wx) ∧ Aside0 (wx.heap[w.heap.size + 1]? = some (.cells #[.slice A5 X.f0.length c5, .slice A6 X.f1.length c6] 44 (0, 0))) ∧ Aside0 (wx.heap[w.heap.size + 2]? = some (.cells (bif LL 6 then #[.slice A5 X.f0.length c5, .slice A6 X.f1.length c6] else #[.slice none 0 0, .slice none 0 0]) 44 (0, 0))) ∧ Aside0 (w.heap.size + 3 ≤ wx.heap.size) ∧ Aside0 (LL 5 = false → Kd.R (Kd.int .i32) 21 wx (w.heap.size + 3) (fun _ => True) u8 left) ∧ Aside0 (LL 5 = true → Kd.R (Kd.int .i32) 21 wx (w.heap.size + 3) (fun _ => True) gg.1 (left ++ s.drop i)) ∧ Aside0 (LL 7 = true → LL 5 = true ∧ gg.2 = gg.1)) (undef, undef) (zz [(7, u7), (28, u28), (29, u29), (30, u30), (31, u31), (32, u32), (33, u33)]) rfl rfl ⟨⟨below_step HB1.out (below_drew (Below.refl _ _))⟩, ⟨blk_below HX1.out (below_drew (Below.refl _ _))⟩, ⟨blk_below HT1.out.2.1 (below_drew (Below.refl _ _))⟩, ⟨Nat.le_trans HT1.out.2.2 (below_drew (Below.refl w1.heap.size w1)).size⟩, ⟨fun _ => Kd.R_below HL1.out (below_drew (Below.refl _ _))⟩, ⟨fun h => absurd h (by decide)⟩, ⟨fun h => absurd h (by decide)⟩⟩ ?_ ?_
    ·
     refine Steps.cons ?_ (Steps.cons ?_ (Steps.cons ?_ (Steps.cons ?_ (Steps.cons ?_ (Steps.cons ?_ (Steps.cons ?_ (Steps.cons ?_ (Steps.nil))))))))
     ·
      refine V0 0 (h := fun LL gg z wx hl hLk  K hK => ?_)
      obtain ⟨⟨hb, hX, hZ, hsz, h29, h33, h7⟩⟩ := hl
      have q0_X : wx.cell? ⟨w.heap.size + 1, 0, none⟩ = some (.slice A5 X.f0.length c5) := (blk_cell hX.out 0).trans rfl
      have q1_X : wx.cell? ⟨w.heap.size + 1, 1, none⟩ = some (.slice A6 X.f1.length c6) := (blk_cell hX.out 1).trans rfl
      dsimp only [FA]
      refine wantd (by rfl) ?_
      go_simp
      exact hK.out
     ·
      exact V0 1
     ·
      exact V0 2
     ·
      exact V0 3
     ·
      refine V2 4 2 3 (h := fun LL gg z wx hl hLk e2 e3 K hK => ?_)
      obtain ⟨⟨hb, hX, hZ, hsz, h29, h33, h7⟩⟩ := hl
      have t1 := HS1.out.1
      have t2 := HS1.out.2.1
      have t3 := HS1.out.2.2.1
      have t4 := HS1.out.2.2.2.1
      have t5 := HS1.out.2.2.2.2.1
      have t6 := HS1.out.2.2.2.2.2
      dsimp only [FA]
      refine wantd (by rfl) ?_
      go_simp
      exact hK.out
     ·
      refine CD 5 (fun _ => rfl) (fun _ => rfl) fun LL gg z wx hl hLk hd hI K hK => ?_
      obtain ⟨⟨hb, hX, hZ, hsz, h29, h33, h7⟩⟩ := hl
      have e1 := hI.at 1 rfl (hd 1 rfl)
      have e4 := hI.at 4 rfl (hd 4 rfl)
      have hr0 := h29.out hLk
      have hq := Kd.R_base hr0
      refine Kd.R_append_rows_step (Kd.int .i32) (w0 := wx) (w.heap.size + 3) (by rfl) (.tmp 29) (.tmp 32) 26 21 (.int .i32 0) 4 rfl Try.underlying26 info21 rfl (by decide) (by omega) u8 left (s.drop i) (some (ad.add i)) (l - i) (c - i) (fun _ => True) (fun _ => False) e1 e4 hr0 (HSD.out wx hb.out) (fun _ _ h => h) (fun _ h => h.elim) (fun _ _ => trivial) (Below.refl _ _) hsz.out (by have := HI.out; have := H2.out.2.2; have := HNN.out.2.2; have := HIL.out; omega) ?_
      intro x' w3 ho hb1 hg1 hat1
      exact hK (x', gg.2) _ _ rfl rfl rfl ⟨⟨hb.out.grown hg1 hb.out.size (fun q e => by have := hq q e; omega)⟩, ⟨(hg1.block _ (blk_lt hX.out) (fun e => by have h1 := hq _ e.symm; omega)).trans hX.out⟩, ⟨(hg1.block _ (blk_lt hZ.out) (fun e => by have h1 := hq _ e.symm; omega)).trans hZ.out⟩, ⟨Nat.le_trans hsz.out hb1.size⟩, ⟨fun b => Bool.noConfusion (show true = false from b)⟩, ⟨fun _ => ho⟩, ⟨fun a => absurd (h7.out a).1 (by rw [hLk]; decide)⟩⟩
     ·
      refine CS (fun _ => rfl) fun LL gg z wx hl hLk hd hI K hK => ?_
      obtain ⟨⟨hb, hX, hZ, hsz, h29, h33, h7⟩⟩ := hl
      have e0 := hI.at 0 rfl (hd 0 rfl)
      have rv : wx.heap[w.heap.size + 2]? = some (.cells #[.slice none 0 0, .slice none 0 0] 44 (0, 0)) := by have h := hZ.out; rw [hLk] at h; exact h
      have f0 := blk_frozen rv 0
      have f1 := blk_frozen rv 1
      have c0_ := blk_cell rv 0
      have c1_ := blk_cell rv 1
      dsimp only [FA]
      refine wantd (by rfl) ?_
      go_simp
      exact hK _ _ (sm1 e0) ⟨⟨below_set2 hb.out (by omega) _ _⟩, ⟨blk_far2 hX.out (by omega) _ _⟩, ⟨blk_put2 rv _ _⟩, ⟨by rw [size_set2]; exact hsz.out⟩, ⟨fun b => Kd.R_far (p := ⟨w.heap.size + 2, 1, none⟩) (Kd.R_far (p := ⟨w.heap.size + 2, 0, none⟩) (Kd.R_bound (h29.out b)) (fun k hk => by have := hk.2.1; show k ≠ w.heap.size + 2; omega) _) (fun k hk => by have := hk.2.1; show k ≠ w.heap.size + 2; omega) _ |> fun h => Kd.R_mono h (fun _ _ => trivial)⟩, ⟨fun b => Kd.R_far (p := ⟨w.heap.size + 2, 1, none⟩) (Kd.R_far (p := ⟨w.heap.size + 2, 0, none⟩) (Kd.R_bound (h33.out b)) (fun k hk => by have := hk.2.1; show k ≠ w.heap.size + 2; omega) _) (fun k hk => by have := hk.2.1; show k ≠ w.heap.size + 2; omega) _ |> fun h => Kd.R_mono h (fun _ _ => trivial)⟩, h7⟩
     ·
      refine CD 6 (fun _ => rfl) (fun _ => rfl) fun LL gg z wx hl hLk hd hI K hK => ?_
      obtain ⟨⟨hb, hX, hZ, hsz, h29, h33, h7⟩⟩ := hl
      have e5 := hI.at 5 rfl (hd 5 rfl)
      dsimp only [FA]
      refine wantd (by rfl) ?_
      go_simp
      exact hK (gg.1, gg.1) _ _ (sm1 e5) rfl rfl ⟨hb, hX, hZ, hsz, h29, h33, ⟨fun _ => ⟨hd 5 rfl, rfl⟩⟩⟩
    ·
     intro LL gg z wc hall hI hl
     obtain ⟨x33, x7⟩ := gg
     obtain ⟨⟨hb, hX, hZ, hsz, h29, h33, h7⟩⟩ := hl
     have e7 := hI.at 6 rfl (hall 7 (by decide))
     dsimp only [FA] at hb hX hZ hsz h29 h33 h7 e7 ⊢
     rw [e7]
     have HLW : Aside0 (Kd.R (Kd.int .i32) 21 wc (w.heap.size + 3) (fun _ => True) x7 (left ++ s.drop i)) := ⟨by rw [(h7.out (hall 7 (by decide))).2]; exact h33.out (hall 5 (by decide))⟩
     have HZW : Aside0 (wc.heap[w.heap.size + 2]? = some (.cells #[.slice A5 X.f0.length c5, .slice A6 X.f1.length c6] 44 (0, 0))) := ⟨by have h := hZ.out; rw [hall 6 (by decide)] at h; exact h⟩
     have HBC := hb
     clear hI hb hX hZ hsz h29 h33 h7 e7 hall
     go_wp2_with fail
     refine bodyPost_ret (results_ct rfl _ _ (w.heap.size + 2) 44 #[.slice A5 X.f0.length c5, .slice A6 X.f1.length c6] (0, 0) _ rfl HZW.out Try.underlying44 rfl (by kernel_rfl)) rfl ?_
     rw [HRES.out]
     exact ⟨A5, c5, A6, c6, x7, rfl, HV.out, Kd.R_lower HLW.out (by omega), HBC.out⟩
   ·
    have HZ := Aside0.mk hz
    have d1 : (cc == 0) = false := by simpa using hz
    have d2 := eq_false hz
    obtain ⟨A7, c7, A8, c8, hv7, hpl⟩ := FP.out (X.f0 ++ [r])
    have HV7 := Aside0.mk hv7
    have hlu : (X.f0 ++ [r]).length = X.f0.length + 1 := by rw [List.length_append, List.length_singleton]
    have FFD := Aside0.mk (fun (W' : World) (hb : Below w1.heap.size w1 W') (au : Option Addr) (cu : Nat) => FF.out (X.f0 ++ [r]) au cu W' (below_step HB1.out hb))
    rw [hlu] at FFD
    have FFD := Aside0.mk (fun (W' : World) (hb : Below w1.heap.size w1 W') (au : Option Addr) (cu : Nat) hu hcu => FFD.out W' hb au cu hu hcu A7 c7 A8 c8 (by have h := hpl; rw [← HNN.out.1] at h; exact h))
    have FCL := Aside0.mk (fun (W' : World) (hb : Below w1.heap.size w1 W') => slices_Clone_rune_rune.calls A5 c5 X.f0 X.f0 W' (Kd.C_below HV.out.2.1 (below_step (below_step HWB.out HB1.out) hb)) HV.out.1 (by unfold slices_Clone_rune_rune.f; rw [if_pos (by have := HI.out.2.2.1; omega)]))
    obtain ⟨Y, hY⟩ : ∃ Y, Y = (rowFor rows (X.f0 ++ [r])).getD z44 := ⟨_, rfl⟩
    rw [← hY] at FFD HV7
    clear hz hpl hv7 hlu
    go_wp2_with fail
    cases hib : rowFor rows (X.f0 ++ [r]) with
    | none =>
     rw [hib] at FFD hY
     have HIB := Aside0.mk hib
     clear hib hY
     refine wp_reg 14 rfl rfl (by kernel_rfl) (fun z => .agg #[.slice A0 nl c0, .slice A1 n c1, .int .i64 top, .bool sh] :: .agg #[.slice A3 X0.f0.length c3, .slice A4 X0.f1.length c4] :: .slice (some ad) l c :: .pointer (some ⟨w.heap.size, 0, none⟩) :: .pointer (some ⟨w.heap.size + 1, 0, none⟩) :: undef :: .pointer (some ⟨w.heap.size + 1 + 1, 0, none⟩) :: u7 :: u8 :: .int .i64 over :: .int .i64 (i : Int) :: .int .i32 r :: .int .i64 cc :: z 13 :: z 14 :: .slice (some ad) l c :: .int .i64 (l : Int) :: .int .i64 (i : Int) :: .bool true :: .int .i64 (i : Int) :: .pointer (some (ad.add i)) :: .int .i32 r :: .pointer (some ⟨w.heap.size, 0, none⟩) :: .slice A0 nl c0 :: .int .i32 r :: .int .i64 cc :: .int .i64 cc :: .bool false :: u28 :: u29 :: u30 :: u31 :: u32 :: u33 :: z 34 :: z 35 :: z 36 :: z 37 :: z 38 :: z 39 :: z 40 :: z 41 :: z 42 :: z 43 :: z 44 :: u45 :: u46 :: u47 :: u48 :: u49 :: u50 :: u51 :: u52 :: u53 :: u54 :: u55 :: u56 :: u57 :: u58 :: u59 :: undef :: undef :: []) (fun (gg : Value × Nat × (Option Addr) × Nat × Nat) => [(0, 35, .agg #[.slice A0 nl c0, .slice A1 n c1, .int .i64 top, .bool sh]), (1, 36, .pointer (some ⟨w.heap.size + 1, 0, none⟩)), (2, 37, .slice A5 X.f0.length c5), (3, 38, gg.1), (4, 39, .int .i32 r), (5, 40, .slice (some ⟨gg.2.1, 0, none⟩) 1 1), (6, 41, .slice gg.2.2.1 (X.f0.length + 1) gg.2.2.2.1), (7, 42, .tuple #[.agg #[.slice A7 Y.f0.length c7, .slice A8 Y.f1.length c8], .bool false]), (8, 34, .tuple #[.agg #[.slice A7 Y.f0.length c7, .slice A8 Y.f1.length c8], .bool false]), (9, 43, .agg #[.slice A7 Y.f0.length c7, .slice A8 Y.f1.length c8]), (10, 44, .bool false), (11, 13, .pointer (some ⟨gg.2.2.2.2, 0, none⟩)), (13, 14, .bool false)]) (fun LL gg z wx => Aside0 (Below w1.heap.size w1 wx) ∧ Aside0 (LL 3 = true → LL 6 = false → Kd.R (Kd.int .i32) 21 wx w1.heap.size (fun _ => True) gg.1 X.f0) ∧ Aside0 (LL 3 = true → ∀ k, gg.1.ownBlock = some k → k < wx.heap.size) ∧ Aside0 (LL 5 = true → LL 6 = false → wx.heap[gg.2.1]? = some (.cells #[.int .i32 r] 21 (0, 0)) ∧ (LL 3 = true → gg.1.ownBlock ≠ some gg.2.1)) ∧ Aside0 (LL 6 = true → LL 7 = false → Kd.R (Kd.int .i32) 21 wx w1.heap.size (fun _ => True) (.slice gg.2.2.1 (X.f0.length + 1) gg.2.2.2.1) (X.f0 ++ [r])) ∧ Aside0 (LL 6 = true → LL 3 = true ∧ LL 5 = true) ∧ Aside0 (LL 7 = true → LL 6 = true) ∧ Aside0 (LL 8 = true → LL 7 = true) ∧ Aside0 (LL 9 = true → LL 8 = true) ∧ Aside0 (LL 12 = true → LL 9 = true ∧ LL 11 = true) ∧ Aside0 (LL 11 = true → RowAt w1.heap.size wx gg.2.2.2.2 (LL 12) #[.slice A7 Y.f0.length c7, .slice A8 Y.f1.length c8] #[.slice none 0 0, .slice none 0 0] 44) ∧ Aside0 (LL 11 = true → LL 3 = true → gg.1.ownBlock ≠ some gg.2.2.2.2)) (undef, 0, none, 0, 0) (zz [(13, u13), (14, u14), (34, u34), (35, u35), (36, u36), (37, u37), (38, u38), (39, u39), (40, u40), (41, u41), (42, u42), (43, u43), (44, u44)]) rfl rfl ⟨⟨below_drew (Below.refl _ _)⟩, ⟨fun h => absurd h (by decide)⟩, ⟨fun h => absurd h (by decide)⟩, ⟨fun h => absurd h (by decide)⟩, ⟨fun h => absurd h (by decide)⟩, ⟨fun h => absurd h (by decide)⟩, ⟨fun h => absurd h (by decide)⟩, ⟨fun h => absurd h (by decide)⟩, ⟨fun h => absurd h (by decide)⟩, ⟨fun h => absurd h (by decide)⟩, ⟨fun h => absurd h (by decide)⟩, ⟨fun h => absurd h (by decide)⟩⟩ ?_ ?_
     ·
      refine Steps.cons ?_ (Steps.cons ?_ (Steps.cons ?_ (Steps.cons ?_ (Steps.cons ?_ (Steps.cons ?_ (Steps.cons ?_ (Steps.cons ?_ (Steps.cons ?_ (Steps.cons ?_ (Steps.cons ?_ (Steps.cons ?_ (Steps.cons ?_ (Steps.cons ?_ (Steps.nil))))))))))))))
      ·
       refine V0 0 (h := fun LL gg z wx hl hLk  K hK => ?_)
       obtain ⟨⟨hb, h38, hlt, h40, hW, p6, p7, p8, p9, z12, h9, n13⟩⟩ := hl
       have q0_T : wx.cell? ⟨w.heap.size, 0, none⟩ = some (.slice A0 nl c0) := (blk_cell (blk_below HT1.out.1 hb.out) 0).trans rfl
       have q1_T : wx.cell? ⟨w.heap.size, 1, none⟩ = some (.slice A1 n c1) := (blk_cell (blk_below HT1.out.1 hb.out) 1).trans rfl
       have q2_T : wx.cell? ⟨w.heap.size, 2, none⟩ = some (.int .i64 top) := (blk_cell (blk_below HT1.out.1 hb.out) 2).trans rfl
       have q3_T : wx.cell? ⟨w.heap.size, 3, none⟩ = some (.bool sh) := (blk_cell (blk_below HT1.out.1 hb.out) 3).trans rfl
       dsimp only [FA]
       refine wantd (by rfl) ?_
       go_simp
       exact hK.out
      ·
       exact V0 1
      ·
       refine V1 2 1 (h := fun LL gg z wx hl hLk e1 K hK => ?_)
       obtain ⟨⟨hb, h38, hlt, h40, hW, p6, p7, p8, p9, z12, h9, n13⟩⟩ := hl
       have q0_X : wx.cell? ⟨w.heap.size + 1, 0, none⟩ = some (.slice A5 X.f0.length c5) := (blk_cell (blk_below HX1.out hb.out) 0).trans rfl
       dsimp only [FA]
       refine wantd (by rfl) ?_
       go_simp
       exact hK.out
      ·
       refine CD 3 (fun _ => rfl) (fun _ => rfl) fun LL gg z wx hl hLk hd hI K hK => ?_
       obtain ⟨⟨hb, h38, hlt, h40, hW, p6, p7, p8, p9, z12, h9, n13⟩⟩ := hl
       have e2 := hI.at 2 rfl (hd 2 rfl)
       dsimp only [FA]
       refine wantd (by rfl) ?_
       go_simp
       refine (FCL.out wx hb.out).mono ?_
       rintro e w' ⟨x', rfl, ho, hb1⟩
       exact hK (x', gg.2.1, gg.2.2.1, gg.2.2.2.1, gg.2.2.2.2) _ _ (sm1 e2) rfl rfl ⟨⟨below_step hb.out hb1⟩, ⟨fun _ _ => Kd.R_lower ho hb.out.size⟩, ⟨fun _ => Kd.R_lt ho⟩, ⟨fun a b => ⟨blk_below (h40.out a b).1 hb1, fun _ e => by have h1 := Kd.R_base ho gg.2.1 e; have h2 := blk_lt (h40.out a b).1; omega⟩⟩, ⟨fun a _ => absurd (p6.out a).1 (by rw [hLk]; decide)⟩, ⟨fun a => ⟨rfl, upd_old (p6.out a).2⟩⟩, p7, p8, p9, z12, ⟨fun h => (h9.out h).below hb1⟩, ⟨fun a _ e => by have h1 := Kd.R_base ho gg.2.2.2.2 e; have h2 := (h9.out a).lt; omega⟩⟩
      ·
       exact V0 4
      ·
       refine CD 5 (fun _ => rfl) (fun _ => rfl) fun LL gg z wx hl hLk hd hI K hK => ?_
       obtain ⟨⟨hb, h38, hlt, h40, hW, p6, p7, p8, p9, z12, h9, n13⟩⟩ := hl
       have e4 := hI.at 4 rfl (hd 4 rfl)
       dsimp only [FA]
       refine wantd (by rfl) ?_
       go_simp
       exact hK (gg.1, wx.heap.size, gg.2.2.1, gg.2.2.2.1, gg.2.2.2.2) _ _ (sm1 e4) rfl rfl ⟨⟨below_alloc hb.out _⟩, ⟨fun a b => Kd.R_alloc (h38.out a b) _⟩, ⟨fun a k e => Nat.lt_of_lt_of_le (hlt.out a k e) (below_alloc (Below.refl wx.heap.size wx) _).size⟩, ⟨fun _ _ => ⟨by simpa using heap_alloc_new wx _, fun a e => Nat.lt_irrefl _ (hlt.out a _ e)⟩⟩, ⟨fun a _ => absurd (p6.out a).2 (by rw [hLk]; decide)⟩, ⟨fun a => ⟨upd_old (p6.out a).1, rfl⟩⟩, p7, p8, p9, z12, ⟨fun h => (h9.out h).alloc _⟩, n13⟩
      ·
       refine CD 6 (fun _ => rfl) (fun _ => rfl) fun LL gg z wx hl hLk hd hI K hK => ?_
       obtain ⟨⟨hb, h38, hlt, h40, hW, p6, p7, p8, p9, z12, h9, n13⟩⟩ := hl
       have e3 := hI.at 3 rfl (hd 3 rfl)
       have e5 := hI.at 5 rfl (hd 5 rfl)
       have hr0 := h38.out (hd 3 rfl) hLk
       have hq := Kd.R_base hr0
       have h4 := h40.out (hd 5 rfl) hLk
       refine Kd.R_append_rows_step (Kd.int .i32) (w0 := wx) w1.heap.size (by rfl) (.tmp 38) (.tmp 40) 26 21 (.int .i32 0) 4 rfl Try.underlying26 info21 rfl (by decide) (by omega) gg.1 X.f0 [r] (some ⟨gg.2.1, 0, none⟩) 1 1 (fun _ => True) (fun _ => False) e3 e5 hr0 (row1I h4.1) (fun _ _ h => h) (fun _ h => h.elim) (fun _ _ => trivial) (Below.refl _ _) hb.out.size (by have := HI.out; omega) ?_
       intro x' w3 ho hb1 hg1 hat1
       obtain ⟨A', c', rfl, hcx, _⟩ := Kd.R_reads ho
       rw [List.length_append, List.length_singleton] at hcx ⊢
       exact hK (gg.1, gg.2.1, A', c', gg.2.2.2.2) _ _ rfl rfl rfl ⟨⟨hb.out.grown hg1 hb.out.size (fun q e => hq q e)⟩, ⟨fun _ b => Bool.noConfusion (show true = false from b)⟩, ⟨fun a k e => Nat.lt_of_lt_of_le (hlt.out a k e) hb1.size⟩, ⟨fun _ b => Bool.noConfusion (show true = false from b)⟩, ⟨fun _ _ => by have h := ho; rw [List.length_append, List.length_singleton] at h; exact h⟩, ⟨fun _ => ⟨hd 3 rfl, hd 5 rfl⟩⟩, ⟨fun _ => rfl⟩, p8, p9, z12, ⟨fun h => ⟨(h9.out h).1, (hg1.block gg.2.2.2.2 (h9.out h).lt (fun e => n13.out h (hd 3 rfl) e.symm)).trans (h9.out h).2⟩⟩, n13⟩
      ·
       refine CD 7 (fun _ => rfl) (fun _ => rfl) fun LL gg z wx hl hLk hd hI K hK => ?_
       obtain ⟨⟨hb, h38, hlt, h40, hW, p6, p7, p8, p9, z12, h9, n13⟩⟩ := hl
       have e0 := hI.at 0 rfl (hd 0 rfl)
       have e6 := hI.at 6 rfl (hd 6 rfl)
       dsimp only [FA]
       refine wantd (by rfl) ?_
       go_simp
       have hw := Kd.R_reads' (hW.out (hd 6 rfl) hLk)
       rw [List.length_append, List.length_singleton] at hw
       refine (FFD.out wx hb.out gg.2.2.1 gg.2.2.2.1 hw.2.2 hw.2.1).mono ?_
       rintro e w' ⟨rfl, hb1⟩
       exact hK gg _ _ (sm2 e0 e6) rfl rfl ⟨⟨below_step hb.out hb1⟩, ⟨fun a b => Kd.R_below (h38.out a b) hb1⟩, ⟨fun a k e => Nat.lt_of_lt_of_le (hlt.out a k e) hb1.size⟩, ⟨fun a b => ⟨blk_below (h40.out a b).1 hb1, (h40.out a b).2⟩⟩, ⟨fun _ b => Bool.noConfusion (show true = false from b)⟩, p6, ⟨fun _ => hd 6 rfl⟩, ⟨fun _ => rfl⟩, p9, z12, ⟨fun h => (h9.out h).below hb1⟩, n13⟩
      ·
       exact V1 8 7 (hT := fun _ => rfl) (hR := fun LL gg z wx hLk hd ⟨hb, h38, hlt, h40, hW, p6, p7, p8, p9, z12, h9, n13⟩ => ⟨hb, h38, hlt, h40, hW, p6, p7, ⟨fun _ => hd 7 rfl⟩, ⟨fun _ => rfl⟩, z12, h9, n13⟩)
      ·
       exact V1 9 8 (hT := fun _ => rfl) (hR := fun LL gg z wx hLk hd ⟨hb, h38, hlt, h40, hW, p6, p7, p8, p9, z12, h9, n13⟩ => ⟨hb, h38, hlt, h40, hW, p6, p7, p8, ⟨fun _ => hd 8 rfl⟩, ⟨fun h => ⟨upd_old (z12.out h).1, upd_old (z12.out h).2⟩⟩, h9, n13⟩)
      ·
       exact V1 10 8
      ·
       refine CD 11 (fun _ => rfl) (fun _ => rfl) fun LL gg z wx hl hLk hd hI K hK => ?_
       obtain ⟨⟨hb, h38, hlt, h40, hW, p6, p7, p8, p9, z12, h9, n13⟩⟩ := hl
       dsimp only [FA]
       refine wantd (by rfl) ?_
       go_simp
       exact hK (gg.1, gg.2.1, gg.2.2.1, gg.2.2.2.1, wx.heap.size) _ _ rfl rfl rfl ⟨⟨below_alloc hb.out _⟩, ⟨fun a b => Kd.R_alloc (h38.out a b) _⟩, ⟨fun a k e => Nat.lt_of_lt_of_le (hlt.out a k e) (below_alloc (Below.refl wx.heap.size wx) _).size⟩, ⟨fun a b => ⟨blk_alloc (h40.out a b).1 _, (h40.out a b).2⟩⟩, ⟨fun a b => Kd.R_alloc (hW.out a b) _⟩, p6, p7, p8, p9, ⟨fun h => ⟨upd_old (z12.out h).1, upd_old (z12.out h).2⟩⟩, ⟨fun _ => RowAt.new _ _ _ (flag_off (fun h => (z12.out h).2) hLk) hb.out.size⟩, ⟨fun _ a e => Nat.lt_irrefl _ (hlt.out a _ e)⟩⟩
      ·
       refine CS (fun _ => rfl) fun LL gg z wx hl hLk hd hI K hK => ?_
       obtain ⟨⟨hb, h38, hlt, h40, hW, p6, p7, p8, p9, z12, h9, n13⟩⟩ := hl
       have e11 := hI.at 11 rfl (hd 11 rfl)
       have e9 := hI.at 9 rfl (hd 9 rfl)
       have r_ := h9.out (hd 11 rfl)
       have rv := r_.void hLk
       have f0 := blk_frozen rv 0
       have f1 := blk_frozen rv 1
       have c0_ := blk_cell rv 0
       have c1_ := blk_cell rv 1
       have l8 := p9.out (hd 9 rfl)
       have l7 := p8.out l8
       have l6 := p7.out l7
       dsimp only [FA]
       refine wantd (by rfl) ?_
       go_simp
       exact hK _ _ (sm2 e11 e9) ⟨⟨below_set (below_set hb.out r_.1) r_.1⟩, ⟨fun _ b => absurd l6 (by rw [show LL 6 = false from b]; decide)⟩, ⟨fun a k e => by have := hlt.out a k e; rw [size_set2]; exact this⟩, ⟨fun _ b => absurd l6 (by rw [show LL 6 = false from b]; decide)⟩, ⟨fun _ b => absurd l7 (by rw [show LL 7 = false from b]; decide)⟩, p6, p7, p8, p9, ⟨fun _ => ⟨hd 9 rfl, hd 11 rfl⟩⟩, ⟨fun _ => ⟨r_.1, blk_put2 rv _ _⟩⟩, n13⟩
      ·
       exact V1 12 10
     ·
      intro LL gg z wc hall hI hl
      obtain ⟨x38, g40, AW, cW, g13⟩ := gg
      obtain ⟨⟨hb, h38, hlt, h40, hW, p6, p7, p8, p9, z12, h9, n13⟩⟩ := hl
      have e11 := hI.at 11 rfl (hall 11 (by decide))
      have e13 := hI.at 12 rfl (hall 13 (by decide))
      dsimp only [FA] at hb h38 hlt h40 hW p6 p7 p8 p9 z12 h9 n13 e11 e13 ⊢
      rw [e13, e11]
      have HBC := hb
      have HG13 := Aside0.mk ((h9.out (hall 11 (by decide))).full (hall 12 (by decide)))
      clear hI hb h38 hlt h40 hW p6 p7 p8 p9 z12 h9 n13 e13 e11 hall
      have HBW := Aside0.mk (below_step HB1.out HBC.out)
      have HXW := Aside0.mk (blk_below HX1.out HBC.out)
      have HTW := Aside0.mk (And.intro (blk_below HT1.out.1 HBC.out) (And.intro (blk_below HT1.out.2.1 HBC.out) (Nat.le_trans HT1.out.2.2 HBC.out.size)))
      have HLW := Aside0.mk (Kd.R_below HL1.out HBC.out)
      have HIW := Aside0.mk (show wrap64 ((i : Int) + 1) = ((i + 1 : Nat) : Int) by have := HIL.out; have := H2.out.2.2; have := HNN.out.2.2; unfold wrap64; omega)
      clear HB1 HX1 HT1 HL1 FFD FCL HBC d1 d2
      rcases Int.lt_trichotomy over cc with ho | ho | ho
      ·
       have t1 : (over < cc) = True := eq_true ho
       have t2 : (cc < over) = False := eq_false (by omega)
       have t3 : (cc ≤ over) = False := eq_false (by omega)
       have t4 : (over ≤ cc) = True := eq_true (by omega)
       have HMX : Aside0 (max over cc = cc) := ⟨by omega⟩
       clear ho
       go_wp2_with ((with_reducible refine gate_builtin (b := .append) (xs := #[.tmp 55, .tmp 57]) rfl ?_); at_builtin; refine Kd.R_append (Kd.int .i32) (w0 := wc) (w.heap.size + 3) rfl (.tmp 55) (.tmp 57) 26 21 (.int .i32 0) 4 rfl Try.underlying26 info21 rfl (by decide) (by omega) u8 left r [.int .i32 r] (fun _ => True) (fun _ => False) rfl (by first | (go_simp; done) | (go_simp; rfl)) ?aP (fun _ hk => hk.elim) (fun _ _ => trivial) ?aO ?aB ?aS ?aL ?_; (case aP => exact rfl); (case aO => exact HLW.out); (case aB => exact Below.refl _ _); (case aS => exact HTW.out.2.2); (case aL => have := HI.out; have := H2.out.2.2; have := HNN.out.2.2; have := HIL.out; omega); intro v2 w2 ho2 hb2 hg2 hat2; have HO2 := Aside0.mk ho2; have HB2 := Aside0.mk hb2; clear ho2 hb2 hg2 hat2)
       go_roundw
       case rel =>
        refine ⟨i + 1, cc, X, left ++ [r], A5, c5, A6, c6, by rw [HIW.out], rfl, ⟨by have := HIL.out; omega, by rw [List.length_append, List.length_singleton]; have := HI.out; omega, HI.out.2.2.1, ?_⟩, HV, ⟨(HB2.out.block _ (by omega)).trans HXW.out⟩, ⟨(HB2.out.block _ (by omega)).trans HTW.out.1, (HB2.out.block _ (by omega)).trans HTW.out.2.1, Nat.le_trans HTW.out.2.2 HB2.out.size⟩, HO2, ⟨HBW.out.trans ⟨HB2.out.os, HB2.out.tape, HB2.out.output, HB2.out.size, fun k hk => HB2.out.block k (by omega)⟩⟩⟩
        have hcr : ¬ cls r = 0 := by rw [← HCC.out]; exact HZ.out
        rw [HI.out.2.2.2, HRD.out, longerR, if_neg hcr, HIB.out, ← HCC.out, HMX.out]
       case measure => rw [HIW.out]; simp only [intOf]; have := HIL.out; omega
      ·
       subst ho
       have HMX : Aside0 (max over over = over) := ⟨by omega⟩
       go_wp2_with ((with_reducible refine gate_builtin (b := .append) (xs := #[.tmp 55, .tmp 57]) rfl ?_); at_builtin; refine Kd.R_append (Kd.int .i32) (w0 := wc) (w.heap.size + 3) rfl (.tmp 55) (.tmp 57) 26 21 (.int .i32 0) 4 rfl Try.underlying26 info21 rfl (by decide) (by omega) u8 left r [.int .i32 r] (fun _ => True) (fun _ => False) rfl (by first | (go_simp; done) | (go_simp; rfl)) ?aP (fun _ hk => hk.elim) (fun _ _ => trivial) ?aO ?aB ?aS ?aL ?_; (case aP => exact rfl); (case aO => exact HLW.out); (case aB => exact Below.refl _ _); (case aS => exact HTW.out.2.2); (case aL => have := HI.out; have := H2.out.2.2; have := HNN.out.2.2; have := HIL.out; omega); intro v2 w2 ho2 hb2 hg2 hat2; have HO2 := Aside0.mk ho2; have HB2 := Aside0.mk hb2; clear ho2 hb2 hg2 hat2)
       go_roundw
       case rel =>
        refine ⟨i + 1, over, X, left ++ [r], A5, c5, A6, c6, by rw [HIW.out], rfl, ⟨by have := HIL.out; omega, by rw [List.length_append, List.length_singleton]; have := HI.out; omega, HI.out.2.2.1, ?_⟩, HV, ⟨(HB2.out.block _ (by omega)).trans HXW.out⟩, ⟨(HB2.out.block _ (by omega)).trans HTW.out.1, (HB2.out.block _ (by omega)).trans HTW.out.2.1, Nat.le_trans HTW.out.2.2 HB2.out.size⟩, HO2, ⟨HBW.out.trans ⟨HB2.out.os, HB2.out.tape, HB2.out.output, HB2.out.size, fun k hk => HB2.out.block k (by omega)⟩⟩⟩
        have hcr : ¬ cls r = 0 := by rw [← HCC.out]; exact HZ.out
        rw [HI.out.2.2.2, HRD.out, longerR, if_neg hcr, HIB.out, ← HCC.out, HMX.out]
       case measure => rw [HIW.out]; simp only [intOf]; have := HIL.out; omega
      ·
       have t1 : (over < cc) = False := eq_false (by omega)
       have t2 : (cc < over) = True := eq_true (by omega)
       have t3 : (cc ≤ over) = True := eq_true (by omega)
       have t4 : (over ≤ cc) = False := eq_false (by omega)
       have HMX : Aside0 (max over cc = over) := ⟨by omega⟩
       clear ho
       go_wp2_with ((with_reducible refine gate_builtin (b := .append) (xs := #[.tmp 55, .tmp 57]) rfl ?_); at_builtin; refine Kd.R_append (Kd.int .i32) (w0 := wc) (w.heap.size + 3) rfl (.tmp 55) (.tmp 57) 26 21 (.int .i32 0) 4 rfl Try.underlying26 info21 rfl (by decide) (by omega) u8 left r [.int .i32 r] (fun _ => True) (fun _ => False) rfl (by first | (go_simp; done) | (go_simp; rfl)) ?aP (fun _ hk => hk.elim) (fun _ _ => trivial) ?aO ?aB ?aS ?aL ?_; (case aP => exact rfl); (case aO => exact HLW.out); (case aB => exact Below.refl _ _); (case aS => exact HTW.out.2.2); (case aL => have := HI.out; have := H2.out.2.2; have := HNN.out.2.2; have := HIL.out; omega); intro v2 w2 ho2 hb2 hg2 hat2; have HO2 := Aside0.mk ho2; have HB2 := Aside0.mk hb2; clear ho2 hb2 hg2 hat2)
       go_roundw
       case rel =>
        refine ⟨i + 1, over, X, left ++ [r], A5, c5, A6, c6, by rw [HIW.out], rfl, ⟨by have := HIL.out; omega, by rw [List.length_append, List.length_singleton]; have := HI.out; omega, HI.out.2.2.1, ?_⟩, HV, ⟨(HB2.out.block _ (by omega)).trans HXW.out⟩, ⟨(HB2.out.block _ (by omega)).trans HTW.out.1, (HB2.out.block _ (by omega)).trans HTW.out.2.1, Nat.le_trans HTW.out.2.2 HB2.out.size⟩, HO2, ⟨HBW.out.trans ⟨HB2.out.os, HB2.out.tape, HB2.out.output, HB2.out.size, fun k hk => HB2.out.block k (by omega)⟩⟩⟩
        have hcr : ¬ cls r = 0 := by rw [← HCC.out]; exact HZ.out
        rw [HI.out.2.2.2, HRD.out, longerR, if_neg hcr, HIB.out, ← HCC.out, HMX.out]
       case measure => rw [HIW.out]; simp only [intOf]; have := HIL.out; omega
    | some x =>
     rw [hib] at FFD hY
     obtain rfl : Y = x := hY
     have HIB := Aside0.mk hib
     clear hib
     refine wp_reg 14 rfl rfl (by kernel_rfl) (fun z => .agg #[.slice A0 nl c0, .slice A1 n c1, .int .i64 top, .bool sh] :: .agg #[.slice A3 X0.f0.length c3, .slice A4 X0.f1.length c4] :: .slice (some ad) l c :: .pointer (some ⟨w.heap.size, 0, none⟩) :: .pointer (some ⟨w.heap.size + 1, 0, none⟩) :: undef :: .pointer (some ⟨w.heap.size + 1 + 1, 0, none⟩) :: u7 :: u8 :: .int .i64 over :: .int .i64 (i : Int) :: .int .i32 r :: .int .i64 cc :: z 13 :: z 14 :: .slice (some ad) l c :: .int .i64 (l : Int) :: .int .i64 (i : Int) :: .bool true :: .int .i64 (i : Int) :: .pointer (some (ad.add i)) :: .int .i32 r :: .pointer (some ⟨w.heap.size, 0, none⟩) :: .slice A0 nl c0 :: .int .i32 r :: .int .i64 cc :: .int .i64 cc :: .bool false :: u28 :: u29 :: u30 :: u31 :: u32 :: u33 :: z 34 :: z 35 :: z 36 :: z 37 :: z 38 :: z 39 :: z 40 :: z 41 :: z 42 :: z 43 :: z 44 :: u45 :: u46 :: u47 :: u48 :: u49 :: u50 :: u51 :: u52 :: u53 :: u54 :: u55 :: u56 :: u57 :: u58 :: u59 :: undef :: undef :: []) (fun (gg : Value × Nat × (Option Addr) × Nat × Nat) => [(0, 35, .agg #[.slice A0 nl c0, .slice A1 n c1, .int .i64 top, .bool sh]), (1, 36, .pointer (some ⟨w.heap.size + 1, 0, none⟩)), (2, 37, .slice A5 X.f0.length c5), (3, 38, gg.1), (4, 39, .int .i32 r), (5, 40, .slice (some ⟨gg.2.1, 0, none⟩) 1 1), (6, 41, .slice gg.2.2.1 (X.f0.length + 1) gg.2.2.2.1), (7, 42, .tuple #[.agg #[.slice A7 Y.f0.length c7, .slice A8 Y.f1.length c8], .bool true]), (8, 34, .tuple #[.agg #[.slice A7 Y.f0.length c7, .slice A8 Y.f1.length c8], .bool true]), (9, 43, .agg #[.slice A7 Y.f0.length c7, .slice A8 Y.f1.length c8]), (10, 44, .bool true), (11, 13, .pointer (some ⟨gg.2.2.2.2, 0, none⟩)), (13, 14, .bool true)]) (fun LL gg z wx => Aside0 (Below w1.heap.size w1 wx) ∧ Aside0 (LL 3 = true → LL 6 = false → Kd.R (Kd.int .i32) 21 wx w1.heap.size (fun _ => True) gg.1 X.f0) ∧ Aside0 (LL 3 = true → ∀ k, gg.1.ownBlock = some k → k < wx.heap.size) ∧ Aside0 (LL 5 = true → LL 6 = false → wx.heap[gg.2.1]? = some (.cells #[.int .i32 r] 21 (0, 0)) ∧ (LL 3 = true → gg.1.ownBlock ≠ some gg.2.1)) ∧ Aside0 (LL 6 = true → LL 7 = false → Kd.R (Kd.int .i32) 21 wx w1.heap.size (fun _ => True) (.slice gg.2.2.1 (X.f0.length + 1) gg.2.2.2.1) (X.f0 ++ [r])) ∧ Aside0 (LL 6 = true → LL 3 = true ∧ LL 5 = true) ∧ Aside0 (LL 7 = true → LL 6 = true) ∧ Aside0 (LL 8 = true → LL 7 = true) ∧ Aside0 (LL 9 = true → LL 8 = true) ∧ Aside0 (LL 12 = true → LL 9 = true ∧ LL 11 = true) ∧ Aside0 (LL 11 = true → RowAt w1.heap.size wx gg.2.2.2.2 (LL 12) #[.slice A7 Y.f0.length c7, .slice A8 Y.f1.length c8] #[.slice none 0 0, .slice none 0 0] 44) ∧ Aside0 (LL 11 = true → LL 3 = true → gg.1.ownBlock ≠ some gg.2.2.2.2)) (undef, 0, none, 0, 0) (zz [(13, u13), (14, u14), (34, u34), (35, u35), (36, u36), (37, u37), (38, u38), (39, u39), (40, u40), (41, u41), (42, u42), (43, u43), (44, u44)]) rfl rfl ⟨⟨below_drew (Below.refl _ _)⟩, ⟨fun h => absurd h (by decide)⟩, ⟨fun h => absurd h (by decide)⟩, ⟨fun h => absurd h (by decide)⟩, ⟨fun h => absurd h (by decide)⟩, ⟨fun h => absurd h (by decide)⟩, ⟨fun h => absurd h (by decide)⟩, ⟨fun h => absurd h (by decide)⟩, ⟨fun h => absurd h (by decide)⟩, ⟨fun h => absurd h (by decide)⟩, ⟨fun h => absurd h (by decide)⟩, ⟨fun h => absurd h (by decide)⟩⟩ ?_ ?_
     ·
      refine Steps.cons ?_ (Steps.cons ?_ (Steps.cons ?_ (Steps.cons ?_ (Steps.cons ?_ (Steps.cons ?_ (Steps.cons ?_ (Steps.cons ?_ (Steps.cons ?_ (Steps.cons ?_ (Steps.cons ?_ (Steps.cons ?_ (Steps.cons ?_ (Steps.cons ?_ (Steps.nil))))))))))))))
      ·
       refine V0 0 (h := fun LL gg z wx hl hLk  K hK => ?_)
       obtain ⟨⟨hb, h38, hlt, h40, hW, p6, p7, p8, p9, z12, h9, n13⟩⟩ := hl
       have q0_T : wx.cell? ⟨w.heap.size, 0, none⟩ = some (.slice A0 nl c0) := (blk_cell (blk_below HT1.out.1 hb.out) 0).trans rfl
       have q1_T : wx.cell? ⟨w.heap.size, 1, none⟩ = some (.slice A1 n c1) := (blk_cell (blk_below HT1.out.1 hb.out) 1).trans rfl
       have q2_T : wx.cell? ⟨w.heap.size, 2, none⟩ = some (.int .i64 top) := (blk_cell (blk_below HT1.out.1 hb.out) 2).trans rfl
       have q3_T : wx.cell? ⟨w.heap.size, 3, none⟩ = some (.bool sh) := (blk_cell (blk_below HT1.out.1 hb.out) 3).trans rfl
       dsimp only [FA]
       refine wantd (by rfl) ?_
       go_simp
       exact hK.out
      ·
       exact V0 1
      ·
       refine V1 2 1 (h := fun LL gg z wx hl hLk e1 K hK => ?_)
       obtain ⟨⟨hb, h38, hlt, h40, hW, p6, p7, p8, p9, z12, h9, n13⟩⟩ := hl
       have q0_X : wx.cell? ⟨w.heap.size + 1, 0, none⟩ = some (.slice A5 X.f0.length c5) := (blk_cell (blk_below HX1.out hb.out) 0).trans rfl
       dsimp only [FA]
       refine wantd (by rfl) ?_
       go_simp
       exact hK.out
      ·
       refine CD 3 (fun _ => rfl) (fun _ => rfl) fun LL gg z wx hl hLk hd hI K hK => ?_
       obtain ⟨⟨hb, h38, hlt, h40, hW, p6, p7, p8, p9, z12, h9, n13⟩⟩ := hl
       have e2 := hI.at 2 rfl (hd 2 rfl)
       dsimp only [FA]
       refine wantd (by rfl) ?_
       go_simp
       refine (FCL.out wx hb.out).mono ?_
       rintro e w' ⟨x', rfl, ho, hb1⟩
       exact hK (x', gg.2.1, gg.2.2.1, gg.2.2.2.1, gg.2.2.2.2) _ _ (sm1 e2) rfl rfl ⟨⟨below_step hb.out hb1⟩, ⟨fun _ _ => Kd.R_lower ho hb.out.size⟩, ⟨fun _ => Kd.R_lt ho⟩, ⟨fun a b => ⟨blk_below (h40.out a b).1 hb1, fun _ e => by have h1 := Kd.R_base ho gg.2.1 e; have h2 := blk_lt (h40.out a b).1; omega⟩⟩, ⟨fun a _ => absurd (p6.out a).1 (by rw [hLk]; decide)⟩, ⟨fun a => ⟨rfl, upd_old (p6.out a).2⟩⟩, p7, p8, p9, z12, ⟨fun h => (h9.out h).below hb1⟩, ⟨fun a _ e => by have h1 := Kd.R_base ho gg.2.2.2.2 e; have h2 := (h9.out a).lt; omega⟩⟩
      ·
       exact V0 4
      ·
       refine CD 5 (fun _ => rfl) (fun _ => rfl) fun LL gg z wx hl hLk hd hI K hK => ?_
       obtain ⟨⟨hb, h38, hlt, h40, hW, p6, p7, p8, p9, z12, h9, n13⟩⟩ := hl
       have e4 := hI.at 4 rfl (hd 4 rfl)
       dsimp only [FA]
       refine wantd (by rfl) ?_
       go_simp
       exact hK (gg.1, wx.heap.size, gg.2.2.1, gg.2.2.2.1, gg.2.2.2.2) _ _ (sm1 e4) rfl rfl ⟨⟨below_alloc hb.out _⟩, ⟨fun a b => Kd.R_alloc (h38.out a b) _⟩, ⟨fun a k e => Nat.lt_of_lt_of_le (hlt.out a k e) (below_alloc (Below.refl wx.heap.size wx) _).size⟩, ⟨fun _ _ => ⟨by simpa using heap_alloc_new wx _, fun a e => Nat.lt_irrefl _ (hlt.out a _ e)⟩⟩, ⟨fun a _ => absurd (p6.out a).2 (by rw [hLk]; decide)⟩, ⟨fun a => ⟨upd_old (p6.out a).1, rfl⟩⟩, p7, p8, p9, z12, ⟨fun h => (h9.out h).alloc _⟩, n13⟩
      ·
       refine CD 6 (fun _ => rfl) (fun _ => rfl) fun LL gg z wx hl hLk hd hI K hK => ?_
       obtain ⟨⟨hb, h38, hlt, h40, hW, p6, p7, p8, p9, z12, h9, n13⟩⟩ := hl
       have e3 := hI.at 3 rfl (hd 3 rfl)
       have e5 := hI.at 5 rfl (hd 5 rfl)
       have hr0 := h38.out (hd 3 rfl) hLk
       have hq := Kd.R_base hr0
       have h4 := h40.out (hd 5 rfl) hLk
       refine Kd.R_append_rows_step (Kd.int .i32) (w0 := wx) w1.heap.size (by rfl) (.tmp 38) (.tmp 40) 26 21 (.int .i32 0) 4 rfl Try.underlying26 info21 rfl (by decide) (by omega) gg.1 X.f0 [r] (some ⟨gg.2.1, 0, none⟩) 1 1 (fun _ => True) (fun _ => False) e3 e5 hr0 (row1I h4.1) (fun _ _ h => h) (fun _ h => h.elim) (fun _ _ => trivial) (Below.refl _ _) hb.out.size (by have := HI.out; omega) ?_
       intro x' w3 ho hb1 hg1 hat1
       obtain ⟨A', c', rfl, hcx, _⟩ := Kd.R_reads ho
       rw [List.length_append, List.length_singleton] at hcx ⊢
       exact hK (gg.1, gg.2.1, A', c', gg.2.2.2.2) _ _ rfl rfl rfl ⟨⟨hb.out.grown hg1 hb.out.size (fun q e => hq q e)⟩, ⟨fun _ b => Bool.noConfusion (show true = false from b)⟩, ⟨fun a k e => Nat.lt_of_lt_of_le (hlt.out a k e) hb1.size⟩, ⟨fun _ b => Bool.noConfusion (show true = false from b)⟩, ⟨fun _ _ => by have h := ho; rw [List.length_append, List.length_singleton] at h; exact h⟩, ⟨fun _ => ⟨hd 3 rfl, hd 5 rfl⟩⟩, ⟨fun _ => rfl⟩, p8, p9, z12, ⟨fun h => ⟨(h9.out h).1, (hg1.block gg.2.2.2.2 (h9.out h).lt (fun e => n13.out h (hd 3 rfl) e.symm)).trans (h9.out h).2⟩⟩, n13⟩
      ·
       refine CD 7 (fun _ => rfl) (fun _ => rfl) fun LL gg z wx hl hLk hd hI K hK => ?_
       obtain ⟨⟨hb, h38, hlt, h40, hW, p6, p7, p8, p9, z12, h9, n13⟩⟩ := hl
       have e0 := hI.at 0 rfl (hd 0 rfl)
       have e6 := hI.at 6 rfl (hd 6 rfl)
       dsimp only [FA]
       refine wantd (by rfl) ?_
       go_simp
       have hw := Kd.R_reads' (hW.out (hd 6 rfl) hLk)
       rw [List.length_append, List.length_singleton] at hw
       refine (FFD.out wx hb.out gg.2.2.1 gg.2.2.2.1 hw.2.2 hw.2.1).mono ?_
       rintro e w' ⟨rfl, hb1⟩
       exact hK gg _ _ (sm2 e0 e6) rfl rfl ⟨⟨below_step hb.out hb1⟩, ⟨fun a b => Kd.R_below (h38.out a b) hb1⟩, ⟨fun a k e => Nat.lt_of_lt_of_le (hlt.out a k e) hb1.size⟩, ⟨fun a b => ⟨blk_below (h40.out a b).1 hb1, (h40.out a b).2⟩⟩, ⟨fun _ b => Bool.noConfusion (show true = false from b)⟩, p6, ⟨fun _ => hd 6 rfl⟩, ⟨fun _ => rfl⟩, p9, z12, ⟨fun h => (h9.out h).below hb1⟩, n13⟩
      ·
       exact V1 8 7 (hT := fun _ => rfl) (hR := fun LL gg z wx hLk hd ⟨hb, h38, hlt, h40, hW, p6, p7, p8, p9, z12, h9, n13⟩ => ⟨hb, h38, hlt, h40, hW, p6, p7, ⟨fun _ => hd 7 rfl⟩, ⟨fun _ => rfl⟩, z12, h9, n13⟩)
      ·
       exact V1 9 8 (hT := fun _ => rfl) (hR := fun LL gg z wx hLk hd ⟨hb, h38, hlt, h40, hW, p6, p7, p8, p9, z12, h9, n13⟩ => ⟨hb, h38, hlt, h40, hW, p6, p7, p8, ⟨fun _ => hd 8 rfl⟩, ⟨fun h => ⟨upd_old (z12.out h).1, upd_old (z12.out h).2⟩⟩, h9, n13⟩)
      ·
       exact V1 10 8
      ·
       refine CD 11 (fun _ => rfl) (fun _ => rfl) fun LL gg z wx hl hLk hd hI K hK => ?_
       obtain ⟨⟨hb, h38, hlt, h40, hW, p6, p7, p8, p9, z12, h9, n13⟩⟩ := hl
       dsimp only [FA]
       refine wantd (by rfl) ?_
       go_simp
       exact hK (gg.1, gg.2.1, gg.2.2.1, gg.2.2.2.1, wx.heap.size) _ _ rfl rfl rfl ⟨⟨below_alloc hb.out _⟩, ⟨fun a b => Kd.R_alloc (h38.out a b) _⟩, ⟨fun a k e => Nat.lt_of_lt_of_le (hlt.out a k e) (below_alloc (Below.refl wx.heap.size wx) _).size⟩, ⟨fun a b => ⟨blk_alloc (h40.out a b).1 _, (h40.out a b).2⟩⟩, ⟨fun a b => Kd.R_alloc (hW.out a b) _⟩, p6, p7, p8, p9, ⟨fun h => ⟨upd_old (z12.out h).1, upd_old (z12.out h).2⟩⟩, ⟨fun _ => RowAt.new _ _ _ (flag_off (fun h => (z12.out h).2) hLk) hb.out.size⟩, ⟨fun _ a e => Nat.lt_irrefl _ (hlt.out a _ e)⟩⟩
      ·
       refine CS (fun _ => rfl) fun LL gg z wx hl hLk hd hI K hK => ?_
       obtain ⟨⟨hb, h38, hlt, h40, hW, p6, p7, p8, p9, z12, h9, n13⟩⟩ := hl
       have e11 := hI.at 11 rfl (hd 11 rfl)
       have e9 := hI.at 9 rfl (hd 9 rfl)
       have r_ := h9.out (hd 11 rfl)
       have rv := r_.void hLk
       have f0 := blk_frozen rv 0
       have f1 := blk_frozen rv 1
       have c0_ := blk_cell rv 0
       have c1_ := blk_cell rv 1
       have l8 := p9.out (hd 9 rfl)
       have l7 := p8.out l8
       have l6 := p7.out l7
       dsimp only [FA]
       refine wantd (by rfl) ?_
       go_simp
       exact hK _ _ (sm2 e11 e9) ⟨⟨below_set (below_set hb.out r_.1) r_.1⟩, ⟨fun _ b => absurd l6 (by rw [show LL 6 = false from b]; decide)⟩, ⟨fun a k e => by have := hlt.out a k e; rw [size_set2]; exact this⟩, ⟨fun _ b => absurd l6 (by rw [show LL 6 = false from b]; decide)⟩, ⟨fun _ b => absurd l7 (by rw [show LL 7 = false from b]; decide)⟩, p6, p7, p8, p9, ⟨fun _ => ⟨hd 9 rfl, hd 11 rfl⟩⟩, ⟨fun _ => ⟨r_.1, blk_put2 rv _ _⟩⟩, n13⟩
      ·
       exact V1 12 10
     ·
      intro LL gg z wc hall hI hl
      obtain ⟨x38, g40, AW, cW, g13⟩ := gg
      obtain ⟨⟨hb, h38, hlt, h40, hW, p6, p7, p8, p9, z12, h9, n13⟩⟩ := hl
      have e11 := hI.at 11 rfl (hall 11 (by decide))
      have e13 := hI.at 12 rfl (hall 13 (by decide))
      dsimp only [FA] at hb h38 hlt h40 hW p6 p7 p8 p9 z12 h9 n13 e11 e13 ⊢
      rw [e13, e11]
      have HBC := hb
      have HG13 := Aside0.mk ((h9.out (hall 11 (by decide))).full (hall 12 (by decide)))
      clear hI hb h38 hlt h40 hW p6 p7 p8 p9 z12 h9 n13 e13 e11 hall
      have HBW := Aside0.mk (below_step HB1.out HBC.out)
      have HXW := Aside0.mk (blk_below HX1.out HBC.out)
      have HTW := Aside0.mk (And.intro (blk_below HT1.out.1 HBC.out) (And.intro (blk_below HT1.out.2.1 HBC.out) (Nat.le_trans HT1.out.2.2 HBC.out.size)))
      have HLW := Aside0.mk (Kd.R_below HL1.out HBC.out)
      have HIW := Aside0.mk (show wrap64 ((i : Int) + 1) = ((i + 1 : Nat) : Int) by have := HIL.out; have := H2.out.2.2; have := HNN.out.2.2; unfold wrap64; omega)
      clear HB1 HX1 HT1 HL1 FFD FCL HBC d1 d2
      rcases Int.lt_trichotomy over cc with ho | ho | ho
      ·
       have t1 : (over < cc) = True := eq_true ho
       have t2 : (cc < over) = False := eq_false (by omega)
       have t3 : (cc ≤ over) = False := eq_false (by omega)
       have t4 : (over ≤ cc) = True := eq_true (by omega)
       have HOV := Aside0.mk ho
       have f0 := blk_frozen HXW.out 0
       have f1 := blk_frozen HXW.out 1
       have c0_ := blk_cell HXW.out 0
       have c1_ := blk_cell HXW.out 1
       have y0 : wc.cell? ⟨g13, 0, none⟩ = some (.slice A7 Y.f0.length c7) := (blk_cell HG13.out 0).trans rfl
       have y1 : wc.cell? ⟨g13, 1, none⟩ = some (.slice A8 Y.f1.length c8) := (blk_cell HG13.out 1).trans rfl
       clear ho
       go_wp2_with fail
       go_roundw
       case rel =>
        refine ⟨i + 1, over, Y, left, A7, c7, A8, c8, by rw [HIW.out], rfl, ⟨by have := HIL.out; omega, by have := HI.out; omega, HF.out Y (List.mem_of_find?_eq_some HIB.out), ?_⟩, HV7, ⟨blk_put2 HXW.out _ _⟩, ⟨blk_far2 HTW.out.1 (by omega) _ _, blk_far2 HTW.out.2.1 (by omega) _ _, by rw [size_set2]; exact HTW.out.2.2⟩, ⟨Kd.R_mono (Kd.R_far (p := ⟨w.heap.size + 1, 1, none⟩) (Kd.R_far (p := ⟨w.heap.size + 1, 0, none⟩) (Kd.R_bound HLW.out) (fun k hk => by have := hk.2.1; show k ≠ w.heap.size + 1; omega) _) (fun k hk => by have := hk.2.1; show k ≠ w.heap.size + 1; omega) _) (fun _ _ => trivial)⟩, ⟨below_set2 HBW.out (by omega) _ _⟩⟩
        have hcr : ¬ cls r = 0 := by rw [← HCC.out]; exact HZ.out
        rw [HI.out.2.2.2, HRD.out, longerR, if_neg hcr, HIB.out]
        simp only []
        rw [if_pos (by rw [← HCC.out]; exact HOV.out)]
       case measure => rw [HIW.out]; simp only [intOf]; have := HIL.out; omega
      ·
       subst ho
       have HMX : Aside0 (max over over = over) := ⟨by omega⟩
       have HNO : Aside0 (¬ over < over) := ⟨by omega⟩
       go_wp2_with ((with_reducible refine gate_builtin (b := .append) (xs := #[.tmp 55, .tmp 57]) rfl ?_); at_builtin; refine Kd.R_append (Kd.int .i32) (w0 := wc) (w.heap.size + 3) rfl (.tmp 55) (.tmp 57) 26 21 (.int .i32 0) 4 rfl Try.underlying26 info21 rfl (by decide) (by omega) u8 left r [.int .i32 r] (fun _ => True) (fun _ => False) rfl (by first | (go_simp; done) | (go_simp; rfl)) ?aP (fun _ hk => hk.elim) (fun _ _ => trivial) ?aO ?aB ?aS ?aL ?_; (case aP => exact rfl); (case aO => exact HLW.out); (case aB => exact Below.refl _ _); (case aS => exact HTW.out.2.2); (case aL => have := HI.out; have := H2.out.2.2; have := HNN.out.2.2; have := HIL.out; omega); intro v2 w2 ho2 hb2 hg2 hat2; have HO2 := Aside0.mk ho2; have HB2 := Aside0.mk hb2; clear ho2 hb2 hg2 hat2)
       go_roundw
       case rel =>
        refine ⟨i + 1, over, X, left ++ [r], A5, c5, A6, c6, by rw [HIW.out], rfl, ⟨by have := HIL.out; omega, by rw [List.length_append, List.length_singleton]; have := HI.out; omega, HI.out.2.2.1, ?_⟩, HV, ⟨(HB2.out.block _ (by omega)).trans HXW.out⟩, ⟨(HB2.out.block _ (by omega)).trans HTW.out.1, (HB2.out.block _ (by omega)).trans HTW.out.2.1, Nat.le_trans HTW.out.2.2 HB2.out.size⟩, HO2, ⟨HBW.out.trans ⟨HB2.out.os, HB2.out.tape, HB2.out.output, HB2.out.size, fun k hk => HB2.out.block k (by omega)⟩⟩⟩
        have hcr : ¬ cls r = 0 := by rw [← HCC.out]; exact HZ.out
        rw [HI.out.2.2.2, HRD.out, longerR, if_neg hcr, HIB.out]; simp only []; rw [if_neg (by rw [← HCC.out]; exact HNO.out), ← HCC.out, HMX.out]
       case measure => rw [HIW.out]; simp only [intOf]; have := HIL.out; omega
      ·
       have t1 : (over < cc) = False := eq_false (by omega)
       have t2 : (cc < over) = True := eq_true (by omega)
       have t3 : (cc ≤ over) = True := eq_true (by omega)
       have t4 : (over ≤ cc) = False := eq_false (by omega)
       have HMX : Aside0 (max over cc = over) := ⟨by omega⟩
       have HNO : Aside0 (¬ over < cc) := ⟨by omega⟩
       clear ho
       go_wp2_with ((with_reducible refine gate_builtin (b := .append) (xs := #[.tmp 55, .tmp 57]) rfl ?_); at_builtin; refine Kd.R_append (Kd.int .i32) (w0 := wc) (w.heap.size + 3) rfl (.tmp 55) (.tmp 57) 26 21 (.int .i32 0) 4 rfl Try.underlying26 info21 rfl (by decide) (by omega) u8 left r [.int .i32 r] (fun _ => True) (fun _ => False) rfl (by first | (go_simp; done) | (go_simp; rfl)) ?aP (fun _ hk => hk.elim) (fun _ _ => trivial) ?aO ?aB ?aS ?aL ?_; (case aP => exact rfl); (case aO => exact HLW.out); (case aB => exact Below.refl _ _); (case aS => exact HTW.out.2.2); (case aL => have := HI.out; have := H2.out.2.2; have := HNN.out.2.2; have := HIL.out; omega); intro v2 w2 ho2 hb2 hg2 hat2; have HO2 := Aside0.mk ho2; have HB2 := Aside0.mk hb2; clear ho2 hb2 hg2 hat2)
       go_roundw
       case rel =>
        refine ⟨i + 1, over, X, left ++ [r], A5, c5, A6, c6, by rw [HIW.out], rfl, ⟨by have := HIL.out; omega, by rw [List.length_append, List.length_singleton]; have := HI.out; omega, HI.out.2.2.1, ?_⟩, HV, ⟨(HB2.out.block _ (by omega)).trans HXW.out⟩, ⟨(HB2.out.block _ (by omega)).trans HTW.out.1, (HB2.out.block _ (by omega)).trans HTW.out.2.1, Nat.le_trans HTW.out.2.2 HB2.out.size⟩, HO2, ⟨HBW.out.trans ⟨HB2.out.os, HB2.out.tape, HB2.out.output, HB2.out.size, fun k hk => HB2.out.block k (by omega)⟩⟩⟩
        have hcr : ¬ cls r = 0 := by rw [← HCC.out]; exact HZ.out
        rw [HI.out.2.2.2, HRD.out, longerR, if_neg hcr, HIB.out]; simp only []; rw [if_neg (by rw [← HCC.out]; exact HNO.out), ← HCC.out, HMX.out]
       case measure => rw [HIW.out]; simp only [intOf]; have := HIL.out; omega
  ·
   have r1 := eq_false hlt
   have r2 : (i < l) = False := eq_false (by omega)
   have HRES : Aside0 (longerR cls rows X0 0 [] s = (X, left)) := ⟨by
    rw [HI.out.2.2.2, List.drop_eq_nil_of_le (by have := HNN.out.2.2; omega)]; rfl⟩
   have x0 := blk_cell HX.out 0
   have x1 := blk_cell HX.out 1
   have f0 := blk_frozen HT.out.2.1 0
   have f1 := blk_frozen HT.out.2.1 1
   have y0 := blk_cell HT.out.2.1 0
   have y1 := blk_cell HT.out.2.1 1
   clear hlt
   go_wp2_with fail
   have hB2 := below_set2 HBR.out (g := w.heap.size + 2) (by omega) (.slice A5 X.f0.length c5) (.slice A6 X.f1.length c6)
   refine bodyPost_ret (results_ct rfl _ _ (w.heap.size + 2) 44 #[.slice A5 X.f0.length c5, .slice A6 X.f1.length c6] (0, 0) _ rfl (blk_put2 HT.out.2.1 _ _) Try.underlying44 rfl (by kernel_rfl)) rfl ?_
   rw [HRES.out]
   exact ⟨A5, c5, A6, c6, u8, rfl, HV.out, Kd.R_lower (Kd.R_mono (Kd.R_far (p := ⟨w.heap.size + 2, 1, none⟩) (Kd.R_far (p := ⟨w.heap.size + 2, 0, none⟩) (Kd.R_bound HL.out) (fun k hk => by have := hk.2.1; show k ≠ w.heap.size + 2; omega) _) (fun k hk => by have := hk.2.1; show k ≠ w.heap.size + 2; omega) _) (fun _ _ => trivial)) (by omega), hB2⟩
theorem C_block {k : IntKind} {w w1 : World} {A : Option Addr} {n : Nat} {xs : List Int} (h : Kd.C (Kd.int k) w A n xs) (hg : ∀ ad, A = some ad → w1.heap[ad.block]? = w.heap[ad.block]?) : Kd.C (Kd.int k) w1 A n xs := by
 refine ⟨h.1, h.2.1, fun hn => ?_⟩
 obtain ⟨ad, rfl, h3⟩ := h.2.2 hn
 refine ⟨ad, rfl, fun j p hp => ?_⟩
 obtain ⟨c, h4, h5, h6⟩ := h3 j p hp
 refine ⟨c, h4, h5, fun i u hu => ?_⟩
 have hb : ∀ m : Nat, (ad.add m).block = ad.block := fun m => by unfold Addr.add; split <;> rfl
 exact (World.cell?_of_block (by rw [hb]; exact hg ad rfl)).trans (h6 i u hu)
theorem elsC {w : World} {g t : Nat} {a b c d e f : Int} (h : w.heap[g]? = some (.cells #[.int .i64 a, .int .i64 b, .int .i64 c, .int .i64 d, .int .i64 e, .int .i64 f] t (0, 0))) : Kd.C k39 w (some ⟨g, 0, Option.none⟩) 2 [⟨a, b, c⟩, ⟨d, e, f⟩] := by
 refine ⟨rfl, by decide, fun _ => ⟨_, rfl, fun j p hp => ?_⟩⟩
 have key : ∀ m, m < 6 → w.cell? ((⟨g, 0, Option.none⟩ : Addr).add m) = (#[Value.int .i64 a, .int .i64 b, .int .i64 c, .int .i64 d, .int .i64 e, .int .i64 f] : Array Value)[m]? := fun m hm => by
  have e : (⟨g, 0, Option.none⟩ : Addr).add m = ⟨g, m, Option.none⟩ := by
   unfold Addr.add
   split
   ·
    rename_i h; rw [h]
   ·
    simp
  rw [e]; exact blk_cell h m
 have tri : ∀ (x y z : Int) (o : Nat), o + 2 < 6 → (∀ q, q < 3 → (#[Value.int .i64 a, .int .i64 b, .int .i64 c, .int .i64 d, .int .i64 e, .int .i64 f] : Array Value)[o + q]? = [Value.int .i64 x, .int .i64 y, .int .i64 z][q]?) → ∃ cs : List Value, cs.length = k39.sz ∧ k39.K w ⟨x, y, z⟩ cs ∧ ∀ i u, cs[i]? = some u → w.cell? ((⟨g, 0, Option.none⟩ : Addr).add (o + i)) = some u := fun x y z o ho hq => by
  refine ⟨[.int .i64 x, .int .i64 y, .int .i64 z], rfl, ⟨[.int .i64 x], [.int .i64 y, .int .i64 z], rfl, rfl, [.int .i64 y], [.int .i64 z], rfl, rfl, rfl⟩, fun i u hu => ?_⟩
  have hi : i < 3 := (List.getElem?_eq_some_iff.1 hu).1
  rw [key _ (by omega), hq i hi]; exact hu
 match j, hp with
 | 0, hp =>
  obtain rfl := Option.some.inj hp
  exact tri a b c 0 (by decide) (fun q hq => by match q, hq with | 0, _ => rfl | 1, _ => rfl | 2, _ => rfl)
 | 1, hp =>
  obtain rfl := Option.some.inj hp
  exact tri d e f 3 (by decide) (fun q hq => by match q, hq with | 0, _ => rfl | 1, _ => rfl | 2, _ => rfl)
 | j + 2, hp => simp at hp
theorem longN_some {rows : List S44} {s : List Int} {x : S44} : ∀ {n : Nat}, n ≤ s.length → longN rows s n = some x → x ∈ rows ∧ 1 ≤ x.f0.length ∧ x.f0.length ≤ n ∧ x.f0 = s.take x.f0.length
 | 0, _, h => by cases h
 | n + 1, hn, h => by
  unfold longN at h
  cases hf : rowFor rows (s.take (n + 1)) with
  | none =>
   rw [hf] at h
   obtain ⟨h1, h2, h3, h4⟩ := longN_some (by omega) h
   exact ⟨h1, h2, by omega, h4⟩
  | some y =>
   rw [hf] at h
   obtain rfl := Option.some.inj h
   have e : y.f0 = s.take (n + 1) := by simpa using List.find?_some hf
   have hl : y.f0.length = n + 1 := by rw [e, List.length_take]; omega
   exact ⟨List.mem_of_find?_eq_some hf, by omega, by omega, by rw [hl]; exact e⟩
theorem longestR_some {rows : List S44} {s : List Int} {x : S44} (h : longestR rows s = some x) : x ∈ rows ∧ 1 ≤ x.f0.length ∧ x.f0.length ≤ s.length ∧ x.f0.length ≤ 3 ∧ x.f0 = s.take x.f0.length := by
 obtain ⟨h1, h2, h3, h4⟩ := longN_some (Nat.min_le_right _ _) h
 exact ⟨h1, h2, by omega, by omega, h4⟩
theorem longerR_len (cls : Int → Int) (rows : List S44) : ∀ (s : List Int) (x : S44) (over : Int) (left : List Int), (longerR cls rows x over left s).2.length ≤ left.length + s.length ∧ ((longerR cls rows x over left s).1 = x ∨ (longerR cls rows x over left s).1 ∈ rows)
 | [], x, over, left => ⟨by simp [longerR], .inl rfl⟩
 | r :: t, x, over, left => by
  unfold longerR
  by_cases hc : cls r = 0
  ·
   rw [if_pos hc]; exact ⟨by simp, .inl rfl⟩
  ·
   rw [if_neg hc]
   have g : ∀ o, (longerR cls rows x o (left ++ [r]) t).2.length ≤ left.length + (r :: t).length ∧ ((longerR cls rows x o (left ++ [r]) t).1 = x ∨ (longerR cls rows x o (left ++ [r]) t).1 ∈ rows) := fun o => by
    have h := longerR_len cls rows t x o (left ++ [r])
    rw [List.length_append, List.length_singleton] at h
    exact ⟨by rw [List.length_cons]; omega, h.2⟩
   cases hf : rowFor rows (x.f0 ++ [r]) with
   | none => exact g _
   | some y =>
    simp only []
    by_cases ho : over < cls r
    ·
     rw [if_pos ho]
     have h := longerR_len cls rows t y over left
     refine ⟨by rw [List.length_cons]; omega, ?_⟩
     rcases h.2 with h2 | h2
     ·
      rw [h2]; exact .inr (List.mem_of_find?_eq_some hf)
     ·
      exact .inr h2
    ·
     rw [if_neg ho]; exact g _
theorem mayR_four {l : List S42} {rows : List S44} (h : mayR l rows = true) : Ris rows ∧ ∀ x ∈ rows, 1 ≤ x.f0.length ∧ x.f0.length ≤ 3 ∧ x.f1.length ≤ 4 := by
 have h0 : ∀ j < rows.length, (rowB l (rows.getD j z44) && (j == 0 || decide (cmpL (rows.getD (j - 1) z44).f0 (rows.getD j z44).f0 < 0))) = true := by
  unfold mayR at h
  rw [List.all_eq_true] at h
  exact fun j hj => h j (List.mem_range.2 hj)
 obtain ⟨_, h2, h3⟩ := mayR_all h0
 refine ⟨h2, fun x hx => ⟨(h3 x hx).1, (h3 x hx).2, ?_⟩⟩
 obtain ⟨j, hj, rfl⟩ := List.getElem_of_mem hx
 have h1 := h0 j hj
 rw [Bool.and_eq_true] at h1
 have h2 := h1.1
 rw [show rows.getD j z44 = rows[j] by simp [List.getD, hj]] at h2
 unfold rowB at h2
 rw [Bool.and_eq_true, Bool.and_eq_true] at h2
 exact of_decide_eq_true h2.2.1
theorem adr_block (ad : Addr) (m : Nat) : (ad.add m).block = ad.block := by unfold Addr.add; split <;> rfl
theorem C_dropI {w : World} {A : Option Addr} {c : Nat} {s : List Int} (m : Nat) (h : Kd.C (Kd.int .i32) w A s.length s) (hm : m ≤ s.length) (hc : s.length ≤ c) : Kd.C (Kd.int .i32) w (if c = m then A else A.map (·.add m)) (s.drop m).length (s.drop m) := by
 have h1 := Kd.C_drop h hm hc
 rw [show (Kd.int .i32).sz = 1 from rfl, Nat.mul_one] at h1
 exact h1
theorem typ_other {w w1 : World} {u : Value} {b : Nat} (ht : ∃ cells, w.heap[b]? = some (.cells cells 21 (0, 0))) (hu : ∀ k, u.ownBlock = some k → ∃ cells, w.heap[k]? = some (.cells cells 39 (0, 0))) (hg : w.grownBy w1 u.ownBlock) : ∃ cells, w1.heap[b]? = some (.cells cells 21 (0, 0)) := by
 obtain ⟨cells, h⟩ := ht
 refine ⟨cells, (hg.block b (blk_lt h) (fun e => ?_)).trans h⟩
 obtain ⟨c2, h2⟩ := hu b e.symm
 rw [h] at h2
 simp at h2
theorem C_other {w w1 : World} {u : Value} {ad : Addr} {n : Nat} {xs : List Int} (h : Kd.C (Kd.int .i32) w (some ad) n xs) (ht : ∃ cells, w.heap[ad.block]? = some (.cells cells 21 (0, 0))) (hu : ∀ k, u.ownBlock = some k → ∃ cells, w.heap[k]? = some (.cells cells 39 (0, 0))) (hg : w.grownBy w1 u.ownBlock) : Kd.C (Kd.int .i32) w1 (some ad) n xs := by
 refine C_block h (fun ad' e => ?_)
 obtain rfl := Option.some.inj e
 obtain ⟨cells, hc⟩ := ht
 refine hg.block _ (blk_lt hc) (fun e2 => ?_)
 obtain ⟨c2, h2⟩ := hu _ e2.symm
 rw [hc] at h2
 simp at h2
set_option maxHeartbeats 8000000 in
set_option maxRecDepth 100000 in
theorem weigh_Elements.calls (A0_0 : Option Addr) (c0_0 : Nat) (l0_0 : List (S42)) (A0_1 : Option Addr) (c0_1 : Nat) (l0_1 : List (S44)) (a0_2 : Int) (a0_3 : Bool) (A1 : Option Addr) (c1 : Nat) (l1 : List Int) (r1 : List (S39)) (r2 : Int) (w : World) (hr0_0 : Kd.C k42 w A0_0 l0_0.length l0_0) (hc0_0 : l0_0.length ≤ c0_0) (hr0_1 : Kd.C k44 w A0_1 l0_1.length l0_1) (hc0_1 : l0_1.length ≤ c0_1) (hr1 : Kd.C (Kd.int .i32) w A1 l1.length l1) (hc1 : l1.length ≤ c1) (h : weigh_Elements.f l0_0 l0_1 a0_2 a0_3 l1 = some (r1, r2)) :
  Calls Try.prog 11 #[.agg #[.slice A0_0 l0_0.length c0_0, .slice A0_1 l0_1.length c0_1, .int .i64 a0_2, .bool a0_3], .slice A1 l1.length c1] w fun e w' => ∃ v0_ : Value, e = .returned (.tuple #[v0_, .int .i64 r2]) ∧ Kd.R k39 39 w' w.heap.size (fun _ => True) v0_ r1 ∧ Below w.heap.size w w' := by
 unfold weigh_Elements.f at h
 obtain ⟨m, hm, h⟩ := Option.bind_eq_some_iff.mp h
 obtain ⟨W, hW⟩ : ∃ W, W = w.alloc (.cells #[.slice A0_0 l0_0.length c0_0, .slice A0_1 l0_1.length c0_1, .int .i64 a0_2, .bool a0_3] 25) := ⟨_, rfl⟩
 have hB : Below w.heap.size w W := by subst hW; exact below_alloc (Below.refl _ _) _
 have t0 : W.heap[w.heap.size]? = some (.cells #[.slice A0_0 l0_0.length c0_0, .slice A0_1 l0_1.length c0_1, .int .i64 a0_2, .bool a0_3] 25 (0, 0)) := by subst hW; simpa using heap_alloc_new w _
 have FM := Aside0.mk (weigh_May.calls A0_0 c0_0 l0_0 A0_1 c0_1 l0_1 a0_2 a0_3 m W (Kd.C_below hr0_0 hB) hc0_0 (Kd.C_below hr0_1 hB) hc0_1 hm)
 have HR := Aside0.mk (And.intro hr0_0 (And.intro hc0_0 (And.intro hr0_1 (And.intro hc0_1 (And.intro hr1 hc1)))))
 have HB := Aside0.mk hB
 have T0 := Aside0.mk t0
 have HM := Aside0.mk hm
 have H := Aside0.mk h
 clear hr0_0 hc0_0 hr0_1 hc0_1 hr1 hc1 h hB t0 hm
 go_enter Try.func11, Try.ntmps11
 go_wp2_with fail
 rw [← hW]
 refine FM.out.mono ?_
 rintro e w1 ⟨rfl, hb⟩
 have HB1 := Aside0.mk (below_step HB.out hb)
 have T1 := Aside0.mk (blk_below T0.out hb)
 clear hb hW FM T0 HB
 cases m with
 | false =>
  have h := H.out
  rw [if_neg (by decide)] at h
  obtain ⟨rfl, rfl⟩ := Prod.mk.inj (Option.some.inj h)
  clear h H
  go_wp2_with fail
  go_ret2
  exact ⟨_, rfl, Kd.R_nil _ _ _ _ _, HB1.out⟩
 | true =>
 have h := H.out
 rw [if_pos rfl] at h
 obtain ⟨p, hp, h⟩ := Option.bind_eq_some_iff.mp h
 have FN := Aside0.mk (lore_Normal.calls A0_0 c0_0 l0_0 A1 c1 l1 p.1 p.2 w1 (Kd.C_below HR.out.1 HB1.out) HR.out.2.1 (Kd.C_below HR.out.2.2.2.2.1 HB1.out) HR.out.2.2.2.2.2 hp)
 have q0 : w1.cell? ⟨w.heap.size, 0, none⟩ = some (.slice A0_0 l0_0.length c0_0) := (blk_cell T1.out 0).trans rfl
 clear hp H
 have H := Aside0.mk h
 clear h
 obtain ⟨s0, e0⟩ := p
 simp only [] at H FN
 go_wp2_with fail
 refine FN.out.mono ?_
 rintro e w2 ⟨v0, rfl, ho, hb⟩
 have HB2 := Aside0.mk (below_step HB1.out hb)
 have T2 := Aside0.mk (blk_below T1.out hb)
 have HO := Aside0.mk (Kd.R_lower ho HB1.out.size)
 clear ho hb q0 FN T1 HB1
 by_cases he : e0 = 0
 case neg =>
  have d1 : (e0 != 0) = true := by simpa using he
  have h := H.out
  rw [if_neg he] at h
  obtain ⟨rfl, rfl⟩ := Prod.mk.inj (Option.some.inj h)
  clear h H he
  go_wp2_with fail
  go_ret2
  exact ⟨_, rfl, Kd.R_nil _ _ _ _ _, HB2.out⟩
 have d1 : (e0 != 0) = false := by simpa using he
 have h := H.out
 rw [if_pos he] at h
 by_cases hlen : s0.length ≤ 1000000000
 case neg => rw [if_neg hlen] at h; cases h
 rw [if_pos hlen] at h
 obtain ⟨hr1, rfl⟩ := Prod.mk.inj (Option.some.inj h)
 have HLEN := Aside0.mk hlen
 have hmr : mayR l0_0 l0_1 = true ∧ l0_0.length ≤ 64 ∧ l0_1.length ≤ 64 := by
  have h := HM.out
  unfold weigh_May.f at h
  obtain ⟨t, ht, h⟩ := Option.bind_eq_some_iff.mp h
  have h := Option.some.inj h
  simp only [Bool.and_eq_true] at h
  refine ⟨h.2.2.2.1, ?_, of_decide_eq_true h.2.1⟩
  unfold lore_May.f at ht
  by_cases h2 : (l0_0.length : Int) > 64
  ·
   rw [if_pos h2] at ht
   obtain rfl := Option.some.inj ht
   cases h.1
  ·
   omega
 have hfour := mayR_four hmr.1
 have HFO := Aside0.mk hfour
 have FG := Aside0.mk (fun (s : List Int) (A : Option Addr) (c : Nat) (W' : World) (hb : Below w.heap.size w W') (hC : Kd.C (Kd.int .i32) W' A s.length s) (hc : s.length ≤ c) (hs : s.length ≤ 1000000000) => longest_any A0_0 c0_0 l0_0.length a0_2 a0_3 A0_1 c0_1 l0_1 A c s w W' hb HR.out.2.2.1 (by omega) (fun x hx => by have := (hfour.2 x hx).2.1; omega) hC hc hfour.1 (by omega))
 have FR := Aside0.mk (fun (X : S44) (A3 : Option Addr) (c3 : Nat) (A4 : Option Addr) (c4 : Nat) (s : List Int) (A : Option Addr) (c : Nat) (W' : World) (hb : Below w.heap.size w W') (hC : Kd.C (Kd.int .i32) W' A s.length s) (hc : s.length ≤ c) (hs : s.length ≤ 1000000000) (hv : RowV w X A3 c3 A4 c4) (hx : X.f0.length ≤ 3) => longer_any A0_0 c0_0 l0_0 a0_2 a0_3 A0_1 c0_1 l0_1 X A3 c3 A4 c4 A c s w W' hb HR.out.1 HR.out.2.1 (by omega) HR.out.2.2.1 (by omega) (fun x hx => (hfour.2 x hx).2.1) hC hc hs hfour.1 hv hx)
 obtain ⟨cls, hcls⟩ : ∃ cls : Int → Int, cls = fun r => (rowOf l0_0 r).f1 := ⟨_, rfl⟩
 rw [← hcls] at FR hr1
 obtain ⟨n, hn⟩ : ∃ n, n = l0_1.length := ⟨_, rfl⟩
 obtain ⟨nl, hnl⟩ : ∃ nl, nl = l0_0.length := ⟨_, rfl⟩
 rw [← hn, ← hnl] at FG FR T2
 rw [← hn, ← hnl]
 obtain ⟨l0, hl0⟩ : ∃ l0, l0 = s0.length := ⟨_, rfl⟩
 obtain ⟨A9, c9, rfl, hcx, hC⟩ := Kd.R_reads HO.out
 have hty : ∀ ad, A9 = some ad → ∃ cells, w2.heap[ad.block]? = some (.cells cells 21 (0, 0)) := fun ad ha => by
  obtain ⟨inner, hown⟩ := Kd.R_own HO.out
  exact own_typed hown ad.block (by rw [ha]; rcases hown.2 with ⟨h1, h2⟩ | ⟨g, cap, cur, h1, _⟩ <;> · rw [ha] at h1; cases h1; try rfl)
 have HR1 := Aside0.mk hr1.symm
 have HC0 := Aside0.mk (And.intro hC (And.intro hcx hty))
 clear hr1 h H he hlen hmr hfour hcls hn hnl hl0 hcx hC hty HM HO HR
 go_wp2_with fail
 go_loopw [6, 8] (fun v6 v8 wr => ∃ (s : List Int) (k : Nat) (o : List S39) (A : Option Addr) (c : Nat), v6 = .slice A s.length c ∧ Aside0 (s.length ≤ k ∧ s.length ≤ s0.length ∧ o.length ≤ 4 * (s0.length - s.length) ∧ r1 = o ++ elemsN cls l0_1 k s) ∧ Aside0 (Kd.C (Kd.int .i32) wr A s.length s ∧ s.length ≤ c ∧ (∀ ad, A = some ad → ∃ cells, wr.heap[ad.block]? = some (.cells cells 21 (0, 0)))) ∧ Aside0 (wr.heap[w.heap.size]? = some (.cells #[.slice A0_0 nl c0_0, .slice A0_1 n c0_1, .int .i64 a0_2, .bool a0_3] 25 (0, 0)) ∧ w.heap.size + 1 ≤ wr.heap.size) ∧ Aside0 (Kd.R k39 39 wr (w.heap.size + 1) (fun _ => True) v8 o) ∧ Aside0 (Below w.heap.size w wr)) (fun v6 _ _ => match v6 with | .slice _ m _ => m | _ => 0)
 case atStart => exact ⟨s0, s0.length, [], A9, c9, rfl, ⟨Nat.le_refl _, Nat.le_refl _, Nat.zero_le _, HR1.out⟩, HC0, ⟨T2.out, blk_lt T2.out⟩, ⟨Kd.R_nil _ _ _ _ _⟩, HB2⟩
 case round =>
  obtain ⟨s, k, o, A, c, rfl, HS, HC, HT, HO, HBR⟩ := hrel
  cases s with
  | nil =>
   have HRES : Aside0 (r1 = o) := ⟨by rw [HS.out.2.2.2]; cases k <;> simp [elemsN]⟩
   rw [List.length_nil]
   go_wp2_with fail
   go_ret2
   rw [HRES.out]
   exact ⟨_, rfl, Kd.R_lower HO.out (by omega), HBR.out⟩
  | cons r t =>
   obtain ⟨l, hl⟩ : ∃ l, l = (r :: t).length := ⟨_, rfl⟩
   have hl1 : l = t.length + 1 := by rw [hl, List.length_cons]
   have r1 : ((0 : Int) < (l : Int)) = True := eq_true (by omega)
   have r2 : (0 < l) = True := eq_true (by omega)
   obtain ⟨k1, hk1⟩ : ∃ k1, k1 + 1 = k := ⟨k - 1, by have := HS.out.1; omega⟩
   subst hk1
   have FG1 := Aside0.mk (FG.out (r :: t) A c wr HBR.out HC.out.1 HC.out.2.1 (by have := HS.out.2.1; have := HLEN.out; omega))
   have q0 : wr.cell? ⟨w.heap.size, 0, none⟩ = some (.slice A0_0 nl c0_0) := (blk_cell HT.out.1 0).trans rfl
   have q1 : wr.cell? ⟨w.heap.size, 1, none⟩ = some (.slice A0_1 n c0_1) := (blk_cell HT.out.1 1).trans rfl
   have q2 : wr.cell? ⟨w.heap.size, 2, none⟩ = some (.int .i64 a0_2) := (blk_cell HT.out.1 2).trans rfl
   have q3 : wr.cell? ⟨w.heap.size, 3, none⟩ = some (.bool a0_3) := (blk_cell HT.out.1 3).trans rfl
   rw [← hl] at FG1 HS HC
   rw [← hl]
   have HLL := Aside0.mk (And.intro hl hl1)
   clear hl hl1
   go_wp2_with fail
   refine FG1.out.mono ?_
   rintro e w3 ⟨A5, c5, A6, c6, rfl, hv, hb⟩
   have HB3 := Aside0.mk (below_step HBR.out hb)
   have HBW := Aside0.mk hb
   have T3 := Aside0.mk (And.intro (blk_below HT.out.1 hb) (Nat.le_trans HT.out.2 hb.size))
   have HO3 := Aside0.mk (Kd.R_mono (ok' := fun q => q < wr.heap.size) (Kd.R_below (Kd.R_bound HO.out) hb) (fun q hq => hq.2.2.1))
   have HC3 : Aside0 (Kd.C (Kd.int .i32) w3 A l (r :: t) ∧ l ≤ c ∧ (∀ ad, A = some ad → ∃ cells, w3.heap[ad.block]? = some (.cells cells 21 (0, 0))) ∧ (∀ ad, A = some ad → ad.block < wr.heap.size)) := ⟨Kd.C_below HC.out.1 hb, HC.out.2.1, fun ad ha => by obtain ⟨cells, h⟩ := HC.out.2.2 ad ha; exact ⟨cells, blk_below h hb⟩, fun ad ha => by obtain ⟨cells, h⟩ := HC.out.2.2 ad ha; exact blk_lt h⟩
   clear hb q0 q1 q2 q3 r1 r2 FG1 HO
   cases hlo : longestR l0_1 (r :: t) with
   | none =>
    have HLO := Aside0.mk hlo
    rw [hlo] at hv
    clear hlo
    simp only [Option.getD_none, Option.isSome_none]
    clear hv
    obtain ⟨ad, e, hx⟩ := Kd.at_int (i := 0) HC3.out.1 (by omega) (by have := HLL.out; omega)
    cases e
    have hb9 : Below w3.heap.size w3 (w3.alloc (.cells #[.slice A5 z44.f0.length c5, .slice A6 z44.f1.length c6] 44)) := below_alloc (Below.refl _ _) _
    have hrd : rd (r :: t) 0 = r := by simp [rd]
    have hx0 := cell_keep hb9 hx
    rw [hrd] at hx0 hx
    have hx1 : (w3.alloc (.cells #[.slice A5 z44.f0.length c5, .slice A6 z44.f1.length c6] 44)).cell? ad = some (.int .i32 r) := by have h := hx0; unfold Addr.add at h; simpa using h
    have r3 : ((0 : Int) < (l : Int)) = True := eq_true (by have := HLL.out; omega)
    have r4 : (0 < l) = True := eq_true (by have := HLL.out; omega)
    obtain ⟨m1, he1⟩ : ∃ m1, m1 = wrap64 (64000 + (wrap64 (wrap32 (Int.tdiv r 3999)))) := ⟨_, rfl⟩
    obtain ⟨m4, he4⟩ : ∃ m4, m4 = wrap64 (60001 + (wrap64 (Int.tmod r 3999))) := ⟨_, rfl⟩
    have HIM : Aside0 (impliedL r = [⟨m1, 32, 2⟩, ⟨m4, 0, 0⟩]) := ⟨by unfold impliedL; rw [he1, he4]⟩
    have FI := Aside0.mk (fun W' => weigh_Implied.calls r m1 32 2 m4 0 0 W' (by unfold weigh_Implied.f; rw [he1, he4]))
    have HB9 := Aside0.mk hb9
    clear hrd hx he1 he4 hb9
    go_wp2_with fail
    refine (FI.out _).mono ?_
    rintro e w5 ⟨rfl, hb⟩
    have HB35 : Below w3.heap.size w3 w5 := below_step HB9.out hb
    have HSZ : Aside0 (wr.heap.size ≤ w5.heap.size) := ⟨(below_step HBW.out HB35).size⟩
    clear hb HBW HB9 FI hx0 hx1 r3 r4
    go_wp2_with fail
    obtain ⟨w6, hw6⟩ : ∃ w6, w6 = w5.alloc (.cells #[.int .i64 m1, .int .i64 32, .int .i64 2, .int .i64 m4, .int .i64 0, .int .i64 0] 46) := ⟨_, rfl⟩
    rw [← hw6]
    have hb36 : Below w3.heap.size w3 w6 := by rw [hw6]; exact below_alloc HB35 _
    have HYY : Aside0 (w6.heap[w5.heap.size]? = some (.cells #[.int .i64 m1, .int .i64 32, .int .i64 2, .int .i64 m4, .int .i64 0, .int .i64 0] 46 (0, 0))) := ⟨by rw [hw6]; exact blk_new w5 _⟩
    have HBY := Aside0.mk (below_step HB3.out hb36)
    have HTY := Aside0.mk (And.intro (blk_below T3.out.1 hb36) (Nat.le_trans T3.out.2 hb36.size))
    have HCY : Aside0 (Kd.C (Kd.int .i32) w6 (some ad) l (r :: t) ∧ ∃ cells, w6.heap[ad.block]? = some (.cells cells 21 (0, 0))) := ⟨Kd.C_below HC3.out.1 hb36, by obtain ⟨cells, h⟩ := HC3.out.2.2.1 ad rfl; exact ⟨cells, blk_below h hb36⟩⟩
    have HOY := Aside0.mk (Kd.R_below HO3.out hb36)
    have HTL : Aside0 (t.length = l - 1) := ⟨by have := HLL.out.2; omega⟩
    clear hw6 hb36 HB35 HB3
    by_cases hc1 : c = 1
    ·
     have HS1 : Aside0 (((1 : Int) ≤ (l : Int)) = True ∧ (1 ≤ l) = True ∧ ((l : Int) ≤ (c : Int)) = True ∧ (l ≤ c) = True ∧ (c = 1) = True) := ⟨eq_true (by have := HLL.out.2; omega), eq_true (by have := HLL.out.2; omega), eq_true (by have := HC3.out.2.1; omega), eq_true HC3.out.2.1, eq_true hc1⟩
     clear hc1
     refine wp_reg 7 rfl rfl (by kernel_rfl) (fun z => .agg #[.slice A0_0 nl c0_0, .slice A0_1 n c0_1, .int .i64 a0_2, .bool a0_3] :: .slice A1 l1.length c1 :: .pointer (some ⟨w.heap.size, 0, none⟩) :: undef :: .slice none 0 0 :: .int .i64 0 :: z 6 :: .int .i64 e0 :: z 8 :: .pointer (some ⟨w3.heap.size, 0, none⟩) :: .bool false :: .pointer (some ⟨w5.heap.size, 0, none⟩) :: .agg #[.slice A0_0 nl c0_0, .slice A0_1 n c0_1, .int .i64 a0_2, .bool a0_3] :: .bool true :: .bool false :: .tuple #[.slice A9 s0.length c9, .int .i64 e0] :: .pointer (some ⟨w.heap.size, 0, none⟩) :: .slice A0_0 nl c0_0 :: .slice A1 l1.length c1 :: .tuple #[.slice A9 s0.length c9, .int .i64 e0] :: .slice A9 s0.length c9 :: .int .i64 e0 :: .int .i64 e0 :: .bool false :: undef :: .slice (some ad) l c :: .int .i64 (l : Int) :: .bool true :: .tuple #[.agg #[.slice A5 z44.f0.length c5, .slice A6 z44.f1.length c6], .bool false] :: .agg #[.slice A0_0 nl c0_0, .slice A0_1 n c0_1, .int .i64 a0_2, .bool a0_3] :: .slice (some ad) l c :: .tuple #[.agg #[.slice A5 z44.f0.length c5, .slice A6 z44.f1.length c6], .bool false] :: .agg #[.slice A5 z44.f0.length c5, .slice A6 z44.f1.length c6] :: .bool false :: .bool false :: .bool true :: .slice (some ad) l c :: .pointer (some ad) :: .int .i32 r :: .agg #[.int .i64 m1, .int .i64 32, .int .i64 2, .int .i64 m4, .int .i64 0, .int .i64 0] :: z 40 :: z 41 :: z 42 :: z 43 :: z 44 :: u45 :: u46 :: u47 :: u48 :: u49 :: u50 :: u51 :: u52 :: u53 :: u54 :: u55 :: u56 :: u57 :: u58 :: u59 :: undef :: []) (fun (gg : Value × Value) => [(0, 40, u8), (1, 41, .slice (some ⟨w5.heap.size, 0, none⟩) 2 2), (2, 42, gg.1), (3, 43, .slice (some ad) l c), (4, 44, .slice (some ad) (l - 1) (c - 1)), (5, 8, gg.2), (6, 6, .slice (some ad) (l - 1) (c - 1))]) (fun LL gg z wx => Aside0 (Below w.heap.size w wx) ∧ Aside0 (wx.heap[w.heap.size]? = some (.cells #[.slice A0_0 nl c0_0, .slice A0_1 n c0_1, .int .i64 a0_2, .bool a0_3] 25 (0, 0))) ∧ Aside0 (w.heap.size + 1 ≤ wx.heap.size) ∧ Aside0 (Kd.C (Kd.int .i32) wx (some ad) l (r :: t) ∧ ∃ cells, wx.heap[ad.block]? = some (.cells cells 21 (0, 0))) ∧ Aside0 (∃ ty, wx.heap[w5.heap.size]? = some (.cells #[.int .i64 m1, .int .i64 32, .int .i64 2, .int .i64 m4, .int .i64 0, .int .i64 0] ty (0, 0))) ∧ Aside0 (LL 2 = false → Kd.R k39 39 wx (w.heap.size + 1) (fun q => q < wr.heap.size) u8 o) ∧ Aside0 (LL 2 = true → Kd.R k39 39 wx (w.heap.size + 1) (fun _ => True) gg.1 (o ++ [⟨m1, 32, 2⟩, ⟨m4, 0, 0⟩])) ∧ Aside0 (LL 5 = true → LL 2 = true ∧ gg.2 = gg.1) ∧ Aside0 (LL 5 = false → z 8 = u8) ∧ Aside0 (LL 6 = false → z 6 = .slice (some ad) l c) ∧ Aside0 (LL 2 = true → LL 0 = true) ∧ Aside0 (LL 5 = true → LL 0 = true) ∧ Aside0 (LL 4 = true → LL 3 = true) ∧ Aside0 (LL 6 = true → LL 3 = true)) (undef, undef) (zz [(6, .slice (some ad) l c), (8, u8), (40, u40), (41, u41), (42, u42), (43, u43), (44, u44)]) rfl rfl ⟨⟨below_drew HBY.out⟩, ⟨HTY.out.1⟩, ⟨HTY.out.2⟩, ⟨Kd.C_drew HCY.out.1, HCY.out.2⟩, ⟨_, HYY.out⟩, ⟨fun _ => Kd.R_drew HOY.out⟩, ⟨fun h => absurd h (by decide)⟩, ⟨fun h => absurd h (by decide)⟩, ⟨fun _ => rfl⟩, ⟨fun _ => rfl⟩, ⟨fun h => absurd h (by decide)⟩, ⟨fun h => absurd h (by decide)⟩, ⟨fun h => absurd h (by decide)⟩, ⟨fun h => absurd h (by decide)⟩⟩ ?_ ?_
     ·
      refine Steps.cons ?_ (Steps.cons ?_ (Steps.cons ?_ (Steps.cons ?_ (Steps.cons ?_ (Steps.cons ?_ (Steps.cons ?_ (Steps.nil)))))))
      ·
       refine CD 0 (fun _ => rfl) (fun _ => rfl) fun LL gg z wx hl hLk hd hI K hK => ?_
       obtain ⟨⟨hb, hT, hsz, hC, hY, h40, h42, h8, z8, z6, p2, p5, p4, p6⟩⟩ := hl
       have k8 := z8.out (flag_off p5.out hLk)
       dsimp only [FA]
       refine wantd (by rfl) ?_
       go_simp
       exact hK gg _ _ (sm1 k8) rfl rfl ⟨hb, hT, hsz, hC, hY, h40, h42, h8, z8, z6, ⟨fun h => upd_old (p2.out h)⟩, ⟨fun h => upd_old (p5.out h)⟩, p4, p6⟩
      ·
       exact V0 1
      ·
       refine CD 2 (fun _ => rfl) (fun _ => rfl) fun LL gg z wx hl hLk hd hI K hK => ?_
       obtain ⟨⟨hb, hT, hsz, hC, hY, h40, h42, h8, z8, z6, p2, p5, p4, p6⟩⟩ := hl
       have e0 := hI.at 0 rfl (hd 0 rfl)
       have e1 := hI.at 1 rfl (hd 1 rfl)
       have hr0 := h40.out hLk
       have hq := hr0.1
       have hq0 := Kd.R_base hr0
       have hty := Kd.R_typed hr0
       obtain ⟨ty, hy⟩ := hY.out
       refine Kd.R_append_rows_step k39 (Rr := Kd.K k39 wx) (w0 := wx) (w.heap.size + 1) (by rfl) (.tmp 40) (.tmp 41) 29 39 (.agg #[(.int .i64 0), (.int .i64 0), (.int .i64 0)]) 24 rfl Try.underlying29 info39 rfl (by decide) (by omega) u8 o [⟨m1, 32, 2⟩, ⟨m4, 0, 0⟩] (some ⟨w5.heap.size, 0, none⟩) 2 2 (fun _ => True) (fun _ => False) e0 e1 (Kd.R_mono hr0 (fun _ _ => trivial)) (elsC hy) (fun _ _ h => h) (fun _ h => h.elim) (fun _ _ => trivial) (Below.refl _ _) hsz.out (by have := HS.out.2.2.1; have := HS.out.2.1; have := HLEN.out; omega) ?_
       intro x' w4 ho hb1 hg1 hat1
       exact hK (x', gg.2) _ _ rfl rfl rfl ⟨⟨hb.out.grown hg1 hb.out.size (fun q e => Nat.le_of_succ_le (hq0 q e))⟩, ⟨(hg1.block _ (blk_lt hT.out) (fun e => by have h1 := hq0 _ e.symm; omega)).trans hT.out⟩, ⟨Nat.le_trans hsz.out hb1.size⟩, ⟨C_other hC.out.1 hC.out.2 hty hg1, typ_other hC.out.2 hty hg1⟩, ⟨ty, (hg1.block _ (blk_lt hy) (fun e => by have h1 := hq _ e.symm; have := HSZ.out; omega)).trans hy⟩, ⟨fun b => Bool.noConfusion (show true = false from b)⟩, ⟨fun _ => ho⟩, ⟨fun a => absurd (h8.out a).1 (by rw [hLk]; decide)⟩, z8, z6, ⟨fun _ => hd 0 rfl⟩, p5, p4, p6⟩
      ·
       refine CD 3 (fun _ => rfl) (fun _ => rfl) fun LL gg z wx hl hLk hd hI K hK => ?_
       obtain ⟨⟨hb, hT, hsz, hC, hY, h40, h42, h8, z8, z6, p2, p5, p4, p6⟩⟩ := hl
       have k6 := z6.out (flag_off p6.out hLk)
       dsimp only [FA]
       refine wantd (by rfl) ?_
       go_simp
       exact hK gg _ _ (sm1 k6) rfl rfl ⟨hb, hT, hsz, hC, hY, h40, h42, h8, z8, z6, p2, p5, ⟨fun h => upd_old (p4.out h)⟩, ⟨fun h => upd_old (p6.out h)⟩⟩
      ·
       refine V1 4 3 (hT := fun _ => rfl) (hR := fun LL gg z wx hLk hd ⟨hb, hT, hsz, hC, hY, h40, h42, h8, z8, z6, p2, p5, p4, p6⟩ => ⟨hb, hT, hsz, hC, hY, h40, h42, h8, z8, z6, p2, p5, ⟨fun _ => hd 3 rfl⟩, p6⟩) (h := fun LL gg z wx hl hLk e3 K hK => ?_)
       obtain ⟨⟨hb, hT, hsz, hC, hY, h40, h42, h8, z8, z6, p2, p5, p4, p6⟩⟩ := hl
       have hs1 := HS1.out.1
       have hs2 := HS1.out.2.1
       have hs3 := HS1.out.2.2.1
       have hs4 := HS1.out.2.2.2.1
       have hs5 := HS1.out.2.2.2.2
       dsimp only [FA]
       refine wantd (by rfl) ?_
       go_simp
       exact hK.out
      ·
       refine CD 5 (fun _ => rfl) (fun _ => rfl) fun LL gg z wx hl hLk hd hI K hK => ?_
       obtain ⟨⟨hb, hT, hsz, hC, hY, h40, h42, h8, z8, z6, p2, p5, p4, p6⟩⟩ := hl
       have e2 := hI.at 2 rfl (hd 2 rfl)
       dsimp only [FA]
       refine wantd (by rfl) ?_
       go_simp
       exact hK (gg.1, gg.1) _ _ (sm1 e2) rfl rfl ⟨hb, hT, hsz, hC, hY, h40, h42, ⟨fun _ => ⟨hd 2 rfl, rfl⟩⟩, ⟨fun b => Bool.noConfusion (show true = false from b)⟩, z6, p2, ⟨fun _ => p2.out (hd 2 rfl)⟩, p4, p6⟩
      ·
       exact V1 6 4 (hT := fun _ => rfl) (hR := fun LL gg z wx hLk hd ⟨hb, hT, hsz, hC, hY, h40, h42, h8, z8, z6, p2, p5, p4, p6⟩ => ⟨hb, hT, hsz, hC, hY, h40, h42, h8, z8, ⟨fun b => Bool.noConfusion (show true = false from b)⟩, p2, p5, p4, ⟨fun _ => p4.out (hd 4 rfl)⟩⟩)
     ·
      intro LL gg z wc hall hI hl
      obtain ⟨x42, x8⟩ := gg
      obtain ⟨⟨hb, hT, hsz, hC, hY, h40, h42, h8, z8, z6, p2, p5, p4, p6⟩⟩ := hl
      have e5 := hI.at 5 rfl (hall 5 (by decide))
      have e6 := hI.at 6 rfl (hall 6 (by decide))
      dsimp only [FA] at hb hT hsz hC hY h40 h42 h8 z8 z6 p2 p5 p4 p6 e5 e6 ⊢
      rw [e6, e5]
      have HR8 : Aside0 (Kd.R k39 39 wc (w.heap.size + 1) (fun _ => True) x8 (o ++ [⟨m1, 32, 2⟩, ⟨m4, 0, 0⟩])) := ⟨by rw [(h8.out (hall 5 (by decide))).2]; exact h42.out (hall 2 (by decide))⟩
      have HBC := hb
      have HTC := hT
      have HSC := hsz
      have HCC := hC
      clear hI hb hT hsz hC hY h40 h42 h8 z8 z6 p2 p5 p4 p6 e5 e6 hall
      go_wp2_with fail
      go_roundw
      case rel =>
       refine ⟨t, k1, o ++ impliedL r, (some ad), c - 1, by rw [HTL.out], ⟨?_, ?_, ?_, ?_⟩, ⟨?_, ?_, ?_⟩, ⟨HTC.out, HSC.out⟩, ⟨by rw [HIM.out]; exact HR8.out⟩, HBC⟩
       ·
        have := HS.out.1; have := HLL.out.2; omega
       ·
        have := HS.out.2.1; have := HLL.out.2; omega
       ·
        rw [List.length_append, HIM.out]; have := HS.out.2.2.1; have := HS.out.2.1; have := HLL.out.2; simp only [List.length_cons, List.length_nil]; omega
       ·
        rw [HS.out.2.2.2, elemsN, HLO.out, List.append_assoc]
       ·
        have h := C_dropI (s := r :: t) (c := c) 1 (by rw [← HLL.out.1]; exact HCC.out.1) (by rw [← HLL.out.1]; have := HLL.out.2; omega) (by rw [← HLL.out.1]; exact HC3.out.2.1)
        rw [if_pos (of_eq_true HS1.out.2.2.2.2)] at h; exact h
       ·
        rw [HTL.out]; have := HC3.out.2.1; omega
       ·
        intro a9 e9; cases e9; exact HCC.out.2
      case measure => exact (show l - 1 < l from by have := HLL.out.2; omega)
    ·
     have HS1 : Aside0 (((1 : Int) ≤ (l : Int)) = True ∧ (1 ≤ l) = True ∧ ((l : Int) ≤ (c : Int)) = True ∧ (l ≤ c) = True ∧ (c = 1) = False) := ⟨eq_true (by have := HLL.out.2; omega), eq_true (by have := HLL.out.2; omega), eq_true (by have := HC3.out.2.1; omega), eq_true HC3.out.2.1, eq_false hc1⟩
     clear hc1
     refine wp_reg 7 rfl rfl (by kernel_rfl) (fun z => .agg #[.slice A0_0 nl c0_0, .slice A0_1 n c0_1, .int .i64 a0_2, .bool a0_3] :: .slice A1 l1.length c1 :: .pointer (some ⟨w.heap.size, 0, none⟩) :: undef :: .slice none 0 0 :: .int .i64 0 :: z 6 :: .int .i64 e0 :: z 8 :: .pointer (some ⟨w3.heap.size, 0, none⟩) :: .bool false :: .pointer (some ⟨w5.heap.size, 0, none⟩) :: .agg #[.slice A0_0 nl c0_0, .slice A0_1 n c0_1, .int .i64 a0_2, .bool a0_3] :: .bool true :: .bool false :: .tuple #[.slice A9 s0.length c9, .int .i64 e0] :: .pointer (some ⟨w.heap.size, 0, none⟩) :: .slice A0_0 nl c0_0 :: .slice A1 l1.length c1 :: .tuple #[.slice A9 s0.length c9, .int .i64 e0] :: .slice A9 s0.length c9 :: .int .i64 e0 :: .int .i64 e0 :: .bool false :: undef :: .slice (some ad) l c :: .int .i64 (l : Int) :: .bool true :: .tuple #[.agg #[.slice A5 z44.f0.length c5, .slice A6 z44.f1.length c6], .bool false] :: .agg #[.slice A0_0 nl c0_0, .slice A0_1 n c0_1, .int .i64 a0_2, .bool a0_3] :: .slice (some ad) l c :: .tuple #[.agg #[.slice A5 z44.f0.length c5, .slice A6 z44.f1.length c6], .bool false] :: .agg #[.slice A5 z44.f0.length c5, .slice A6 z44.f1.length c6] :: .bool false :: .bool false :: .bool true :: .slice (some ad) l c :: .pointer (some ad) :: .int .i32 r :: .agg #[.int .i64 m1, .int .i64 32, .int .i64 2, .int .i64 m4, .int .i64 0, .int .i64 0] :: z 40 :: z 41 :: z 42 :: z 43 :: z 44 :: u45 :: u46 :: u47 :: u48 :: u49 :: u50 :: u51 :: u52 :: u53 :: u54 :: u55 :: u56 :: u57 :: u58 :: u59 :: undef :: []) (fun (gg : Value × Value) => [(0, 40, u8), (1, 41, .slice (some ⟨w5.heap.size, 0, none⟩) 2 2), (2, 42, gg.1), (3, 43, .slice (some ad) l c), (4, 44, .slice (some (ad.add 1)) (l - 1) (c - 1)), (5, 8, gg.2), (6, 6, .slice (some (ad.add 1)) (l - 1) (c - 1))]) (fun LL gg z wx => Aside0 (Below w.heap.size w wx) ∧ Aside0 (wx.heap[w.heap.size]? = some (.cells #[.slice A0_0 nl c0_0, .slice A0_1 n c0_1, .int .i64 a0_2, .bool a0_3] 25 (0, 0))) ∧ Aside0 (w.heap.size + 1 ≤ wx.heap.size) ∧ Aside0 (Kd.C (Kd.int .i32) wx (some ad) l (r :: t) ∧ ∃ cells, wx.heap[ad.block]? = some (.cells cells 21 (0, 0))) ∧ Aside0 (∃ ty, wx.heap[w5.heap.size]? = some (.cells #[.int .i64 m1, .int .i64 32, .int .i64 2, .int .i64 m4, .int .i64 0, .int .i64 0] ty (0, 0))) ∧ Aside0 (LL 2 = false → Kd.R k39 39 wx (w.heap.size + 1) (fun q => q < wr.heap.size) u8 o) ∧ Aside0 (LL 2 = true → Kd.R k39 39 wx (w.heap.size + 1) (fun _ => True) gg.1 (o ++ [⟨m1, 32, 2⟩, ⟨m4, 0, 0⟩])) ∧ Aside0 (LL 5 = true → LL 2 = true ∧ gg.2 = gg.1) ∧ Aside0 (LL 5 = false → z 8 = u8) ∧ Aside0 (LL 6 = false → z 6 = .slice (some ad) l c) ∧ Aside0 (LL 2 = true → LL 0 = true) ∧ Aside0 (LL 5 = true → LL 0 = true) ∧ Aside0 (LL 4 = true → LL 3 = true) ∧ Aside0 (LL 6 = true → LL 3 = true)) (undef, undef) (zz [(6, .slice (some ad) l c), (8, u8), (40, u40), (41, u41), (42, u42), (43, u43), (44, u44)]) rfl rfl ⟨⟨below_drew HBY.out⟩, ⟨HTY.out.1⟩, ⟨HTY.out.2⟩, ⟨Kd.C_drew HCY.out.1, HCY.out.2⟩, ⟨_, HYY.out⟩, ⟨fun _ => Kd.R_drew HOY.out⟩, ⟨fun h => absurd h (by decide)⟩, ⟨fun h => absurd h (by decide)⟩, ⟨fun _ => rfl⟩, ⟨fun _ => rfl⟩, ⟨fun h => absurd h (by decide)⟩, ⟨fun h => absurd h (by decide)⟩, ⟨fun h => absurd h (by decide)⟩, ⟨fun h => absurd h (by decide)⟩⟩ ?_ ?_
     ·
      refine Steps.cons ?_ (Steps.cons ?_ (Steps.cons ?_ (Steps.cons ?_ (Steps.cons ?_ (Steps.cons ?_ (Steps.cons ?_ (Steps.nil)))))))
      ·
       refine CD 0 (fun _ => rfl) (fun _ => rfl) fun LL gg z wx hl hLk hd hI K hK => ?_
       obtain ⟨⟨hb, hT, hsz, hC, hY, h40, h42, h8, z8, z6, p2, p5, p4, p6⟩⟩ := hl
       have k8 := z8.out (flag_off p5.out hLk)
       dsimp only [FA]
       refine wantd (by rfl) ?_
       go_simp
       exact hK gg _ _ (sm1 k8) rfl rfl ⟨hb, hT, hsz, hC, hY, h40, h42, h8, z8, z6, ⟨fun h => upd_old (p2.out h)⟩, ⟨fun h => upd_old (p5.out h)⟩, p4, p6⟩
      ·
       exact V0 1
      ·
       refine CD 2 (fun _ => rfl) (fun _ => rfl) fun LL gg z wx hl hLk hd hI K hK => ?_
       obtain ⟨⟨hb, hT, hsz, hC, hY, h40, h42, h8, z8, z6, p2, p5, p4, p6⟩⟩ := hl
       have e0 := hI.at 0 rfl (hd 0 rfl)
       have e1 := hI.at 1 rfl (hd 1 rfl)
       have hr0 := h40.out hLk
       have hq := hr0.1
       have hq0 := Kd.R_base hr0
       have hty := Kd.R_typed hr0
       obtain ⟨ty, hy⟩ := hY.out
       refine Kd.R_append_rows_step k39 (Rr := Kd.K k39 wx) (w0 := wx) (w.heap.size + 1) (by rfl) (.tmp 40) (.tmp 41) 29 39 (.agg #[(.int .i64 0), (.int .i64 0), (.int .i64 0)]) 24 rfl Try.underlying29 info39 rfl (by decide) (by omega) u8 o [⟨m1, 32, 2⟩, ⟨m4, 0, 0⟩] (some ⟨w5.heap.size, 0, none⟩) 2 2 (fun _ => True) (fun _ => False) e0 e1 (Kd.R_mono hr0 (fun _ _ => trivial)) (elsC hy) (fun _ _ h => h) (fun _ h => h.elim) (fun _ _ => trivial) (Below.refl _ _) hsz.out (by have := HS.out.2.2.1; have := HS.out.2.1; have := HLEN.out; omega) ?_
       intro x' w4 ho hb1 hg1 hat1
       exact hK (x', gg.2) _ _ rfl rfl rfl ⟨⟨hb.out.grown hg1 hb.out.size (fun q e => Nat.le_of_succ_le (hq0 q e))⟩, ⟨(hg1.block _ (blk_lt hT.out) (fun e => by have h1 := hq0 _ e.symm; omega)).trans hT.out⟩, ⟨Nat.le_trans hsz.out hb1.size⟩, ⟨C_other hC.out.1 hC.out.2 hty hg1, typ_other hC.out.2 hty hg1⟩, ⟨ty, (hg1.block _ (blk_lt hy) (fun e => by have h1 := hq _ e.symm; have := HSZ.out; omega)).trans hy⟩, ⟨fun b => Bool.noConfusion (show true = false from b)⟩, ⟨fun _ => ho⟩, ⟨fun a => absurd (h8.out a).1 (by rw [hLk]; decide)⟩, z8, z6, ⟨fun _ => hd 0 rfl⟩, p5, p4, p6⟩
      ·
       refine CD 3 (fun _ => rfl) (fun _ => rfl) fun LL gg z wx hl hLk hd hI K hK => ?_
       obtain ⟨⟨hb, hT, hsz, hC, hY, h40, h42, h8, z8, z6, p2, p5, p4, p6⟩⟩ := hl
       have k6 := z6.out (flag_off p6.out hLk)
       dsimp only [FA]
       refine wantd (by rfl) ?_
       go_simp
       exact hK gg _ _ (sm1 k6) rfl rfl ⟨hb, hT, hsz, hC, hY, h40, h42, h8, z8, z6, p2, p5, ⟨fun h => upd_old (p4.out h)⟩, ⟨fun h => upd_old (p6.out h)⟩⟩
      ·
       refine V1 4 3 (hT := fun _ => rfl) (hR := fun LL gg z wx hLk hd ⟨hb, hT, hsz, hC, hY, h40, h42, h8, z8, z6, p2, p5, p4, p6⟩ => ⟨hb, hT, hsz, hC, hY, h40, h42, h8, z8, z6, p2, p5, ⟨fun _ => hd 3 rfl⟩, p6⟩) (h := fun LL gg z wx hl hLk e3 K hK => ?_)
       obtain ⟨⟨hb, hT, hsz, hC, hY, h40, h42, h8, z8, z6, p2, p5, p4, p6⟩⟩ := hl
       have hs1 := HS1.out.1
       have hs2 := HS1.out.2.1
       have hs3 := HS1.out.2.2.1
       have hs4 := HS1.out.2.2.2.1
       have hs5 := HS1.out.2.2.2.2
       dsimp only [FA]
       refine wantd (by rfl) ?_
       go_simp
       exact hK.out
      ·
       refine CD 5 (fun _ => rfl) (fun _ => rfl) fun LL gg z wx hl hLk hd hI K hK => ?_
       obtain ⟨⟨hb, hT, hsz, hC, hY, h40, h42, h8, z8, z6, p2, p5, p4, p6⟩⟩ := hl
       have e2 := hI.at 2 rfl (hd 2 rfl)
       dsimp only [FA]
       refine wantd (by rfl) ?_
       go_simp
       exact hK (gg.1, gg.1) _ _ (sm1 e2) rfl rfl ⟨hb, hT, hsz, hC, hY, h40, h42, ⟨fun _ => ⟨hd 2 rfl, rfl⟩⟩, ⟨fun b => Bool.noConfusion (show true = false from b)⟩, z6, p2, ⟨fun _ => p2.out (hd 2 rfl)⟩, p4, p6⟩
      ·
       exact V1 6 4 (hT := fun _ => rfl) (hR := fun LL gg z wx hLk hd ⟨hb, hT, hsz, hC, hY, h40, h42, h8, z8, z6, p2, p5, p4, p6⟩ => ⟨hb, hT, hsz, hC, hY, h40, h42, h8, z8, ⟨fun b => Bool.noConfusion (show true = false from b)⟩, p2, p5, p4, ⟨fun _ => p4.out (hd 4 rfl)⟩⟩)
     ·
      intro LL gg z wc hall hI hl
      obtain ⟨x42, x8⟩ := gg
      obtain ⟨⟨hb, hT, hsz, hC, hY, h40, h42, h8, z8, z6, p2, p5, p4, p6⟩⟩ := hl
      have e5 := hI.at 5 rfl (hall 5 (by decide))
      have e6 := hI.at 6 rfl (hall 6 (by decide))
      dsimp only [FA] at hb hT hsz hC hY h40 h42 h8 z8 z6 p2 p5 p4 p6 e5 e6 ⊢
      rw [e6, e5]
      have HR8 : Aside0 (Kd.R k39 39 wc (w.heap.size + 1) (fun _ => True) x8 (o ++ [⟨m1, 32, 2⟩, ⟨m4, 0, 0⟩])) := ⟨by rw [(h8.out (hall 5 (by decide))).2]; exact h42.out (hall 2 (by decide))⟩
      have HBC := hb
      have HTC := hT
      have HSC := hsz
      have HCC := hC
      clear hI hb hT hsz hC hY h40 h42 h8 z8 z6 p2 p5 p4 p6 e5 e6 hall
      go_wp2_with fail
      go_roundw
      case rel =>
       refine ⟨t, k1, o ++ impliedL r, (some (ad.add 1)), c - 1, by rw [HTL.out], ⟨?_, ?_, ?_, ?_⟩, ⟨?_, ?_, ?_⟩, ⟨HTC.out, HSC.out⟩, ⟨by rw [HIM.out]; exact HR8.out⟩, HBC⟩
       ·
        have := HS.out.1; have := HLL.out.2; omega
       ·
        have := HS.out.2.1; have := HLL.out.2; omega
       ·
        rw [List.length_append, HIM.out]; have := HS.out.2.2.1; have := HS.out.2.1; have := HLL.out.2; simp only [List.length_cons, List.length_nil]; omega
       ·
        rw [HS.out.2.2.2, elemsN, HLO.out, List.append_assoc]
       ·
        have h := C_dropI (s := r :: t) (c := c) 1 (by rw [← HLL.out.1]; exact HCC.out.1) (by rw [← HLL.out.1]; have := HLL.out.2; omega) (by rw [← HLL.out.1]; exact HC3.out.2.1)
        rw [if_neg (of_eq_false HS1.out.2.2.2.2)] at h; exact h
       ·
        rw [HTL.out]; have := HC3.out.2.1; omega
       ·
        intro a9 e9; cases e9; rw [adr_block]; exact HCC.out.2
      case measure => exact (show l - 1 < l from by have := HLL.out.2; omega)
   | some X =>
    have HLO := Aside0.mk hlo
    rw [hlo] at hv
    have HV := Aside0.mk hv
    have HX0 := Aside0.mk (longestR_some hlo)
    clear hlo hv
    simp only [Option.getD_some, Option.isSome_some] at HV ⊢
    obtain ⟨ad, e, hx⟩ := Kd.at_int (i := 0) HC3.out.1 (by omega) (by have := HLL.out; omega)
    cases e
    clear hx
    have HLD : Aside0 (((r :: t).drop X.f0.length).length = l - X.f0.length) := ⟨by rw [List.length_drop, HLL.out.1]⟩
    have HXL : Aside0 (X.f0.length ≤ l) := ⟨by have := HX0.out.2.2.1; rw [← HLL.out.1] at this; exact this⟩
    have FR1 := fun (W' : World) (hb : Below w3.heap.size w3 W') => FR.out X A5 c5 A6 c6 ((r :: t).drop X.f0.length) (if c = X.f0.length then some ad else some (ad.add X.f0.length)) (c - X.f0.length) W' (below_step HB3.out hb) (C_dropI X.f0.length (by rw [← HLL.out.1]; exact Kd.C_below HC3.out.1 hb) (by rw [← HLL.out.1]; exact HXL.out) (by rw [← HLL.out.1]; exact HC3.out.2.1)) (by rw [HLD.out]; have := HC3.out.2.1; omega) (by rw [HLD.out]; have := HS.out.2.1; have := HLEN.out; omega) HV.out HX0.out.2.2.2.1
    rw [HLD.out] at FR1
    obtain ⟨YL, hYL⟩ : ∃ p, p = longerR cls l0_1 X 0 [] ((r :: t).drop X.f0.length) := ⟨_, rfl⟩
    rw [← hYL] at FR1
    have HYL := Aside0.mk hYL
    clear hYL
    go_wp2_with fail
    have HSX : Aside0 (w3.heap.size + 1 ≤ (w3.alloc (.cells #[.slice A5 X.f0.length c5, .slice A6 X.f1.length c6] 44)).heap.size) := ⟨Nat.le_of_eq (by show _ = (w3.heap.push _).size; rw [Array.size_push])⟩
    have HX9 : Aside0 ((w3.alloc (.cells #[.slice A5 X.f0.length c5, .slice A6 X.f1.length c6] 44)).heap[w3.heap.size]? = some (.cells #[.slice A5 X.f0.length c5, .slice A6 X.f1.length c6] 44 (0, 0))) := ⟨blk_new w3 _⟩
    by_cases hcm : c = X.f0.length
    ·
     rw [if_pos hcm] at FR1
     have FR1 := Aside0.mk FR1
     have HS1 : Aside0 ((((X.f0.length : Nat) : Int) ≤ (l : Int)) = True ∧ (X.f0.length ≤ l) = True ∧ ((l : Int) ≤ (c : Int)) = True ∧ (l ≤ c) = True ∧ (c = X.f0.length) = True ∧ ((0 : Int) ≤ ((X.f0.length : Nat) : Int)) = True) := ⟨eq_true (by have := HXL.out; omega), eq_true HXL.out, eq_true (by have := HC3.out.2.1; omega), eq_true HC3.out.2.1, eq_true hcm, eq_true (by omega)⟩
     clear hcm
     refine wp_reg 13 rfl rfl (by kernel_rfl) (fun z => .agg #[.slice A0_0 nl c0_0, .slice A0_1 n c0_1, .int .i64 a0_2, .bool a0_3] :: .slice A1 l1.length c1 :: .pointer (some ⟨w.heap.size, 0, none⟩) :: undef :: .slice none 0 0 :: .int .i64 0 :: z 6 :: .int .i64 e0 :: u8 :: .pointer (some ⟨w3.heap.size, 0, none⟩) :: .bool true :: u11 :: .agg #[.slice A0_0 nl c0_0, .slice A0_1 n c0_1, .int .i64 a0_2, .bool a0_3] :: .bool true :: .bool false :: .tuple #[.slice A9 s0.length c9, .int .i64 e0] :: .pointer (some ⟨w.heap.size, 0, none⟩) :: .slice A0_0 nl c0_0 :: .slice A1 l1.length c1 :: .tuple #[.slice A9 s0.length c9, .int .i64 e0] :: .slice A9 s0.length c9 :: .int .i64 e0 :: .int .i64 e0 :: .bool false :: undef :: .slice (some ad) l c :: .int .i64 (l : Int) :: .bool true :: .tuple #[.agg #[.slice A5 X.f0.length c5, .slice A6 X.f1.length c6], .bool true] :: .agg #[.slice A0_0 nl c0_0, .slice A0_1 n c0_1, .int .i64 a0_2, .bool a0_3] :: .slice (some ad) l c :: .tuple #[.agg #[.slice A5 X.f0.length c5, .slice A6 X.f1.length c6], .bool true] :: .agg #[.slice A5 X.f0.length c5, .slice A6 X.f1.length c6] :: .bool true :: .bool true :: .bool false :: u36 :: u37 :: u38 :: u39 :: u40 :: u41 :: u42 :: u43 :: u44 :: z 45 :: z 46 :: z 47 :: z 48 :: z 49 :: z 50 :: z 51 :: z 52 :: z 53 :: z 54 :: z 55 :: u56 :: u57 :: u58 :: u59 :: undef :: []) (fun (gg : (Option Addr) × Nat × (Option Addr) × Nat × Value × (Option Addr) × Nat × (Option Addr) × Nat × Value × (Option Addr) × Nat × (Option Addr) × Nat × Value × Value) => [(0, 46, .agg #[.slice A0_0 nl c0_0, .slice A0_1 n c0_1, .int .i64 a0_2, .bool a0_3]), (1, 47, .agg #[.slice A5 X.f0.length c5, .slice A6 X.f1.length c6]), (2, 48, .slice (some ad) l c), (3, 49, .pointer (some ⟨w3.heap.size, 0, none⟩)), (4, 50, .slice A5 X.f0.length c5), (5, 51, .int .i64 (X.f0.length : Int)), (6, 52, .slice (some ad) (l - X.f0.length) (c - X.f0.length)), (7, 53, .tuple #[.agg #[.slice gg.1 YL.1.f0.length gg.2.1, .slice gg.2.2.1 YL.1.f1.length gg.2.2.2.1], gg.2.2.2.2.1]), (8, 45, .tuple #[.agg #[.slice gg.2.2.2.2.2.1 YL.1.f0.length gg.2.2.2.2.2.2.1, .slice gg.2.2.2.2.2.2.2.1 YL.1.f1.length gg.2.2.2.2.2.2.2.2.1], gg.2.2.2.2.2.2.2.2.2.1]), (9, 54, .agg #[.slice gg.2.2.2.2.2.2.2.2.2.2.1 YL.1.f0.length gg.2.2.2.2.2.2.2.2.2.2.2.1, .slice gg.2.2.2.2.2.2.2.2.2.2.2.2.1 YL.1.f1.length gg.2.2.2.2.2.2.2.2.2.2.2.2.2.1]), (10, 55, gg.2.2.2.2.2.2.2.2.2.2.2.2.2.2.1), (12, 6, gg.2.2.2.2.2.2.2.2.2.2.2.2.2.2.2)]) (fun LL gg z wx => Aside0 (Below w3.heap.size w3 wx) ∧ Aside0 (w3.heap.size + 1 ≤ wx.heap.size) ∧ Aside0 (LL 11 = false → wx.heap[w3.heap.size]? = some (.cells #[.slice A5 X.f0.length c5, .slice A6 X.f1.length c6] 44 (0, 0))) ∧ Aside0 (LL 11 = true → wx.heap[w3.heap.size]? = some (.cells #[.slice gg.2.2.2.2.2.2.2.2.2.2.1 YL.1.f0.length gg.2.2.2.2.2.2.2.2.2.2.2.1, .slice gg.2.2.2.2.2.2.2.2.2.2.2.2.1 YL.1.f1.length gg.2.2.2.2.2.2.2.2.2.2.2.2.2.1] 44 (0, 0))) ∧ Aside0 (LL 7 = true → RowV w YL.1 gg.1 gg.2.1 gg.2.2.1 gg.2.2.2.1 ∧ Kd.R (Kd.int .i32) 21 wx (w3.heap.size + 1) (fun _ => True) gg.2.2.2.2.1 YL.2) ∧ Aside0 (LL 5 = true → LL 4 = true) ∧ Aside0 (LL 6 = true → LL 4 = true ∧ LL 2 = true) ∧ Aside0 (LL 7 = true → LL 1 = true ∧ LL 4 = true ∧ LL 2 = true) ∧ Aside0 (LL 8 = true → LL 7 = true ∧ gg.2.2.2.2.2.1 = gg.1 ∧ gg.2.2.2.2.2.2.1 = gg.2.1 ∧ gg.2.2.2.2.2.2.2.1 = gg.2.2.1 ∧ gg.2.2.2.2.2.2.2.2.1 = gg.2.2.2.1 ∧ gg.2.2.2.2.2.2.2.2.2.1 = gg.2.2.2.2.1) ∧ Aside0 (LL 8 = true → LL 1 = true ∧ LL 4 = true ∧ LL 2 = true) ∧ Aside0 (LL 9 = true → LL 8 = true ∧ gg.2.2.2.2.2.2.2.2.2.2.1 = gg.2.2.2.2.2.1 ∧ gg.2.2.2.2.2.2.2.2.2.2.2.1 = gg.2.2.2.2.2.2.1 ∧ gg.2.2.2.2.2.2.2.2.2.2.2.2.1 = gg.2.2.2.2.2.2.2.1 ∧ gg.2.2.2.2.2.2.2.2.2.2.2.2.2.1 = gg.2.2.2.2.2.2.2.2.1) ∧ Aside0 (LL 9 = true → LL 1 = true ∧ LL 4 = true) ∧ Aside0 (LL 10 = true → LL 8 = true ∧ gg.2.2.2.2.2.2.2.2.2.2.2.2.2.2.1 = gg.2.2.2.2.2.2.2.2.2.1) ∧ Aside0 (LL 11 = true → LL 1 = true ∧ LL 4 = true) ∧ Aside0 (LL 11 = true → LL 9 = true) ∧ Aside0 (LL 12 = true → LL 10 = true ∧ gg.2.2.2.2.2.2.2.2.2.2.2.2.2.2.2 = gg.2.2.2.2.2.2.2.2.2.2.2.2.2.2.1) ∧ Aside0 (LL 10 = true → LL 2 = true) ∧ Aside0 (LL 12 = true → LL 2 = true) ∧ Aside0 (LL 12 = false → z 6 = .slice (some ad) l c)) (none, 0, none, 0, undef, none, 0, none, 0, undef, none, 0, none, 0, undef, undef) (zz [(6, .slice (some ad) l c), (45, u45), (46, u46), (47, u47), (48, u48), (49, u49), (50, u50), (51, u51), (52, u52), (53, u53), (54, u54), (55, u55)]) rfl rfl ⟨⟨below_drew (below_alloc (Below.refl _ _) _)⟩, ⟨HSX.out⟩, ⟨fun _ => HX9.out⟩, ⟨fun h => absurd h (by decide)⟩, ⟨fun h => absurd h (by decide)⟩, ⟨fun h => absurd h (by decide)⟩, ⟨fun h => absurd h (by decide)⟩, ⟨fun h => absurd h (by decide)⟩, ⟨fun h => absurd h (by decide)⟩, ⟨fun h => absurd h (by decide)⟩, ⟨fun h => absurd h (by decide)⟩, ⟨fun h => absurd h (by decide)⟩, ⟨fun h => absurd h (by decide)⟩, ⟨fun h => absurd h (by decide)⟩, ⟨fun h => absurd h (by decide)⟩, ⟨fun h => absurd h (by decide)⟩, ⟨fun h => absurd h (by decide)⟩, ⟨fun h => absurd h (by decide)⟩, ⟨fun _ => rfl⟩⟩ ?_ ?_
     ·
      refine Steps.cons ?_ (Steps.cons ?_ (Steps.cons ?_ (Steps.cons ?_ (Steps.cons ?_ (Steps.cons ?_ (Steps.cons ?_ (Steps.cons ?_ (Steps.cons ?_ (Steps.cons ?_ (Steps.cons ?_ (Steps.cons ?_ (Steps.cons ?_ (Steps.nil)))))))))))))
      ·
       refine V0 0 (h := fun LL gg z wx hl hLk  K hK => ?_)
       obtain ⟨⟨hb, hsz, hXo, hXn, h7, p5, p6, p7, p8, p8x, p9, p9x, p10, p11, p11z, p12, p10x, p12x, z6⟩⟩ := hl
       have q0_T : wx.cell? ⟨w.heap.size, 0, none⟩ = some (.slice A0_0 nl c0_0) := (blk_cell (blk_below T3.out.1 hb.out) 0).trans rfl
       have q1_T : wx.cell? ⟨w.heap.size, 1, none⟩ = some (.slice A0_1 n c0_1) := (blk_cell (blk_below T3.out.1 hb.out) 1).trans rfl
       have q2_T : wx.cell? ⟨w.heap.size, 2, none⟩ = some (.int .i64 a0_2) := (blk_cell (blk_below T3.out.1 hb.out) 2).trans rfl
       have q3_T : wx.cell? ⟨w.heap.size, 3, none⟩ = some (.bool a0_3) := (blk_cell (blk_below T3.out.1 hb.out) 3).trans rfl
       dsimp only [FA]
       refine wantd (by rfl) ?_
       go_simp
       exact hK.out
      ·
       refine V0 1 (hT := fun _ => rfl) (hR := fun LL gg z wx hLk hd ⟨hb, hsz, hXo, hXn, h7, p5, p6, p7, p8, p8x, p9, p9x, p10, p11, p11z, p12, p10x, p12x, z6⟩ => ⟨hb, hsz, hXo, hXn, h7, p5, p6, ⟨fun h => ⟨upd_old (p7.out h).1, upd_old (p7.out h).2.1, upd_old (p7.out h).2.2⟩⟩, p8, ⟨fun h => ⟨upd_old (p8x.out h).1, upd_old (p8x.out h).2.1, upd_old (p8x.out h).2.2⟩⟩, p9, ⟨fun h => ⟨upd_old (p9x.out h).1, upd_old (p9x.out h).2⟩⟩, p10, ⟨fun h => ⟨upd_old (p11.out h).1, upd_old (p11.out h).2⟩⟩, p11z, p12, p10x, p12x, z6⟩) (h := fun LL gg z wx hl hLk  K hK => ?_)
       obtain ⟨⟨hb, hsz, hXo, hXn, h7, p5, p6, p7, p8, p8x, p9, p9x, p10, p11, p11z, p12, p10x, p12x, z6⟩⟩ := hl
       have hxo := hXo.out (flag_off (fun h => (p11.out h).1) hLk)
       have q0_X : wx.cell? ⟨w3.heap.size, 0, none⟩ = some (.slice A5 X.f0.length c5) := (blk_cell hxo 0).trans rfl
       have q1_X : wx.cell? ⟨w3.heap.size, 1, none⟩ = some (.slice A6 X.f1.length c6) := (blk_cell hxo 1).trans rfl
       dsimp only [FA]
       refine wantd (by rfl) ?_
       go_simp
       exact hK.out
      ·
       refine CD 2 (fun _ => rfl) (fun _ => rfl) fun LL gg z wx hl hLk hd hI K hK => ?_
       obtain ⟨⟨hb, hsz, hXo, hXn, h7, p5, p6, p7, p8, p8x, p9, p9x, p10, p11, p11z, p12, p10x, p12x, z6⟩⟩ := hl
       have k6 := z6.out (flag_off p12x.out hLk)
       dsimp only [FA]
       refine wantd (by rfl) ?_
       go_simp
       exact hK gg _ _ (sm1 k6) rfl rfl ⟨hb, hsz, hXo, hXn, h7, p5, ⟨fun h => ⟨upd_old (p6.out h).1, upd_old (p6.out h).2⟩⟩, ⟨fun h => ⟨upd_old (p7.out h).1, upd_old (p7.out h).2.1, upd_old (p7.out h).2.2⟩⟩, p8, ⟨fun h => ⟨upd_old (p8x.out h).1, upd_old (p8x.out h).2.1, upd_old (p8x.out h).2.2⟩⟩, p9, p9x, p10, p11, p11z, p12, ⟨fun h => upd_old (p10x.out h)⟩, ⟨fun h => upd_old (p12x.out h)⟩, z6⟩
      ·
       exact V0 3
      ·
       refine V1 4 3 (hT := fun _ => rfl) (hR := fun LL gg z wx hLk hd ⟨hb, hsz, hXo, hXn, h7, p5, p6, p7, p8, p8x, p9, p9x, p10, p11, p11z, p12, p10x, p12x, z6⟩ => ⟨hb, hsz, hXo, hXn, h7, ⟨fun h => upd_old (p5.out h)⟩, ⟨fun h => ⟨upd_old (p6.out h).1, upd_old (p6.out h).2⟩⟩, ⟨fun h => ⟨upd_old (p7.out h).1, upd_old (p7.out h).2.1, upd_old (p7.out h).2.2⟩⟩, p8, ⟨fun h => ⟨upd_old (p8x.out h).1, upd_old (p8x.out h).2.1, upd_old (p8x.out h).2.2⟩⟩, p9, ⟨fun h => ⟨upd_old (p9x.out h).1, upd_old (p9x.out h).2⟩⟩, p10, ⟨fun h => ⟨upd_old (p11.out h).1, upd_old (p11.out h).2⟩⟩, p11z, p12, p10x, p12x, z6⟩) (h := fun LL gg z wx hl hLk e3 K hK => ?_)
       obtain ⟨⟨hb, hsz, hXo, hXn, h7, p5, p6, p7, p8, p8x, p9, p9x, p10, p11, p11z, p12, p10x, p12x, z6⟩⟩ := hl
       have hxo := hXo.out (flag_off (fun h => (p11.out h).2) hLk)
       have q0_X : wx.cell? ⟨w3.heap.size, 0, none⟩ = some (.slice A5 X.f0.length c5) := (blk_cell hxo 0).trans rfl
       dsimp only [FA]
       refine wantd (by rfl) ?_
       go_simp
       exact hK.out
      ·
       exact V1 5 4 (hT := fun _ => rfl) (hR := fun LL gg z wx hLk hd ⟨hb, hsz, hXo, hXn, h7, p5, p6, p7, p8, p8x, p9, p9x, p10, p11, p11z, p12, p10x, p12x, z6⟩ => ⟨hb, hsz, hXo, hXn, h7, ⟨fun _ => hd 4 rfl⟩, p6, p7, p8, p8x, p9, p9x, p10, p11, p11z, p12, p10x, p12x, z6⟩)
      ·
       refine V2 6 2 5 (hT := fun _ => rfl) (hR := fun LL gg z wx hLk hd ⟨hb, hsz, hXo, hXn, h7, p5, p6, p7, p8, p8x, p9, p9x, p10, p11, p11z, p12, p10x, p12x, z6⟩ => ⟨hb, hsz, hXo, hXn, h7, p5, ⟨fun _ => ⟨p5.out (hd 5 rfl), hd 2 rfl⟩⟩, p7, p8, p8x, p9, p9x, p10, p11, p11z, p12, p10x, p12x, z6⟩) (h := fun LL gg z wx hl hLk e2 e5 K hK => ?_)
       obtain ⟨⟨hb, hsz, hXo, hXn, h7, p5, p6, p7, p8, p8x, p9, p9x, p10, p11, p11z, p12, p10x, p12x, z6⟩⟩ := hl
       have hs1 := HS1.out.1
       have hs2 := HS1.out.2.1
       have hs3 := HS1.out.2.2.1
       have hs4 := HS1.out.2.2.2.1
       have hs5 := HS1.out.2.2.2.2.1
       have hs6 := HS1.out.2.2.2.2.2
       dsimp only [FA]
       refine wantd (by rfl) ?_
       go_simp
       exact hK.out
      ·
       refine CD 7 (fun _ => rfl) (fun _ => rfl) fun LL gg z wx hl hLk hd hI K hK => ?_
       obtain ⟨⟨hb, hsz, hXo, hXn, h7, p5, p6, p7, p8, p8x, p9, p9x, p10, p11, p11z, p12, p10x, p12x, z6⟩⟩ := hl
       have e0 := hI.at 0 rfl (hd 0 rfl)
       have e1 := hI.at 1 rfl (hd 1 rfl)
       have e6 := hI.at 6 rfl (hd 6 rfl)
       dsimp only [FA]
       refine wantd (by rfl) ?_
       go_simp
       refine (FR1.out wx hb.out).mono ?_
       rintro e w' ⟨A7', c7', A8', c8', v7', rfl, hv7, ho, hb1⟩
       exact hK (A7', c7', A8', c8', v7', gg.2.2.2.2.2.1, gg.2.2.2.2.2.2.1, gg.2.2.2.2.2.2.2.1, gg.2.2.2.2.2.2.2.2.1, gg.2.2.2.2.2.2.2.2.2.1, gg.2.2.2.2.2.2.2.2.2.2.1, gg.2.2.2.2.2.2.2.2.2.2.2.1, gg.2.2.2.2.2.2.2.2.2.2.2.2.1, gg.2.2.2.2.2.2.2.2.2.2.2.2.2.1, gg.2.2.2.2.2.2.2.2.2.2.2.2.2.2.1, gg.2.2.2.2.2.2.2.2.2.2.2.2.2.2.2) _ _ (sm3 e0 e1 e6) rfl rfl ⟨⟨below_step hb.out hb1⟩, ⟨Nat.le_trans hsz.out hb1.size⟩, ⟨fun h => blk_below (hXo.out h) hb1⟩, ⟨fun h => blk_below (hXn.out h) hb1⟩, ⟨fun _ => ⟨hv7, Kd.R_lower ho hsz.out⟩⟩, p5, p6, ⟨fun _ => ⟨hd 1 rfl, (p6.out (hd 6 rfl)).1, (p6.out (hd 6 rfl)).2⟩⟩, ⟨fun a => absurd (p8.out a).1 (by rw [hLk]; decide)⟩, p8x, p9, p9x, p10, p11, p11z, p12, p10x, p12x, z6⟩
      ·
       refine CD 8 (fun _ => rfl) (fun _ => rfl) fun LL gg z wx hl hLk hd hI K hK => ?_
       obtain ⟨⟨hb, hsz, hXo, hXn, h7, p5, p6, p7, p8, p8x, p9, p9x, p10, p11, p11z, p12, p10x, p12x, z6⟩⟩ := hl
       have e7 := hI.at 7 rfl (hd 7 rfl)
       dsimp only [FA]
       refine wantd (by rfl) ?_
       go_simp
       exact hK (gg.1, gg.2.1, gg.2.2.1, gg.2.2.2.1, gg.2.2.2.2.1, gg.1, gg.2.1, gg.2.2.1, gg.2.2.2.1, gg.2.2.2.2.1, gg.2.2.2.2.2.2.2.2.2.2.1, gg.2.2.2.2.2.2.2.2.2.2.2.1, gg.2.2.2.2.2.2.2.2.2.2.2.2.1, gg.2.2.2.2.2.2.2.2.2.2.2.2.2.1, gg.2.2.2.2.2.2.2.2.2.2.2.2.2.2.1, gg.2.2.2.2.2.2.2.2.2.2.2.2.2.2.2) _ _ (sm1 e7) rfl rfl ⟨hb, hsz, hXo, hXn, h7, p5, p6, p7, ⟨fun _ => ⟨hd 7 rfl, rfl, rfl, rfl, rfl, rfl⟩⟩, ⟨fun _ => p7.out (hd 7 rfl)⟩, ⟨fun a => absurd (p9.out a).1 (by rw [hLk]; decide)⟩, p9x, ⟨fun a => absurd (p10.out a).1 (by rw [hLk]; decide)⟩, p11, p11z, p12, p10x, p12x, z6⟩
      ·
       refine CD 9 (fun _ => rfl) (fun _ => rfl) fun LL gg z wx hl hLk hd hI K hK => ?_
       obtain ⟨⟨hb, hsz, hXo, hXn, h7, p5, p6, p7, p8, p8x, p9, p9x, p10, p11, p11z, p12, p10x, p12x, z6⟩⟩ := hl
       have e8 := hI.at 8 rfl (hd 8 rfl)
       dsimp only [FA]
       refine wantd (by rfl) ?_
       go_simp
       exact hK (gg.1, gg.2.1, gg.2.2.1, gg.2.2.2.1, gg.2.2.2.2.1, gg.2.2.2.2.2.1, gg.2.2.2.2.2.2.1, gg.2.2.2.2.2.2.2.1, gg.2.2.2.2.2.2.2.2.1, gg.2.2.2.2.2.2.2.2.2.1, gg.2.2.2.2.2.1, gg.2.2.2.2.2.2.1, gg.2.2.2.2.2.2.2.1, gg.2.2.2.2.2.2.2.2.1, gg.2.2.2.2.2.2.2.2.2.2.2.2.2.2.1, gg.2.2.2.2.2.2.2.2.2.2.2.2.2.2.2) _ _ (sm1 e8) rfl rfl ⟨hb, hsz, hXo, ⟨fun a => absurd (p11z.out a) (by rw [hLk]; decide)⟩, h7, p5, p6, p7, p8, p8x, ⟨fun _ => ⟨hd 8 rfl, rfl, rfl, rfl, rfl⟩⟩, ⟨fun _ => ⟨(p8x.out (hd 8 rfl)).1, (p8x.out (hd 8 rfl)).2.1⟩⟩, p10, p11, ⟨fun h => upd_old (p11z.out h)⟩, p12, p10x, p12x, z6⟩
      ·
       refine CD 10 (fun _ => rfl) (fun _ => rfl) fun LL gg z wx hl hLk hd hI K hK => ?_
       obtain ⟨⟨hb, hsz, hXo, hXn, h7, p5, p6, p7, p8, p8x, p9, p9x, p10, p11, p11z, p12, p10x, p12x, z6⟩⟩ := hl
       have e8 := hI.at 8 rfl (hd 8 rfl)
       dsimp only [FA]
       refine wantd (by rfl) ?_
       go_simp
       exact hK (gg.1, gg.2.1, gg.2.2.1, gg.2.2.2.1, gg.2.2.2.2.1, gg.2.2.2.2.2.1, gg.2.2.2.2.2.2.1, gg.2.2.2.2.2.2.2.1, gg.2.2.2.2.2.2.2.2.1, gg.2.2.2.2.2.2.2.2.2.1, gg.2.2.2.2.2.2.2.2.2.2.1, gg.2.2.2.2.2.2.2.2.2.2.2.1, gg.2.2.2.2.2.2.2.2.2.2.2.2.1, gg.2.2.2.2.2.2.2.2.2.2.2.2.2.1, gg.2.2.2.2.2.2.2.2.2.1, gg.2.2.2.2.2.2.2.2.2.2.2.2.2.2.2) _ _ (sm1 e8) rfl rfl ⟨hb, hsz, hXo, hXn, h7, p5, p6, p7, p8, p8x, p9, p9x, ⟨fun _ => ⟨hd 8 rfl, rfl⟩⟩, p11, p11z, ⟨fun a => absurd (p12.out a).1 (by rw [hLk]; decide)⟩, ⟨fun _ => (p8x.out (hd 8 rfl)).2.2⟩, p12x, z6⟩
      ·
       refine CS (fun _ => rfl) fun LL gg z wx hl hLk hd hI K hK => ?_
       obtain ⟨⟨hb, hsz, hXo, hXn, h7, p5, p6, p7, p8, p8x, p9, p9x, p10, p11, p11z, p12, p10x, p12x, z6⟩⟩ := hl
       have e9 := hI.at 9 rfl (hd 9 rfl)
       have rv := hXo.out hLk
       have f0 := blk_frozen rv 0
       have f1 := blk_frozen rv 1
       have c0_ := blk_cell rv 0
       have c1_ := blk_cell rv 1
       dsimp only [FA]
       refine wantd (by rfl) ?_
       go_simp
       exact hK _ _ (sm1 e9) ⟨⟨below_set2 hb.out (Nat.le_refl _) _ _⟩, ⟨by rw [size_set2]; exact hsz.out⟩, ⟨fun b => Bool.noConfusion (show true = false from b)⟩, ⟨fun _ => blk_put2 rv _ _⟩, ⟨fun b => ⟨(h7.out b).1, Kd.R_mono (Kd.R_far (p := ⟨w3.heap.size, 1, none⟩) (Kd.R_far (p := ⟨w3.heap.size, 0, none⟩) (Kd.R_bound (h7.out b).2) (fun k hk => by have := hk.2.1; show k ≠ w3.heap.size; omega) _) (fun k hk => by have := hk.2.1; show k ≠ w3.heap.size; omega) _) (fun _ _ => trivial)⟩⟩, p5, p6, p7, p8, p8x, p9, p9x, p10, ⟨fun _ => p9x.out (hd 9 rfl)⟩, ⟨fun _ => hd 9 rfl⟩, p12, p10x, p12x, z6⟩
      ·
       refine CD 11 (fun _ => rfl) (fun _ => rfl) fun LL gg z wx hl hLk hd hI K hK => ?_
       obtain ⟨⟨hb, hsz, hXo, hXn, h7, p5, p6, p7, p8, p8x, p9, p9x, p10, p11, p11z, p12, p10x, p12x, z6⟩⟩ := hl
       have e10 := hI.at 10 rfl (hd 10 rfl)
       dsimp only [FA]
       refine wantd (by rfl) ?_
       go_simp
       exact hK (gg.1, gg.2.1, gg.2.2.1, gg.2.2.2.1, gg.2.2.2.2.1, gg.2.2.2.2.2.1, gg.2.2.2.2.2.2.1, gg.2.2.2.2.2.2.2.1, gg.2.2.2.2.2.2.2.2.1, gg.2.2.2.2.2.2.2.2.2.1, gg.2.2.2.2.2.2.2.2.2.2.1, gg.2.2.2.2.2.2.2.2.2.2.2.1, gg.2.2.2.2.2.2.2.2.2.2.2.2.1, gg.2.2.2.2.2.2.2.2.2.2.2.2.2.1, gg.2.2.2.2.2.2.2.2.2.2.2.2.2.2.1, gg.2.2.2.2.2.2.2.2.2.2.2.2.2.2.1) _ _ (sm1 e10) rfl rfl ⟨hb, hsz, hXo, hXn, h7, p5, p6, p7, p8, p8x, p9, p9x, p10, p11, p11z, ⟨fun _ => ⟨hd 10 rfl, rfl⟩⟩, p10x, ⟨fun _ => p10x.out (hd 10 rfl)⟩, ⟨fun b => Bool.noConfusion (show true = false from b)⟩⟩
     ·
      intro LL gg z wc hall hI hl
      obtain ⟨A7, c7, A8, c8, v7, B7, d7, B8, d8, v8, C7, f7, C8, f8, v10, v12⟩ := gg
      obtain ⟨⟨hb, hsz, hXo, hXn, h7, p5, p6, p7, p8, p8x, p9, p9x, p10, p11, p11z, p12, p10x, p12x, z6⟩⟩ := hl
      have e12 := hI.at 11 rfl (hall 12 (by decide))
      dsimp only [FA] at hb hsz hXo hXn h7 p5 p6 p7 p8 p8x p9 p9x p10 p11 p11z p12 p10x p12x z6 e12 ⊢
      rw [e12]
      have y7 := h7.out (hall 7 (by decide))
      have y8 := p8.out (hall 8 (by decide))
      have y9 := p9.out (hall 9 (by decide))
      have y10 := p10.out (hall 10 (by decide))
      have y12 := p12.out (hall 12 (by decide))
      have yx := hXn.out (hall 11 (by decide))
      have HBC := hb
      have HSC := hsz
      clear hI hb hsz hXo hXn h7 p5 p6 p7 p8 p8x p9 p9x p10 p11 p11z p12 p10x p12x z6 e12 hall
      have yxx : wc.heap[w3.heap.size]? = some (.cells #[.slice A7 YL.1.f0.length c7, .slice A8 YL.1.f1.length c8] 44 (0, 0)) := by have h := yx; rw [y9.2.1, y9.2.2.1, y9.2.2.2.1, y9.2.2.2.2, y8.2.1, y8.2.2.1, y8.2.2.2.1, y8.2.2.2.2.1] at h; exact h
      rw [y12.2.trans (y10.2.trans y8.2.2.2.2.2)]
      have HR7 := Aside0.mk y7.2
      have HV7 := Aside0.mk y7.1
      have HXX := Aside0.mk yxx
      clear y7 y8 y9 y10 y12 yx yxx B7 d7 B8 d8 v8 C7 f7 C8 f8 v10 v12
      have HOC := Aside0.mk (Kd.R_below HO3.out HBC.out)
      have HWC := Aside0.mk (below_step HB3.out HBC.out)
      have HEC := Aside0.mk (Kd.C_below HV7.out.2.2.2 HWC.out)
      have HL4 : Aside0 (YL.1.f1.length ≤ 4 ∧ YL.2.length + 1 ≤ l) := by
       have h := longerR_len cls l0_1 ((r :: t).drop X.f0.length) X 0 []
       rw [← HYL.out, HLD.out, List.length_nil] at h
       have h1 : YL.1.f1.length ≤ 4 := by
        rcases h.2 with h2 | h2
        ·
         rw [h2]; exact (HFO.out.2 _ HX0.out.1).2.2
        ·
         exact (HFO.out.2 _ h2).2.2
       exact ⟨h1, by have := h.1; have := HX0.out.2.1; have := HXL.out; omega⟩
      have x1 : wc.cell? ⟨w3.heap.size, 1, none⟩ = some (.slice A8 YL.1.f1.length c8) := (blk_cell HXX.out 1).trans rfl
      go_wp2_with ((with_reducible refine gate_builtin (b := .append) (xs := #[.tmp 56, .tmp 58]) rfl ?_); at_builtin; refine Kd.R_append_rows k39 (Rr := Kd.K k39 wc) (w0 := wc) (w.heap.size + 1) rfl (.tmp 56) (.tmp 58) 29 39 (.agg #[(.int .i64 0), (.int .i64 0), (.int .i64 0)]) 24 rfl Try.underlying29 info39 rfl (by decide) (by omega) u8 o YL.1.f1 A8 YL.1.f1.length c8 (fun _ => True) (fun _ => False) rfl (by first | (go_simp; done) | (go_simp; rfl)) ?aO ?aR (fun _ _ h => h) (fun _ h => h.elim) (fun _ _ => trivial) ?aB ?aS ?aL ?_; (case aO => exact Kd.R_mono HOC.out (fun _ _ => trivial)); (case aR => exact HEC.out); (case aB => exact Below.refl _ _); (case aS => exact Nat.le_trans T3.out.2 HBC.out.size); (case aL => have := HL4.out; have := HS.out.2.2.1; have := HS.out.2.1; have := HLEN.out; omega); intro v2 w6 ho2 hb2 hg2 hat2; have HO6 := Aside0.mk ho2; have HB6 := Aside0.mk hb2; have HG6 := Aside0.mk hg2; clear ho2 hb2 hg2 hat2)
      go_roundw
      case rel =>
       have hr6 := Kd.R_over HR7.out HOC.out (by decide) HG6.out
       obtain ⟨A', c', rfl, hcx, hC⟩ := Kd.R_reads hr6
       refine ⟨YL.2, k1, o ++ YL.1.f1, A', c', rfl, ⟨?_, ?_, ?_, ?_⟩, ⟨hC, hcx, ?_⟩, ⟨?_, ?_⟩, HO6, ⟨?_⟩⟩
       ·
        have := HL4.out.2; have := HS.out.1; omega
       ·
        have := HL4.out.2; have := HS.out.2.1; omega
       ·
        rw [List.length_append]; have := HL4.out; have := HS.out.2.2.1; have := HS.out.2.1; omega
       ·
        rw [HS.out.2.2.2, elemsN, HLO.out, List.append_assoc, HYL.out]
       ·
        intro ad9 ha; exact Kd.R_typed hr6 ad9.block (by rw [ha]; obtain ⟨inner, hown⟩ := Kd.R_own hr6; rcases hown.2 with ⟨h1, h2⟩ | ⟨g, cap, cur, h1, _⟩ <;> · rw [ha] at h1; cases h1; try rfl)
       ·
        exact (HB6.out.block _ (by omega)).trans (blk_below T3.out.1 HBC.out)
       ·
        exact Nat.le_trans (Nat.le_trans T3.out.2 HBC.out.size) HB6.out.size
       ·
        exact HWC.out.trans ⟨HB6.out.os, HB6.out.tape, HB6.out.output, HB6.out.size, fun k hk => HB6.out.block k (by omega)⟩
      case measure => exact (show _ < l from by have := HL4.out.2; obtain ⟨A', c', e, _⟩ := Kd.R_reads HR7.out; subst e; show YL.2.length < l; omega)
    ·
     rw [if_neg hcm] at FR1
     have FR1 := Aside0.mk FR1
     have HS1 : Aside0 ((((X.f0.length : Nat) : Int) ≤ (l : Int)) = True ∧ (X.f0.length ≤ l) = True ∧ ((l : Int) ≤ (c : Int)) = True ∧ (l ≤ c) = True ∧ (c = X.f0.length) = False ∧ ((0 : Int) ≤ ((X.f0.length : Nat) : Int)) = True) := ⟨eq_true (by have := HXL.out; omega), eq_true HXL.out, eq_true (by have := HC3.out.2.1; omega), eq_true HC3.out.2.1, eq_false hcm, eq_true (by omega)⟩
     clear hcm
     refine wp_reg 13 rfl rfl (by kernel_rfl) (fun z => .agg #[.slice A0_0 nl c0_0, .slice A0_1 n c0_1, .int .i64 a0_2, .bool a0_3] :: .slice A1 l1.length c1 :: .pointer (some ⟨w.heap.size, 0, none⟩) :: undef :: .slice none 0 0 :: .int .i64 0 :: z 6 :: .int .i64 e0 :: u8 :: .pointer (some ⟨w3.heap.size, 0, none⟩) :: .bool true :: u11 :: .agg #[.slice A0_0 nl c0_0, .slice A0_1 n c0_1, .int .i64 a0_2, .bool a0_3] :: .bool true :: .bool false :: .tuple #[.slice A9 s0.length c9, .int .i64 e0] :: .pointer (some ⟨w.heap.size, 0, none⟩) :: .slice A0_0 nl c0_0 :: .slice A1 l1.length c1 :: .tuple #[.slice A9 s0.length c9, .int .i64 e0] :: .slice A9 s0.length c9 :: .int .i64 e0 :: .int .i64 e0 :: .bool false :: undef :: .slice (some ad) l c :: .int .i64 (l : Int) :: .bool true :: .tuple #[.agg #[.slice A5 X.f0.length c5, .slice A6 X.f1.length c6], .bool true] :: .agg #[.slice A0_0 nl c0_0, .slice A0_1 n c0_1, .int .i64 a0_2, .bool a0_3] :: .slice (some ad) l c :: .tuple #[.agg #[.slice A5 X.f0.length c5, .slice A6 X.f1.length c6], .bool true] :: .agg #[.slice A5 X.f0.length c5, .slice A6 X.f1.length c6] :: .bool true :: .bool true :: .bool false :: u36 :: u37 :: u38 :: u39 :: u40 :: u41 :: u42 :: u43 :: u44 :: z 45 :: z 46 :: z 47 :: z 48 :: z 49 :: z 50 :: z 51 :: z 52 :: z 53 :: z 54 :: z 55 :: u56 :: u57 :: u58 :: u59 :: undef :: []) (fun (gg : (Option Addr) × Nat × (Option Addr) × Nat × Value × (Option Addr) × Nat × (Option Addr) × Nat × Value × (Option Addr) × Nat × (Option Addr) × Nat × Value × Value) => [(0, 46, .agg #[.slice A0_0 nl c0_0, .slice A0_1 n c0_1, .int .i64 a0_2, .bool a0_3]), (1, 47, .agg #[.slice A5 X.f0.length c5, .slice A6 X.f1.length c6]), (2, 48, .slice (some ad) l c), (3, 49, .pointer (some ⟨w3.heap.size, 0, none⟩)), (4, 50, .slice A5 X.f0.length c5), (5, 51, .int .i64 (X.f0.length : Int)), (6, 52, .slice (some (ad.add X.f0.length)) (l - X.f0.length) (c - X.f0.length)), (7, 53, .tuple #[.agg #[.slice gg.1 YL.1.f0.length gg.2.1, .slice gg.2.2.1 YL.1.f1.length gg.2.2.2.1], gg.2.2.2.2.1]), (8, 45, .tuple #[.agg #[.slice gg.2.2.2.2.2.1 YL.1.f0.length gg.2.2.2.2.2.2.1, .slice gg.2.2.2.2.2.2.2.1 YL.1.f1.length gg.2.2.2.2.2.2.2.2.1], gg.2.2.2.2.2.2.2.2.2.1]), (9, 54, .agg #[.slice gg.2.2.2.2.2.2.2.2.2.2.1 YL.1.f0.length gg.2.2.2.2.2.2.2.2.2.2.2.1, .slice gg.2.2.2.2.2.2.2.2.2.2.2.2.1 YL.1.f1.length gg.2.2.2.2.2.2.2.2.2.2.2.2.2.1]), (10, 55, gg.2.2.2.2.2.2.2.2.2.2.2.2.2.2.1), (12, 6, gg.2.2.2.2.2.2.2.2.2.2.2.2.2.2.2)]) (fun LL gg z wx => Aside0 (Below w3.heap.size w3 wx) ∧ Aside0 (w3.heap.size + 1 ≤ wx.heap.size) ∧ Aside0 (LL 11 = false → wx.heap[w3.heap.size]? = some (.cells #[.slice A5 X.f0.length c5, .slice A6 X.f1.length c6] 44 (0, 0))) ∧ Aside0 (LL 11 = true → wx.heap[w3.heap.size]? = some (.cells #[.slice gg.2.2.2.2.2.2.2.2.2.2.1 YL.1.f0.length gg.2.2.2.2.2.2.2.2.2.2.2.1, .slice gg.2.2.2.2.2.2.2.2.2.2.2.2.1 YL.1.f1.length gg.2.2.2.2.2.2.2.2.2.2.2.2.2.1] 44 (0, 0))) ∧ Aside0 (LL 7 = true → RowV w YL.1 gg.1 gg.2.1 gg.2.2.1 gg.2.2.2.1 ∧ Kd.R (Kd.int .i32) 21 wx (w3.heap.size + 1) (fun _ => True) gg.2.2.2.2.1 YL.2) ∧ Aside0 (LL 5 = true → LL 4 = true) ∧ Aside0 (LL 6 = true → LL 4 = true ∧ LL 2 = true) ∧ Aside0 (LL 7 = true → LL 1 = true ∧ LL 4 = true ∧ LL 2 = true) ∧ Aside0 (LL 8 = true → LL 7 = true ∧ gg.2.2.2.2.2.1 = gg.1 ∧ gg.2.2.2.2.2.2.1 = gg.2.1 ∧ gg.2.2.2.2.2.2.2.1 = gg.2.2.1 ∧ gg.2.2.2.2.2.2.2.2.1 = gg.2.2.2.1 ∧ gg.2.2.2.2.2.2.2.2.2.1 = gg.2.2.2.2.1) ∧ Aside0 (LL 8 = true → LL 1 = true ∧ LL 4 = true ∧ LL 2 = true) ∧ Aside0 (LL 9 = true → LL 8 = true ∧ gg.2.2.2.2.2.2.2.2.2.2.1 = gg.2.2.2.2.2.1 ∧ gg.2.2.2.2.2.2.2.2.2.2.2.1 = gg.2.2.2.2.2.2.1 ∧ gg.2.2.2.2.2.2.2.2.2.2.2.2.1 = gg.2.2.2.2.2.2.2.1 ∧ gg.2.2.2.2.2.2.2.2.2.2.2.2.2.1 = gg.2.2.2.2.2.2.2.2.1) ∧ Aside0 (LL 9 = true → LL 1 = true ∧ LL 4 = true) ∧ Aside0 (LL 10 = true → LL 8 = true ∧ gg.2.2.2.2.2.2.2.2.2.2.2.2.2.2.1 = gg.2.2.2.2.2.2.2.2.2.1) ∧ Aside0 (LL 11 = true → LL 1 = true ∧ LL 4 = true) ∧ Aside0 (LL 11 = true → LL 9 = true) ∧ Aside0 (LL 12 = true → LL 10 = true ∧ gg.2.2.2.2.2.2.2.2.2.2.2.2.2.2.2 = gg.2.2.2.2.2.2.2.2.2.2.2.2.2.2.1) ∧ Aside0 (LL 10 = true → LL 2 = true) ∧ Aside0 (LL 12 = true → LL 2 = true) ∧ Aside0 (LL 12 = false → z 6 = .slice (some ad) l c)) (none, 0, none, 0, undef, none, 0, none, 0, undef, none, 0, none, 0, undef, undef) (zz [(6, .slice (some ad) l c), (45, u45), (46, u46), (47, u47), (48, u48), (49, u49), (50, u50), (51, u51), (52, u52), (53, u53), (54, u54), (55, u55)]) rfl rfl ⟨⟨below_drew (below_alloc (Below.refl _ _) _)⟩, ⟨HSX.out⟩, ⟨fun _ => HX9.out⟩, ⟨fun h => absurd h (by decide)⟩, ⟨fun h => absurd h (by decide)⟩, ⟨fun h => absurd h (by decide)⟩, ⟨fun h => absurd h (by decide)⟩, ⟨fun h => absurd h (by decide)⟩, ⟨fun h => absurd h (by decide)⟩, ⟨fun h => absurd h (by decide)⟩, ⟨fun h => absurd h (by decide)⟩, ⟨fun h => absurd h (by decide)⟩, ⟨fun h => absurd h (by decide)⟩, ⟨fun h => absurd h (by decide)⟩, ⟨fun h => absurd h (by decide)⟩, ⟨fun h => absurd h (by decide)⟩, ⟨fun h => absurd h (by decide)⟩, ⟨fun h => absurd h (by decide)⟩, ⟨fun _ => rfl⟩⟩ ?_ ?_
     ·
      refine Steps.cons ?_ (Steps.cons ?_ (Steps.cons ?_ (Steps.cons ?_ (Steps.cons ?_ (Steps.cons ?_ (Steps.cons ?_ (Steps.cons ?_ (Steps.cons ?_ (Steps.cons ?_ (Steps.cons ?_ (Steps.cons ?_ (Steps.cons ?_ (Steps.nil)))))))))))))
      ·
       refine V0 0 (h := fun LL gg z wx hl hLk  K hK => ?_)
       obtain ⟨⟨hb, hsz, hXo, hXn, h7, p5, p6, p7, p8, p8x, p9, p9x, p10, p11, p11z, p12, p10x, p12x, z6⟩⟩ := hl
       have q0_T : wx.cell? ⟨w.heap.size, 0, none⟩ = some (.slice A0_0 nl c0_0) := (blk_cell (blk_below T3.out.1 hb.out) 0).trans rfl
       have q1_T : wx.cell? ⟨w.heap.size, 1, none⟩ = some (.slice A0_1 n c0_1) := (blk_cell (blk_below T3.out.1 hb.out) 1).trans rfl
       have q2_T : wx.cell? ⟨w.heap.size, 2, none⟩ = some (.int .i64 a0_2) := (blk_cell (blk_below T3.out.1 hb.out) 2).trans rfl
       have q3_T : wx.cell? ⟨w.heap.size, 3, none⟩ = some (.bool a0_3) := (blk_cell (blk_below T3.out.1 hb.out) 3).trans rfl
       dsimp only [FA]
       refine wantd (by rfl) ?_
       go_simp
       exact hK.out
      ·
       refine V0 1 (hT := fun _ => rfl) (hR := fun LL gg z wx hLk hd ⟨hb, hsz, hXo, hXn, h7, p5, p6, p7, p8, p8x, p9, p9x, p10, p11, p11z, p12, p10x, p12x, z6⟩ => ⟨hb, hsz, hXo, hXn, h7, p5, p6, ⟨fun h => ⟨upd_old (p7.out h).1, upd_old (p7.out h).2.1, upd_old (p7.out h).2.2⟩⟩, p8, ⟨fun h => ⟨upd_old (p8x.out h).1, upd_old (p8x.out h).2.1, upd_old (p8x.out h).2.2⟩⟩, p9, ⟨fun h => ⟨upd_old (p9x.out h).1, upd_old (p9x.out h).2⟩⟩, p10, ⟨fun h => ⟨upd_old (p11.out h).1, upd_old (p11.out h).2⟩⟩, p11z, p12, p10x, p12x, z6⟩) (h := fun LL gg z wx hl hLk  K hK => ?_)
       obtain ⟨⟨hb, hsz, hXo, hXn, h7, p5, p6, p7, p8, p8x, p9, p9x, p10, p11, p11z, p12, p10x, p12x, z6⟩⟩ := hl
       have hxo := hXo.out (flag_off (fun h => (p11.out h).1) hLk)
       have q0_X : wx.cell? ⟨w3.heap.size, 0, none⟩ = some (.slice A5 X.f0.length c5) := (blk_cell hxo 0).trans rfl
       have q1_X : wx.cell? ⟨w3.heap.size, 1, none⟩ = some (.slice A6 X.f1.length c6) := (blk_cell hxo 1).trans rfl
       dsimp only [FA]
       refine wantd (by rfl) ?_
       go_simp
       exact hK.out
      ·
       refine CD 2 (fun _ => rfl) (fun _ => rfl) fun LL gg z wx hl hLk hd hI K hK => ?_
       obtain ⟨⟨hb, hsz, hXo, hXn, h7, p5, p6, p7, p8, p8x, p9, p9x, p10, p11, p11z, p12, p10x, p12x, z6⟩⟩ := hl
       have k6 := z6.out (flag_off p12x.out hLk)
       dsimp only [FA]
       refine wantd (by rfl) ?_
       go_simp
       exact hK gg _ _ (sm1 k6) rfl rfl ⟨hb, hsz, hXo, hXn, h7, p5, ⟨fun h => ⟨upd_old (p6.out h).1, upd_old (p6.out h).2⟩⟩, ⟨fun h => ⟨upd_old (p7.out h).1, upd_old (p7.out h).2.1, upd_old (p7.out h).2.2⟩⟩, p8, ⟨fun h => ⟨upd_old (p8x.out h).1, upd_old (p8x.out h).2.1, upd_old (p8x.out h).2.2⟩⟩, p9, p9x, p10, p11, p11z, p12, ⟨fun h => upd_old (p10x.out h)⟩, ⟨fun h => upd_old (p12x.out h)⟩, z6⟩
      ·
       exact V0 3
      ·
       refine V1 4 3 (hT := fun _ => rfl) (hR := fun LL gg z wx hLk hd ⟨hb, hsz, hXo, hXn, h7, p5, p6, p7, p8, p8x, p9, p9x, p10, p11, p11z, p12, p10x, p12x, z6⟩ => ⟨hb, hsz, hXo, hXn, h7, ⟨fun h => upd_old (p5.out h)⟩, ⟨fun h => ⟨upd_old (p6.out h).1, upd_old (p6.out h).2⟩⟩, ⟨fun h => ⟨upd_old (p7.out h).1, upd_old (p7.out h).2.1, upd_old (p7.out h).2.2⟩⟩, p8, ⟨fun h => ⟨upd_old (p8x.out h).1, upd_old (p8x.out h).2.1, upd_old (p8x.out h).2.2⟩⟩, p9, ⟨fun h => ⟨upd_old (p9x.out h).1, upd_old (p9x.out h).2⟩⟩, p10, ⟨fun h => ⟨upd_old (p11.out h).1, upd_old (p11.out h).2⟩⟩, p11z, p12, p10x, p12x, z6⟩) (h := fun LL gg z wx hl hLk e3 K hK => ?_)
       obtain ⟨⟨hb, hsz, hXo, hXn, h7, p5, p6, p7, p8, p8x, p9, p9x, p10, p11, p11z, p12, p10x, p12x, z6⟩⟩ := hl
       have hxo := hXo.out (flag_off (fun h => (p11.out h).2) hLk)
       have q0_X : wx.cell? ⟨w3.heap.size, 0, none⟩ = some (.slice A5 X.f0.length c5) := (blk_cell hxo 0).trans rfl
       dsimp only [FA]
       refine wantd (by rfl) ?_
       go_simp
       exact hK.out
      ·
       exact V1 5 4 (hT := fun _ => rfl) (hR := fun LL gg z wx hLk hd ⟨hb, hsz, hXo, hXn, h7, p5, p6, p7, p8, p8x, p9, p9x, p10, p11, p11z, p12, p10x, p12x, z6⟩ => ⟨hb, hsz, hXo, hXn, h7, ⟨fun _ => hd 4 rfl⟩, p6, p7, p8, p8x, p9, p9x, p10, p11, p11z, p12, p10x, p12x, z6⟩)
      ·
       refine V2 6 2 5 (hT := fun _ => rfl) (hR := fun LL gg z wx hLk hd ⟨hb, hsz, hXo, hXn, h7, p5, p6, p7, p8, p8x, p9, p9x, p10, p11, p11z, p12, p10x, p12x, z6⟩ => ⟨hb, hsz, hXo, hXn, h7, p5, ⟨fun _ => ⟨p5.out (hd 5 rfl), hd 2 rfl⟩⟩, p7, p8, p8x, p9, p9x, p10, p11, p11z, p12, p10x, p12x, z6⟩) (h := fun LL gg z wx hl hLk e2 e5 K hK => ?_)
       obtain ⟨⟨hb, hsz, hXo, hXn, h7, p5, p6, p7, p8, p8x, p9, p9x, p10, p11, p11z, p12, p10x, p12x, z6⟩⟩ := hl
       have hs1 := HS1.out.1
       have hs2 := HS1.out.2.1
       have hs3 := HS1.out.2.2.1
       have hs4 := HS1.out.2.2.2.1
       have hs5 := HS1.out.2.2.2.2.1
       have hs6 := HS1.out.2.2.2.2.2
       dsimp only [FA]
       refine wantd (by rfl) ?_
       go_simp
       exact hK.out
      ·
       refine CD 7 (fun _ => rfl) (fun _ => rfl) fun LL gg z wx hl hLk hd hI K hK => ?_
       obtain ⟨⟨hb, hsz, hXo, hXn, h7, p5, p6, p7, p8, p8x, p9, p9x, p10, p11, p11z, p12, p10x, p12x, z6⟩⟩ := hl
       have e0 := hI.at 0 rfl (hd 0 rfl)
       have e1 := hI.at 1 rfl (hd 1 rfl)
       have e6 := hI.at 6 rfl (hd 6 rfl)
       dsimp only [FA]
       refine wantd (by rfl) ?_
       go_simp
       refine (FR1.out wx hb.out).mono ?_
       rintro e w' ⟨A7', c7', A8', c8', v7', rfl, hv7, ho, hb1⟩
       exact hK (A7', c7', A8', c8', v7', gg.2.2.2.2.2.1, gg.2.2.2.2.2.2.1, gg.2.2.2.2.2.2.2.1, gg.2.2.2.2.2.2.2.2.1, gg.2.2.2.2.2.2.2.2.2.1, gg.2.2.2.2.2.2.2.2.2.2.1, gg.2.2.2.2.2.2.2.2.2.2.2.1, gg.2.2.2.2.2.2.2.2.2.2.2.2.1, gg.2.2.2.2.2.2.2.2.2.2.2.2.2.1, gg.2.2.2.2.2.2.2.2.2.2.2.2.2.2.1, gg.2.2.2.2.2.2.2.2.2.2.2.2.2.2.2) _ _ (sm3 e0 e1 e6) rfl rfl ⟨⟨below_step hb.out hb1⟩, ⟨Nat.le_trans hsz.out hb1.size⟩, ⟨fun h => blk_below (hXo.out h) hb1⟩, ⟨fun h => blk_below (hXn.out h) hb1⟩, ⟨fun _ => ⟨hv7, Kd.R_lower ho hsz.out⟩⟩, p5, p6, ⟨fun _ => ⟨hd 1 rfl, (p6.out (hd 6 rfl)).1, (p6.out (hd 6 rfl)).2⟩⟩, ⟨fun a => absurd (p8.out a).1 (by rw [hLk]; decide)⟩, p8x, p9, p9x, p10, p11, p11z, p12, p10x, p12x, z6⟩
      ·
       refine CD 8 (fun _ => rfl) (fun _ => rfl) fun LL gg z wx hl hLk hd hI K hK => ?_
       obtain ⟨⟨hb, hsz, hXo, hXn, h7, p5, p6, p7, p8, p8x, p9, p9x, p10, p11, p11z, p12, p10x, p12x, z6⟩⟩ := hl
       have e7 := hI.at 7 rfl (hd 7 rfl)
       dsimp only [FA]
       refine wantd (by rfl) ?_
       go_simp
       exact hK (gg.1, gg.2.1, gg.2.2.1, gg.2.2.2.1, gg.2.2.2.2.1, gg.1, gg.2.1, gg.2.2.1, gg.2.2.2.1, gg.2.2.2.2.1, gg.2.2.2.2.2.2.2.2.2.2.1, gg.2.2.2.2.2.2.2.2.2.2.2.1, gg.2.2.2.2.2.2.2.2.2.2.2.2.1, gg.2.2.2.2.2.2.2.2.2.2.2.2.2.1, gg.2.2.2.2.2.2.2.2.2.2.2.2.2.2.1, gg.2.2.2.2.2.2.2.2.2.2.2.2.2.2.2) _ _ (sm1 e7) rfl rfl ⟨hb, hsz, hXo, hXn, h7, p5, p6, p7, ⟨fun _ => ⟨hd 7 rfl, rfl, rfl, rfl, rfl, rfl⟩⟩, ⟨fun _ => p7.out (hd 7 rfl)⟩, ⟨fun a => absurd (p9.out a).1 (by rw [hLk]; decide)⟩, p9x, ⟨fun a => absurd (p10.out a).1 (by rw [hLk]; decide)⟩, p11, p11z, p12, p10x, p12x, z6⟩
      ·
       refine CD 9 (fun _ => rfl) (fun _ => rfl) fun LL gg z wx hl hLk hd hI K hK => ?_
       obtain ⟨⟨hb, hsz, hXo, hXn, h7, p5, p6, p7, p8, p8x, p9, p9x, p10, p11, p11z, p12, p10x, p12x, z6⟩⟩ := hl
       have e8 := hI.at 8 rfl (hd 8 rfl)
       dsimp only [FA]
       refine wantd (by rfl) ?_
       go_simp
       exact hK (gg.1, gg.2.1, gg.2.2.1, gg.2.2.2.1, gg.2.2.2.2.1, gg.2.2.2.2.2.1, gg.2.2.2.2.2.2.1, gg.2.2.2.2.2.2.2.1, gg.2.2.2.2.2.2.2.2.1, gg.2.2.2.2.2.2.2.2.2.1, gg.2.2.2.2.2.1, gg.2.2.2.2.2.2.1, gg.2.2.2.2.2.2.2.1, gg.2.2.2.2.2.2.2.2.1, gg.2.2.2.2.2.2.2.2.2.2.2.2.2.2.1, gg.2.2.2.2.2.2.2.2.2.2.2.2.2.2.2) _ _ (sm1 e8) rfl rfl ⟨hb, hsz, hXo, ⟨fun a => absurd (p11z.out a) (by rw [hLk]; decide)⟩, h7, p5, p6, p7, p8, p8x, ⟨fun _ => ⟨hd 8 rfl, rfl, rfl, rfl, rfl⟩⟩, ⟨fun _ => ⟨(p8x.out (hd 8 rfl)).1, (p8x.out (hd 8 rfl)).2.1⟩⟩, p10, p11, ⟨fun h => upd_old (p11z.out h)⟩, p12, p10x, p12x, z6⟩
      ·
       refine CD 10 (fun _ => rfl) (fun _ => rfl) fun LL gg z wx hl hLk hd hI K hK => ?_
       obtain ⟨⟨hb, hsz, hXo, hXn, h7, p5, p6, p7, p8, p8x, p9, p9x, p10, p11, p11z, p12, p10x, p12x, z6⟩⟩ := hl
       have e8 := hI.at 8 rfl (hd 8 rfl)
       dsimp only [FA]
       refine wantd (by rfl) ?_
       go_simp
       exact hK (gg.1, gg.2.1, gg.2.2.1, gg.2.2.2.1, gg.2.2.2.2.1, gg.2.2.2.2.2.1, gg.2.2.2.2.2.2.1, gg.2.2.2.2.2.2.2.1, gg.2.2.2.2.2.2.2.2.1, gg.2.2.2.2.2.2.2.2.2.1, gg.2.2.2.2.2.2.2.2.2.2.1, gg.2.2.2.2.2.2.2.2.2.2.2.1, gg.2.2.2.2.2.2.2.2.2.2.2.2.1, gg.2.2.2.2.2.2.2.2.2.2.2.2.2.1, gg.2.2.2.2.2.2.2.2.2.1, gg.2.2.2.2.2.2.2.2.2.2.2.2.2.2.2) _ _ (sm1 e8) rfl rfl ⟨hb, hsz, hXo, hXn, h7, p5, p6, p7, p8, p8x, p9, p9x, ⟨fun _ => ⟨hd 8 rfl, rfl⟩⟩, p11, p11z, ⟨fun a => absurd (p12.out a).1 (by rw [hLk]; decide)⟩, ⟨fun _ => (p8x.out (hd 8 rfl)).2.2⟩, p12x, z6⟩
      ·
       refine CS (fun _ => rfl) fun LL gg z wx hl hLk hd hI K hK => ?_
       obtain ⟨⟨hb, hsz, hXo, hXn, h7, p5, p6, p7, p8, p8x, p9, p9x, p10, p11, p11z, p12, p10x, p12x, z6⟩⟩ := hl
       have e9 := hI.at 9 rfl (hd 9 rfl)
       have rv := hXo.out hLk
       have f0 := blk_frozen rv 0
       have f1 := blk_frozen rv 1
       have c0_ := blk_cell rv 0
       have c1_ := blk_cell rv 1
       dsimp only [FA]
       refine wantd (by rfl) ?_
       go_simp
       exact hK _ _ (sm1 e9) ⟨⟨below_set2 hb.out (Nat.le_refl _) _ _⟩, ⟨by rw [size_set2]; exact hsz.out⟩, ⟨fun b => Bool.noConfusion (show true = false from b)⟩, ⟨fun _ => blk_put2 rv _ _⟩, ⟨fun b => ⟨(h7.out b).1, Kd.R_mono (Kd.R_far (p := ⟨w3.heap.size, 1, none⟩) (Kd.R_far (p := ⟨w3.heap.size, 0, none⟩) (Kd.R_bound (h7.out b).2) (fun k hk => by have := hk.2.1; show k ≠ w3.heap.size; omega) _) (fun k hk => by have := hk.2.1; show k ≠ w3.heap.size; omega) _) (fun _ _ => trivial)⟩⟩, p5, p6, p7, p8, p8x, p9, p9x, p10, ⟨fun _ => p9x.out (hd 9 rfl)⟩, ⟨fun _ => hd 9 rfl⟩, p12, p10x, p12x, z6⟩
      ·
       refine CD 11 (fun _ => rfl) (fun _ => rfl) fun LL gg z wx hl hLk hd hI K hK => ?_
       obtain ⟨⟨hb, hsz, hXo, hXn, h7, p5, p6, p7, p8, p8x, p9, p9x, p10, p11, p11z, p12, p10x, p12x, z6⟩⟩ := hl
       have e10 := hI.at 10 rfl (hd 10 rfl)
       dsimp only [FA]
       refine wantd (by rfl) ?_
       go_simp
       exact hK (gg.1, gg.2.1, gg.2.2.1, gg.2.2.2.1, gg.2.2.2.2.1, gg.2.2.2.2.2.1, gg.2.2.2.2.2.2.1, gg.2.2.2.2.2.2.2.1, gg.2.2.2.2.2.2.2.2.1, gg.2.2.2.2.2.2.2.2.2.1, gg.2.2.2.2.2.2.2.2.2.2.1, gg.2.2.2.2.2.2.2.2.2.2.2.1, gg.2.2.2.2.2.2.2.2.2.2.2.2.1, gg.2.2.2.2.2.2.2.2.2.2.2.2.2.1, gg.2.2.2.2.2.2.2.2.2.2.2.2.2.2.1, gg.2.2.2.2.2.2.2.2.2.2.2.2.2.2.1) _ _ (sm1 e10) rfl rfl ⟨hb, hsz, hXo, hXn, h7, p5, p6, p7, p8, p8x, p9, p9x, p10, p11, p11z, ⟨fun _ => ⟨hd 10 rfl, rfl⟩⟩, p10x, ⟨fun _ => p10x.out (hd 10 rfl)⟩, ⟨fun b => Bool.noConfusion (show true = false from b)⟩⟩
     ·
      intro LL gg z wc hall hI hl
      obtain ⟨A7, c7, A8, c8, v7, B7, d7, B8, d8, v8, C7, f7, C8, f8, v10, v12⟩ := gg
      obtain ⟨⟨hb, hsz, hXo, hXn, h7, p5, p6, p7, p8, p8x, p9, p9x, p10, p11, p11z, p12, p10x, p12x, z6⟩⟩ := hl
      have e12 := hI.at 11 rfl (hall 12 (by decide))
      dsimp only [FA] at hb hsz hXo hXn h7 p5 p6 p7 p8 p8x p9 p9x p10 p11 p11z p12 p10x p12x z6 e12 ⊢
      rw [e12]
      have y7 := h7.out (hall 7 (by decide))
      have y8 := p8.out (hall 8 (by decide))
      have y9 := p9.out (hall 9 (by decide))
      have y10 := p10.out (hall 10 (by decide))
      have y12 := p12.out (hall 12 (by decide))
      have yx := hXn.out (hall 11 (by decide))
      have HBC := hb
      have HSC := hsz
      clear hI hb hsz hXo hXn h7 p5 p6 p7 p8 p8x p9 p9x p10 p11 p11z p12 p10x p12x z6 e12 hall
      have yxx : wc.heap[w3.heap.size]? = some (.cells #[.slice A7 YL.1.f0.length c7, .slice A8 YL.1.f1.length c8] 44 (0, 0)) := by have h := yx; rw [y9.2.1, y9.2.2.1, y9.2.2.2.1, y9.2.2.2.2, y8.2.1, y8.2.2.1, y8.2.2.2.1, y8.2.2.2.2.1] at h; exact h
      rw [y12.2.trans (y10.2.trans y8.2.2.2.2.2)]
      have HR7 := Aside0.mk y7.2
      have HV7 := Aside0.mk y7.1
      have HXX := Aside0.mk yxx
      clear y7 y8 y9 y10 y12 yx yxx B7 d7 B8 d8 v8 C7 f7 C8 f8 v10 v12
      have HOC := Aside0.mk (Kd.R_below HO3.out HBC.out)
      have HWC := Aside0.mk (below_step HB3.out HBC.out)
      have HEC := Aside0.mk (Kd.C_below HV7.out.2.2.2 HWC.out)
      have HL4 : Aside0 (YL.1.f1.length ≤ 4 ∧ YL.2.length + 1 ≤ l) := by
       have h := longerR_len cls l0_1 ((r :: t).drop X.f0.length) X 0 []
       rw [← HYL.out, HLD.out, List.length_nil] at h
       have h1 : YL.1.f1.length ≤ 4 := by
        rcases h.2 with h2 | h2
        ·
         rw [h2]; exact (HFO.out.2 _ HX0.out.1).2.2
        ·
         exact (HFO.out.2 _ h2).2.2
       exact ⟨h1, by have := h.1; have := HX0.out.2.1; have := HXL.out; omega⟩
      have x1 : wc.cell? ⟨w3.heap.size, 1, none⟩ = some (.slice A8 YL.1.f1.length c8) := (blk_cell HXX.out 1).trans rfl
      go_wp2_with ((with_reducible refine gate_builtin (b := .append) (xs := #[.tmp 56, .tmp 58]) rfl ?_); at_builtin; refine Kd.R_append_rows k39 (Rr := Kd.K k39 wc) (w0 := wc) (w.heap.size + 1) rfl (.tmp 56) (.tmp 58) 29 39 (.agg #[(.int .i64 0), (.int .i64 0), (.int .i64 0)]) 24 rfl Try.underlying29 info39 rfl (by decide) (by omega) u8 o YL.1.f1 A8 YL.1.f1.length c8 (fun _ => True) (fun _ => False) rfl (by first | (go_simp; done) | (go_simp; rfl)) ?aO ?aR (fun _ _ h => h) (fun _ h => h.elim) (fun _ _ => trivial) ?aB ?aS ?aL ?_; (case aO => exact Kd.R_mono HOC.out (fun _ _ => trivial)); (case aR => exact HEC.out); (case aB => exact Below.refl _ _); (case aS => exact Nat.le_trans T3.out.2 HBC.out.size); (case aL => have := HL4.out; have := HS.out.2.2.1; have := HS.out.2.1; have := HLEN.out; omega); intro v2 w6 ho2 hb2 hg2 hat2; have HO6 := Aside0.mk ho2; have HB6 := Aside0.mk hb2; have HG6 := Aside0.mk hg2; clear ho2 hb2 hg2 hat2)
      go_roundw
      case rel =>
       have hr6 := Kd.R_over HR7.out HOC.out (by decide) HG6.out
       obtain ⟨A', c', rfl, hcx, hC⟩ := Kd.R_reads hr6
       refine ⟨YL.2, k1, o ++ YL.1.f1, A', c', rfl, ⟨?_, ?_, ?_, ?_⟩, ⟨hC, hcx, ?_⟩, ⟨?_, ?_⟩, HO6, ⟨?_⟩⟩
       ·
        have := HL4.out.2; have := HS.out.1; omega
       ·
        have := HL4.out.2; have := HS.out.2.1; omega
       ·
        rw [List.length_append]; have := HL4.out; have := HS.out.2.2.1; have := HS.out.2.1; omega
       ·
        rw [HS.out.2.2.2, elemsN, HLO.out, List.append_assoc, HYL.out]
       ·
        intro ad9 ha; exact Kd.R_typed hr6 ad9.block (by rw [ha]; obtain ⟨inner, hown⟩ := Kd.R_own hr6; rcases hown.2 with ⟨h1, h2⟩ | ⟨g, cap, cur, h1, _⟩ <;> · rw [ha] at h1; cases h1; try rfl)
       ·
        exact (HB6.out.block _ (by omega)).trans (blk_below T3.out.1 HBC.out)
       ·
        exact Nat.le_trans (Nat.le_trans T3.out.2 HBC.out.size) HB6.out.size
       ·
        exact HWC.out.trans ⟨HB6.out.os, HB6.out.tape, HB6.out.output, HB6.out.size, fun k hk => HB6.out.block k (by omega)⟩
      case measure => exact (show _ < l from by have := HL4.out.2; obtain ⟨A', c', e, _⟩ := Kd.R_reads HR7.out; subst e; show YL.2.length < l; omega)


end Go.Proofs.Ytfagobhhhljajaa.PWeighParts

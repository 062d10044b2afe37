-- printed by a program of this session (wip/tools), a turned form of the kit's print
import Derived.Test.YtdeepnpbibhfiaaPOnceKeepsx0
namespace Go.Proofs.Ytdeepnpbibhfiaa.POnceKeeps
open Go.RowKit Go.Proofs.YtdeepnpbibhfiaaW.PrintWords Go.Proofs.YtdeepnpbibhfiaaW.PrintLast Go.Proofs.YtdeepnpbibhfiaaW.PrintMore
attribute [local go_sem] max2_int min2_int max_two min_two max_three min_three max_four min_four max2_str min2_str str_geq str_leq str_gtr   -- for this text's walks alone
set_option linter.unusedVariables false
set_option linter.unusedSimpArgs false

/-! ### gazetteerlaw12_OnceKeeps: function 3 -/
def gazetteerlaw12_OnceKeeps.f (l0 : List S27) : Option Bool := if l0.all (fun p => decide (0 ≤ p.f0 ∧ p.f0 ≤ 255 ∧ 0 ≤ p.f1 ∧ p.f1 ≤ 255)) then some true else none
open Go.Proofs.YtdeepnpbibhfiaaW.PrintReg Go.Proofs.YtdeepnpbibhfiaaW.PrintOnce Go.Proofs.YtdeepnpbibhfiaaW.PrintTree
theorem zv26 (w : World) : (zeroValue 26).run Try.prog w = .ok (.agg (Array.replicate 256 (.int .i64 0))) w := by kernel_rfl
/-- An array of whole numbers, as a block. -/
def ArrV (w : World) (g : Nat) (vs : List Int) : Prop := w.heap[g]? = some (.cells (vs.map (Value.int .i64)).toArray 26 (0, 0))
theorem ArrV.cell {w : World} {g : Nat} {vs : List Int} (h : ArrV w g vs) (j : Nat) (hj : j < vs.length) : w.cell? ⟨g, j, none⟩ = some (.int .i64 (vs.getD j 0)) := by
  rw [blk_cell h j]
  simp [List.getD, hj]
theorem ArrV.frozen {w : World} {g : Nat} {vs : List Int} (h : ArrV w g vs) (j : Nat) : w.frozen? ⟨g, j, none⟩ = false := blk_frozen h j
theorem ArrV.set {w : World} {g : Nat} {vs : List Int} (h : ArrV w g vs) (j : Nat) (x : Int) : ArrV (w.setCell ⟨g, j, none⟩ (.int .i64 x)) g (vs.set j x) ∧ On (· = g) w (w.setCell ⟨g, j, none⟩ (.int .i64 x)) := by
  refine ⟨?_, On.set (P := (· = g)) (On.refl _ _) (p := ⟨g, j, none⟩) (show g = g from rfl) _⟩
  have h2 := blk_set h j (.int .i64 x)
  unfold ArrV
  rw [h2]
  congr 2
  simp [List.map_set]
theorem ArrV.on {w w1 : World} {g : Nat} {vs : List Int} (h : ArrV w g vs) {P : Nat → Prop} (ho : On P w w1) (hp : ¬ P g) : ArrV w1 g vs := ho.blk h hp
theorem rep_step (i : Nat) (h : i < 256) : (List.replicate i (-1 : Int) ++ List.replicate (256 - i) 0).set i (-1) = List.replicate (i + 1) (-1) ++ List.replicate (256 - (i + 1)) 0 := by
  rw [List.set_append_right _ _ (by simp), List.length_replicate, Nat.sub_self, show 256 - i = (256 - (i + 1)) + 1 by omega, List.replicate_succ, List.set_cons_zero, List.replicate_succ', List.append_assoc]
  rfl
theorem rep_len (i : Nat) (h : i ≤ 256) : (List.replicate i (-1 : Int) ++ List.replicate (256 - i) 0).length = 256 := by
  rw [List.length_append, List.length_replicate, List.length_replicate]; omega
theorem RowsV.types {w : World} {ok : Nat → Prop} {g t : Nat} {cells : Array Value} (hc : w.heap[g]? = some (.cells cells t (0, 0))) (ht : 71 ≠ t) : ∀ {T : List S33} {ms : List (Int × Value)}, RowsV w ok T ms → RowsV w (fun k => ok k ∧ k ≠ g) T ms
  | [], [], _ => trivial
  | [], _ :: _, h => h.elim
  | _ :: _, [], h => h.elim
  | x :: T, p :: ms, h => by
    obtain ⟨⟨v5, e, h1, h2⟩, h3⟩ := h
    exact ⟨⟨v5, e, Kd.R_types h1 hc (fun q hq => by rcases List.mem_cons.1 hq with rfl | hq; exact ht; cases hq), h2⟩, RowsV.types hc ht h3⟩
theorem RowsV.weak {w : World} {ok ok' : Nat → Prop} (hk : ∀ k, ok k → ok' k) : ∀ {T : List S33} {ms : List (Int × Value)}, RowsV w ok T ms → RowsV w ok' T ms
  | [], [], _ => trivial
  | [], _ :: _, h => h.elim
  | _ :: _, [], h => h.elim
  | x :: T, p :: ms, h => by
    obtain ⟨⟨v5, e, h1, h2⟩, h3⟩ := h
    exact ⟨⟨v5, e, Kd.R_mono h1 hk, h2⟩, RowsV.weak hk h3⟩
/-- A block of other cells may be written: the table stays. -/
theorem Tbl.far {w w1 : World} {base g b : Nat} {T : List S33} (h : Tbl w base g b T) {gl t : Nat} {cells : Array Value} (hc : w.heap[gl]? = some (.cells cells t (0, 0))) (ht : 71 ≠ t) (hg : gl ≠ g) (hb : gl ≠ b) (ho : On (· = gl) w w1) : Tbl w1 base g b T := by
  obtain ⟨ms, h1, h2, h3, h4, h5⟩ := h
  exact ⟨ms, ho.blk h1 (fun e => hg e.symm), h2, own_below h3 (ho.block b h3.lt (fun e => hb e.symm)), h4, RowsV.weak (fun k hk => hk.1) ((RowsV.types hc ht h5).move (fun k hk hlt => ho.block k hlt hk.2))⟩
/-- What the array holds is each client's last number. -/
def Fit (T : List S33) (vs : List Int) : Prop := vs.length = 256 ∧ (∀ c : Nat, c < 256 → vs.getD c 0 = seqT T (c : Int)) ∧ RisT T ∧ (∀ x ∈ T, 0 ≤ x.f0 ∧ x.f0 ≤ 255 ∧ 0 ≤ x.f1 ∧ x.f1 ≤ 255)
theorem fit_nil : Fit [] (List.replicate 256 (-1) ++ List.replicate (256 - 256) 0) := by
  refine ⟨rep_len 256 (Nat.le_refl _), fun c hc => ?_, List.Pairwise.nil, fun x hx => by cases hx⟩
  rw [Nat.sub_self, List.replicate_zero, List.append_nil, List.getD_eq_getElem?_getD, List.getElem?_replicate, if_pos hc]
  rfl
theorem wf64 {c : Int} (h0 : 0 ≤ c) (h1 : c ≤ 255) : (Lit.int .i64 c).wf = true := by simp [Lit.wf, IntKind.min, IntKind.max, IntKind.signed, IntKind.bits]; omega
theorem seq_put (x : S33) (T : List S33) (c : Int) : seqT (putT x T) c = if x.f0 = c then x.f1 else seqT T c := by
  unfold seqT
  rw [lkT_put]
  by_cases h : x.f0 = c
  · rw [if_pos h, if_pos h]
  · rw [if_neg h, if_neg h]
theorem putT_mem {x y : S33} {T : List S33} (h : y ∈ putT x T) : y = x ∨ y ∈ T := by
  rcases insT_mem.1 h with h | h
  · exact .inl h
  · exact .inr (List.mem_filter.1 h).1
theorem fit_put {T : List S33} {vs : List Int} (h : Fit T vs) {x : S33} {cn : Nat} {m : Int} (hx0 : x.f0 = (cn : Int)) (hx1 : x.f1 = m) (hc : cn ≤ 255) (hm : 0 ≤ m ∧ m ≤ 255) : Fit (putT x T) (vs.set cn m) := by
  refine ⟨by rw [List.length_set]; exact h.1, fun c hc2 => ?_, putT_ris h.2.2.1, fun y hy => ?_⟩
  · rw [seq_put, hx0, hx1, ← h.2.1 c hc2, List.getD_eq_getElem?_getD, List.getElem?_set]
    by_cases e : cn = c
    · subst e
      rw [if_pos rfl, if_pos rfl, if_pos (by rw [h.1]; omega)]; rfl
    · rw [if_neg e, if_neg (by omega), List.getD_eq_getElem?_getD]
  · rcases putT_mem hy with rfl | hy
    · rw [hx0, hx1]; omega
    · exact h.2.2.2 y hy
theorem see_put {T : List S33} {x : S33} {c m : Int} (hx0 : x.f0 = c) (hx1 : x.f1 = m) (hm : 0 ≤ m) : seeV (putT x T) c m = (x, 1) := by
  unfold seeV
  rw [seq_put, if_pos hx0, hx1, if_neg (by omega), lkT_put, if_pos hx0]
  simp only []
  rw [if_pos ⟨by omega, by omega⟩]
theorem see_old {T : List S33} {c m s : Int} (hs : s = seqT T c) (hm : 0 ≤ m) (hle : m ≤ s) : ∃ y, seeV T c m = if m = s then (y, 1) else (z33, 2) := by
  unfold seeV
  rw [← hs, if_neg (by omega)]
  unfold seqT at hs
  cases hl : lkT T c with
  | none => rw [hl] at hs; simp only [] at hs; omega
  | some y =>
    rw [hl] at hs
    simp only [] at hs ⊢
    refine ⟨y, ?_⟩
    by_cases e : m = s
    · rw [if_pos ⟨by omega, by omega⟩, if_pos e]
    · rw [if_neg (by omega), if_neg e]
/-- How many answers stand ahead of a client. -/
def Mark (T : List S33) (mn c : Nat) : Prop := mn ≤ T.length ∧ (∀ j (h : j < T.length), j < mn → T[j].f0 < (c : Int)) ∧ (∀ j (h : j < T.length), mn ≤ j → (c : Int) ≤ T[j].f0)
theorem mark_skip {T : List S33} {mn c : Nat} (h : Mark T mn c) (hq : ∀ x ∈ T, 0 ≤ x.f1) (hs : seqT T (c : Int) < 0) : Mark T mn (c + 1) := by
  have hno : ∀ x ∈ T, x.f0 ≠ (c : Int) := fun x hx e => by
    unfold seqT at hs
    cases hl : lkT T (c : Int) with
    | none => have := List.find?_eq_none.1 hl x hx; simp at this; exact this e
    | some y => rw [hl] at hs; have := hq y (lkT_mem hl).1; simp only [] at hs; omega
  refine ⟨h.1, fun j hj h2 => by have := h.2.1 j hj h2; omega, fun j hj h2 => ?_⟩
  have h3 := h.2.2 j hj h2
  have h4 := hno T[j] (List.getElem_mem hj)
  omega
theorem mark_at {T : List S33} {mn c : Nat} (h : Mark T mn c) (hr : RisT T) (hs : ¬ seqT T (c : Int) < 0) : ∃ hm : mn < T.length, T[mn].f0 = (c : Int) ∧ T[mn].f1 = seqT T (c : Int) ∧ Mark T (mn + 1) (c + 1) := by
  unfold seqT at hs ⊢
  cases hl : lkT T (c : Int) with
  | none => rw [hl] at hs; exact absurd (by decide) hs
  | some y =>
    obtain ⟨hy, he⟩ := lkT_mem hl
    obtain ⟨j, hj, rfl⟩ := List.getElem_of_mem hy
    have hp := List.pairwise_iff_getElem.1 hr
    have hmj : mn ≤ j := by
      rcases Nat.lt_or_ge j mn with h2 | h2
      · have := h.2.1 j hj h2; omega
      · exact h2
    have hjm : j = mn := by
      rcases Nat.lt_or_ge mn j with h2 | h2
      · have h3 := hp mn j (by omega) hj h2
        have h4 := h.2.2 mn (by omega) (Nat.le_refl _)
        omega
      · omega
    subst hjm
    refine ⟨hj, he, rfl, by omega, fun i hi h2 => ?_, fun i hi h2 => ?_⟩
    · rcases Nat.lt_succ_iff_lt_or_eq.1 h2 with h3 | rfl
      · have := h.2.1 i hi h3; omega
      · omega
    · have := hp j i hj hi (by omega); omega
theorem mark_end {T : List S33} {mn : Nat} (h : Mark T mn 256) (hb : ∀ x ∈ T, x.f0 ≤ 255) : mn = T.length := by
  rcases Nat.lt_or_ge mn T.length with h2 | h2
  · have h3 := h.2.2 mn h2 (Nat.le_refl _)
    have h4 := hb T[mn] (List.getElem_mem h2)
    omega
  · have := h.1; omega
theorem rdL_at (T : List S33) (i : Nat) (hi : i < T.length) : rd_T39 (T.map mkL) (i : Int) = mkL T[i] := by unfold rd_T39; rw [Int.toNat_natCast, List.getD_eq_getElem?_getD, List.getElem?_map, List.getElem?_eq_getElem hi]; rfl
set_option maxHeartbeats 8000000 in
set_option maxRecDepth 100000 in
theorem gazetteerlaw12_OnceKeeps.calls (A0 : Option Addr) (c0 : Nat) (l0 : List (S27)) (r : Bool) (w : World) (hr0 : Kd.C k27 w A0 l0.length l0) (hc0 : l0.length ≤ c0) (HLT0 : r = true) (h : gazetteerlaw12_OnceKeeps.f l0 = some r) :
    Calls Try.prog 3 #[.slice A0 l0.length c0] w fun e w' => e = .returned (.bool r) ∧ Below w.heap.size w w' := by
  unfold gazetteerlaw12_OnceKeeps.f at h
  split at h
  case isFalse => cases h
  case isTrue hall =>
  obtain rfl := Option.some.inj h
  have HC := Aside0.mk (And.intro hr0 hc0)
  have HA := Aside0.mk hall
  clear hr0 hc0 hall h
  go_enter Try.func3, Try.ntmps3
  go_wp2_with fail
  refine (awake6 w).mono ?_
  rintro e w1 ⟨rfl, hb⟩
  have HB1 := Aside0.mk hb
  obtain ⟨n, hn⟩ : ∃ n, n = l0.length := ⟨_, rfl⟩
  have HN := Aside0.mk hn
  rw [← hn] at HC ⊢
  clear hb hn
  by_cases h200 : 200 < n
  · have r1 : ((200 : Int) < (n : Int)) = True := eq_true (by omega)
    have r2 : (200 < n) = True := eq_true h200
    clear h200
    go_wp2_with fail
    go_ret
    exact ⟨rfl, HB1.out⟩
  · have r1 : ((200 : Int) < (n : Int)) = False := eq_false (by omega)
    have r2 : (200 < n) = False := eq_false h200
    have HNL : Aside0 (n ≤ 200) := ⟨by omega⟩
    clear h200
    go_wp2_with fail
    refine (new7 w1).mono ?_
    rintro e w2 ⟨rfl, hT, hb⟩
    obtain ⟨g, hg⟩ : ∃ g, g = w1.heap.size + 1 := ⟨_, rfl⟩
    rw [← hg] at hT ⊢
    have hpn := fun wx => run_eql_ptr_nil (P := Try.prog) wx 24 56 ⟨g, 0, none⟩ Try.underlying24
    have HT := Aside0.mk hT
    have HB2 := Aside0.mk (below_step HB1.out hb)
    have hzv := zv26
    clear hT hb hg
    go_wp2_with fail
    obtain ⟨W, hW⟩ : ∃ W, W = w2.alloc (.cells (Array.replicate 256 (.int .i64 0)) 26) := ⟨_, rfl⟩
    obtain ⟨gl, hgl⟩ : ∃ gl, gl = w2.heap.size := ⟨_, rfl⟩
    have HAW : Aside0 (ArrV W gl (List.replicate 0 (-1) ++ List.replicate (256 - 0) 0)) := ⟨by
      rw [hW, hgl]; unfold ArrV
      rw [blk_new]
      congr 2⟩
    have HOW : Aside0 (On (· = gl) w2 W) := ⟨by rw [hW]; exact On.of_below (below_alloc (Below.refl _ _) _)⟩
    have HGL : Aside0 (w2.heap.size ≤ gl ∧ gl ≠ g ∧ gl ≠ w1.heap.size) := ⟨by
      obtain ⟨ms, m1, m2, m3, _⟩ := HT.out
      have a1 := blk_lt m1; have a2 := m3.lt
      exact ⟨by omega, by omega, by omega⟩⟩
    rw [← hW, ← hgl]
    obtain ⟨bm, hbm⟩ : ∃ bm, bm = w1.heap.size := ⟨_, rfl⟩
    have HBM : Aside0 (w.heap.size ≤ bm) := ⟨by rw [hbm]; exact HB1.out.size⟩
    rw [← hbm] at HGL HT
    clear hW hgl hzv hbm
    go_loopw [5] (fun v5 wr => ∃ i : Nat, v5 = .int .i64 (i : Int) ∧ Aside0 (i ≤ 256) ∧ Aside0 (ArrV wr gl (List.replicate i (-1) ++ List.replicate (256 - i) 0)) ∧ Aside0 (On (· = gl) w2 wr)) (fun v5 _ => 256 - (intOf v5).toNat)
    case atStart => exact ⟨0, rfl, ⟨Nat.zero_le _⟩, HAW, HOW⟩
    case round =>
      clear HAW HOW
      obtain ⟨i0, rfl, HI, HA0, HO⟩ := hrel
      by_cases hlt : (i0 : Int) < 256
      · have r1 := eq_true hlt
        have r2 : (i0 < 256) = True := eq_true (by omega)
        have r0 : ((0 : Int) ≤ (i0 : Int)) = True := eq_true (by omega)
        have HIL : Aside0 (i0 < 256) := ⟨by omega⟩
        have ck := HA0.out.cell i0 (by rw [rep_len i0 HI.out]; omega)
        have fz := HA0.out.frozen i0
        have hs := HA0.out.set i0 (-1)
        rw [rep_step i0 HIL.out] at hs
        have HS := Aside0.mk hs
        have HIW := Aside0.mk (show wrap64 ((i0 : Int) + 1) = ((i0 + 1 : Nat) : Int) by have := HIL.out; unfold wrap64; omega)
        clear hlt hs
        go_wp2_with fail
        go_roundw
        case rel => exact ⟨i0 + 1, by rw [HIW.out], ⟨HIL.out⟩, ⟨HS.out.1⟩, ⟨HO.out.trans HS.out.2⟩⟩
        case measure => rw [HIW.out]; simp only [intOf]; have := HIL.out; omega
      · have r1 := eq_false hlt
        have r2 : (i0 < 256) = False := eq_false (by omega)
        have hi : i0 = 256 := by have := HI.out; omega
        have HTW : Aside0 (Tbl wr bm g bm []) := ⟨HT.out.on HO.out (fun k hk => by rw [hk]; exact HGL.out.1)⟩
        rw [hi] at HA0
        have HBW := Aside0.mk (HB2.out.trans (HO.out.to_below HB2.out.size (fun k hk => by rw [hk]; have := HGL.out.1; have := HB2.out.size; omega)))
        clear hlt hi
        go_wp2_with fail
        go_loopw [6] (fun v6 wr => ∃ (i : Nat) (T : List S33) (vs : List Int), v6 = .int .i64 (i : Int) ∧ Aside0 (i ≤ n) ∧ Aside0 (Tbl wr bm g bm T) ∧ Aside0 (ArrV wr gl vs) ∧ Aside0 (Fit T vs) ∧ Aside0 (Below w.heap.size w wr) ∧ Aside0 (w2.heap.size ≤ wr.heap.size) ∧ Aside0 (T.length ≤ i)) (fun v6 _ => n - (intOf v6).toNat)
        case atStart => exact ⟨0, [], _, rfl, ⟨Nat.zero_le _⟩, HTW, HA0, ⟨fit_nil⟩, HBW, ⟨HO.out.size⟩, ⟨Nat.le_refl _⟩⟩
        case round =>
          clear HTW HA0 HBW HO HI
          obtain ⟨i, T, vs, rfl, HI, HTW, HAV, HF, HBW, HSZ, HTL⟩ := hrel
          by_cases hlt : (i : Int) < (n : Int)
          · have r1 := eq_true hlt
            have r2 : (i < n) = True := eq_true (by omega)
            have r0 : ((0 : Int) ≤ (i : Int)) = True := eq_true (by omega)
            have HIL : Aside0 (i < n) := ⟨by omega⟩
            obtain ⟨ad, e, hx0, hx1⟩ := at_T27 HC.out.1 (i : Int) (by omega) hlt
            cases e
            simp only [Int.toNat_natCast] at hx0 hx1
            obtain ⟨x, hx⟩ : ∃ x, x = rd_T27 l0 (i : Int) := ⟨_, rfl⟩
            rw [← hx] at hx0 hx1
            have HXR : Aside0 (0 ≤ x.f0 ∧ x.f0 ≤ 255 ∧ 0 ≤ x.f1 ∧ x.f1 ≤ 255) := ⟨by
              have hm : x ∈ l0 := by
                rw [hx]; unfold rd_T27
                rw [Int.toNat_natCast, List.getD_eq_getElem?_getD, List.getElem?_eq_getElem (by have := HN.out; omega)]
                exact List.getElem_mem _
              exact of_decide_eq_true (List.all_eq_true.1 HA.out x hm)⟩
            obtain ⟨cn, hcn⟩ : ∃ cn : Nat, (cn : Int) = x.f0 := ⟨x.f0.toNat, by have := HXR.out; omega⟩
            obtain ⟨m, hm⟩ : ∃ m, m = x.f1 := ⟨_, rfl⟩
            rw [← hcn, ← hm] at HXR
            rw [← hcn] at hx0
            rw [← hm] at hx1
            have HX0 : Aside0 (∀ wx, Below wr.heap.size wr wx → wx.cell? (ad.add (i * 2)) = some (.int .u8 (cn : Int))) := ⟨fun wx hb => cell_keep (below_step HBW.out hb) hx0⟩
            have HX1 : Aside0 (∀ wx, Below wr.heap.size wr wx → wx.cell? ⟨(ad.add (i * 2)).block, (ad.add (i * 2)).off + 1, none⟩ = some (.int .u8 m)) := ⟨fun wx hb => cell_keep (below_step HBW.out hb) hx1⟩
            have HWC : Aside0 (IntKind.i64.wrap (cn : Int) = (cn : Int)) := ⟨by rw [i64_w]; have := HXR.out; unfold wrap64; omega⟩
            have HWD : Aside0 (IntKind.i64.wrap m = m) := ⟨by rw [i64_w]; have := HXR.out; unfold wrap64; omega⟩
            have HIW := Aside0.mk (show wrap64 ((i : Int) + 1) = ((i + 1 : Nat) : Int) by have := HIL.out; have := HNL.out; unfold wrap64; omega)
            clear hlt hx hx0 hx1 hcn hm
            go_wp2_with fail
            refine wp_reg 14 rfl rfl (by kernel_rfl) (fun z => .slice (some ad) n c0 :: undef :: u2 :: .pointer (some ⟨g, 0, none⟩) :: .pointer (some ⟨gl, 0, none⟩) :: .int .i64 (i0 : Int) :: .int .i64 (i : Int) :: z 7 :: z 8 :: u9 :: u10 :: u11 :: undef :: undef :: undef :: .bool true :: .bool false :: .slice (some ad) n c0 :: .int .i64 (n : Int) :: .bool false :: .pointer (some ⟨g, 0, none⟩) :: .pointer (some ⟨g, 0, none⟩) :: .bool false :: .int .i64 (i0 : Int) :: .bool false :: u25 :: u26 :: u27 :: u28 :: .int .i64 (i : Int) :: .slice (some ad) n c0 :: .int .i64 (n : Int) :: .bool true :: u33 :: u34 :: z 35 :: z 36 :: z 37 :: z 38 :: z 39 :: z 40 :: z 41 :: z 42 :: z 43 :: z 44 :: z 45 :: z 46 :: u47 :: u48 :: u49 :: u50 :: u51 :: u52 :: u53 :: u54 :: u55 :: u56 :: u57 :: u58 :: u59 :: u60 :: u61 :: u62 :: u63 :: u64 :: u65 :: u66 :: u67 :: u68 :: u69 :: u70 :: u71 :: u72 :: u73 :: u74 :: u75 :: u76 :: u77 :: u78 :: u79 :: u80 :: u81 :: u82 :: u83 :: u84 :: u85 :: u86 :: u87 :: u88 :: u89 :: u90 :: u91 :: u92 :: u93 :: u94 :: u95 :: u96 :: u97 :: undef :: undef :: undef :: undef :: undef :: undef :: undef :: undef :: undef :: undef :: undef :: undef :: undef :: undef :: undef :: undef :: undef :: undef :: undef :: undef :: undef :: undef :: undef :: undef :: undef :: undef :: undef :: undef :: undef :: undef :: undef :: undef :: undef :: undef :: undef :: undef :: undef :: undef :: undef :: undef :: undef :: []) (fun (gg : Unit) => [(0, 35, .slice (some ad) n c0), (1, 36, .int .i64 (i : Int)), (2, 37, .pointer (some (ad.add (i * 2)))), (3, 38, .pointer (some (ad.add (i * 2)))), (4, 39, .int .u8 (cn : Int)), (5, 40, .int .i64 (cn : Int)), (6, 41, .slice (some ad) n c0), (7, 42, .int .i64 (i : Int)), (8, 43, .pointer (some (ad.add (i * 2)))), (9, 44, .pointer (some ⟨(ad.add (i * 2)).block, (ad.add (i * 2)).off + 1, none⟩)), (10, 45, .int .u8 m), (11, 46, .int .i64 m), (12, 7, .int .i64 (cn : Int)), (13, 8, .int .i64 m)]) (fun LL gg z wx => Aside0 (Below wr.heap.size wr wx)) () (zz [(7, u7), (8, u8), (35, u35), (36, u36), (37, u37), (38, u38), (39, u39), (40, u40), (41, u41), (42, u42), (43, u43), (44, u44), (45, u45), (46, u46)]) rfl rfl ⟨below_drew (Below.refl _ _)⟩ ?_ ?_
            · refine Steps.cons ?_ (Steps.cons ?_ (Steps.cons ?_ (Steps.cons ?_ (Steps.cons ?_ (Steps.cons ?_ (Steps.cons ?_ (Steps.cons ?_ (Steps.cons ?_ (Steps.cons ?_ (Steps.cons ?_ (Steps.cons ?_ (Steps.cons ?_ (Steps.cons ?_ (Steps.nil))))))))))))))
              · exact V0 0
              · exact V0 1
              · exact V2 2 0 1
              · exact V1 3 2
              · refine V1 4 3 (h := fun LL gg z wx hl hLk e3 K hK => ?_)
                obtain ⟨hb⟩ := hl
                have q_ := HX0.out wx hb.out
                dsimp only [FA]
                refine wantd (by rfl) ?_
                go_simp
                exact hK.out
              · refine V1 5 4 (h := fun LL gg z wx hl hLk e4 K hK => ?_)
                obtain ⟨hb⟩ := hl
                have t1 := HWC.out
                dsimp only [FA]
                refine wantd (by rfl) ?_
                go_simp
                exact hK.out
              · exact V0 6
              · exact V0 7
              · exact V2 8 6 7
              · exact V1 9 8
              · refine V1 10 9 (h := fun LL gg z wx hl hLk e9 K hK => ?_)
                obtain ⟨hb⟩ := hl
                have q_ := HX1.out wx hb.out
                dsimp only [FA]
                refine wantd (by rfl) ?_
                go_simp
                exact hK.out
              · refine V1 11 10 (h := fun LL gg z wx hl hLk e10 K hK => ?_)
                obtain ⟨hb⟩ := hl
                have t1 := HWD.out
                dsimp only [FA]
                refine wantd (by rfl) ?_
                go_simp
                exact hK.out
              · exact V1 12 5
              · exact V1 13 11
            · intro LL gg z wc hall hI hl
              obtain ⟨hb⟩ := hl
              have e12 := hI.at 12 rfl (hall 12 (by decide))
              have e13 := hI.at 13 rfl (hall 13 (by decide))
              dsimp only [FA] at ⊢
              rw [e12, e13]
              have HBC := hb
              clear hI hb e12 e13 hall
              have HTC := Aside0.mk (HTW.out.below HBC.out)
              have HAC := Aside0.mk (HAV.out.on (On.of_below (P := fun _ => False) HBC.out) id)
              have HBD := Aside0.mk (below_step HBW.out HBC.out)
              have HSC : Aside0 (w2.heap.size ≤ wc.heap.size) := ⟨Nat.le_trans HSZ.out HBC.out.size⟩
              clear HTW HAV HBW HSZ HBC
              have t0 : ((0 : Int) ≤ (cn : Int)) = True := eq_true (by omega)
              have t1 : ((cn : Int) < 256) = True := eq_true (by have := HXR.out; omega)
              have t2 : (cn < 256) = True := eq_true (by have := HXR.out; omega)
              obtain ⟨s, hs⟩ : ∃ s, s = seqT T (cn : Int) := ⟨_, rfl⟩
              have HS := Aside0.mk hs
              have ck := HAC.out.cell cn (by rw [HF.out.1]; have := HXR.out; omega)
              rw [HF.out.2.1 cn (by have := HXR.out; omega), ← hs] at ck
              clear hs
              have HCV : Aside0 ((Go.convert 29 9 (.slice (some ⟨wc.heap.size, 0, none⟩) 1 1)).run Try.prog (wc.alloc (.cells #[.int .u8 ((i : Int) % 256)] 5)) = .ok (.string (strOfNums [(i : Int) % 256])) (wc.alloc (.cells #[.int .u8 ((i : Int) % 256)] 5))) := ⟨Kd.C_string (P := Try.prog) Try.underlying29 Try.underlying5 Try.underlying9 (const_row wc .u8 5 (0, 0) [(i : Int) % 256] _ wc.heap.size rfl rfl (by simp))⟩
              have hcv := HCV.out
              have ck1 := HAC.out.frozen cn
              go_wp2_with fail
              obtain ⟨X, hX⟩ : ∃ X : S33, X = ⟨(cn : Int), m, 0, false, strOfNums [(i : Int) % 256], [], ⟨#[]⟩, false⟩ := ⟨_, rfl⟩
              have HX0' : Aside0 (X.f0 = (cn : Int)) := ⟨by rw [hX]⟩
              have HX1' : Aside0 (X.f1 = m) := ⟨by rw [hX]⟩
              have hcall := note8 bm g bm T X none 0 (wc.alloc (.cells #[.int .u8 ((i : Int) % 256)] 5)) (HTC.out.below (below_alloc (Below.refl _ _) _)) (by rw [hX]; exact Kd.C_nil k71 _) (by rw [hX]; exact Nat.le_refl _) (by rw [hX]; exact Nat.zero_le _) (by rw [HX0'.out]; exact wf64 (by omega) (by have := HXR.out; omega)) (by have := HTL.out; have := HIL.out; have := HNL.out; omega)
              rw [HX0'.out, HX1'.out, ← HS.out] at hcall
              rw [hX] at hcall
              refine hcall.mono ?_
              rw [← hX]
              clear hX hcall hcv HCV
              rintro e wn ⟨rfl, hT, ho⟩
              have HTN := Aside0.mk hT
              have HAN := Aside0.mk ((HAC.out.on (On.of_below (P := fun _ => False) (below_alloc (Below.refl _ _) (.cells #[.int .u8 ((i : Int) % 256)] 5))) id).on ho HGL.out.2.2)
              have HBN := Aside0.mk ((below_alloc HBD.out _).trans (ho.to_below (below_alloc HBD.out _).size (fun k hk => by rw [hk]; exact HBM.out)))
              have HSN : Aside0 (w2.heap.size ≤ wn.heap.size) := ⟨Nat.le_trans HSC.out (Nat.le_trans (below_alloc (Below.refl _ wc) (.cells #[.int .u8 ((i : Int) % 256)] 5)).size ho.size)⟩
              clear hT ho HTC HAC HBD HSC ck ck1
              by_cases hq : s < m
              · have t4 := eq_true hq
                have HNT : Aside0 (noteT T X = putT X T) := ⟨by unfold noteT; rw [HX0'.out, HX1'.out, ← HS.out, if_pos hq]⟩
                rw [HNT.out] at HTN
                have ck := HAN.out.cell cn (by rw [HF.out.1]; have := HXR.out; omega)
                have fz := HAN.out.frozen cn
                have hs2 := HAN.out.set cn m
                have HTD : Aside0 (Tbl (wn.setCell ⟨gl, cn, none⟩ (.int .i64 m)) bm g bm (putT X T)) := ⟨Tbl.far HTN.out HAN.out (by decide) HGL.out.2.1 HGL.out.2.2 hs2.2⟩
                have HAD := Aside0.mk hs2.1
                have HBE := Aside0.mk (HBN.out.trans (hs2.2.to_below HBN.out.size (fun k hk => by rw [hk]; have := HGL.out.1; have := HB2.out.size; omega)))
                have HSD : Aside0 (w2.heap.size ≤ (wn.setCell ⟨gl, cn, none⟩ (.int .i64 m)).heap.size) := ⟨Nat.le_trans HSN.out hs2.2.size⟩
                have HFD : Aside0 (Fit (putT X T) (vs.set cn m)) := ⟨fit_put HF.out HX0'.out HX1'.out (by have := HXR.out; omega) ⟨by have := HXR.out; omega, by have := HXR.out; omega⟩⟩
                have HSD2 : Aside0 (m = seqT (putT X T) (cn : Int)) := ⟨by rw [seq_put, if_pos HX0'.out, HX1'.out]⟩
                have HSEE := Aside0.mk (see_put (T := T) HX0'.out HX1'.out (show 0 ≤ m by have := HXR.out; omega))
                have u1 : (m < m) = False := eq_false (by omega)
                clear hq hs2 HTN HAN HBN HSN HF
                go_wp2_with fail
                refine (see9 bm g bm (putT X T) (cn : Int) m _ HTD.out (wf64 (by omega) (by have := HXR.out; omega))).mono ?_
                rintro e w9 ⟨v5, rfl, hR, hb⟩
                rw [HSEE.out] at hR ⊢
                obtain ⟨A5, c5, rfl⟩ := Kd.R_slice hR
                have HT9 := Aside0.mk (HTD.out.below hb)
                have HA9 := Aside0.mk (HAD.out.on (On.of_below (P := fun _ => False) hb) id)
                have HB9 := Aside0.mk (below_step HBE.out hb)
                have HS9 : Aside0 (w2.heap.size ≤ w9.heap.size) := ⟨Nat.le_trans HSD.out hb.size⟩
                have ck9 : ∀ o, (w9.alloc o).cell? ⟨gl, cn, none⟩ = some (.int .i64 m) := fun o => by
                  have h := (HA9.out.on (w1 := w9.alloc o) (On.of_below (P := fun _ => False) (below_alloc (Below.refl _ _) o)) id).cell cn (by rw [HFD.out.1]; have := HXR.out; omega)
                  rw [HFD.out.2.1 cn (by have := HXR.out; omega), ← HSD2.out] at h
                  exact h
                clear hR hb HTD HAD HBE HSD
                go_wp2_with fail
                go_roundw
                case rel => exact ⟨i + 1, (putT X T), (vs.set cn m), by rw [HIW.out], ⟨by have := HIL.out; omega⟩, ⟨HT9.out.below (below_alloc (Below.refl _ _) _)⟩, ⟨HA9.out.on (On.of_below (P := fun _ => False) (below_alloc (Below.refl _ _) _)) id⟩, HFD, ⟨below_alloc HB9.out _⟩, ⟨Nat.le_trans HS9.out (below_alloc (Below.refl _ _) _).size⟩, ⟨by have := putT_len X T; have := HTL.out; omega⟩⟩
                case measure => rw [HIW.out]; simp only [intOf]; have := HIL.out; omega
              · have t4 := eq_false hq
                have HNT : Aside0 (noteT T X = T) := ⟨by unfold noteT; rw [HX0'.out, HX1'.out, ← HS.out, if_neg hq]⟩
                rw [HNT.out] at HTN
                obtain ⟨y, hsee⟩ := see_old HS.out (show 0 ≤ m by have := HXR.out; omega) (by omega : m ≤ s)
                have HTD := HTN
                have HAD := HAN
                have HBE := HBN
                have HSD := HSN
                have HFD := HF
                have HSD2 := HS
                clear HTN HAN HBN HSN
                by_cases hms : m = s
                · have HSEE : Aside0 (seeV T (cn : Int) m = (y, 1)) := ⟨by rw [hsee, if_pos hms]⟩
                  have u1 : (m = s) = True := eq_true hms
                  have u2 : (m == s) = true := by simpa using hms
                  have u3 : (m < s) = False := eq_false (by omega)
                  clear hq hms hsee
                  go_wp2_with fail
                  refine (see9 bm g bm T (cn : Int) m _ HTD.out (wf64 (by omega) (by have := HXR.out; omega))).mono ?_
                  rintro e w9 ⟨v5, rfl, hR, hb⟩
                  rw [HSEE.out] at hR ⊢
                  obtain ⟨A5, c5, rfl⟩ := Kd.R_slice hR
                  have HT9 := Aside0.mk (HTD.out.below hb)
                  have HA9 := Aside0.mk (HAD.out.on (On.of_below (P := fun _ => False) hb) id)
                  have HB9 := Aside0.mk (below_step HBE.out hb)
                  have HS9 : Aside0 (w2.heap.size ≤ w9.heap.size) := ⟨Nat.le_trans HSD.out hb.size⟩
                  have ck9 : ∀ o, (w9.alloc o).cell? ⟨gl, cn, none⟩ = some (.int .i64 s) := fun o => by
                    have h := (HA9.out.on (w1 := w9.alloc o) (On.of_below (P := fun _ => False) (below_alloc (Below.refl _ _) o)) id).cell cn (by rw [HFD.out.1]; have := HXR.out; omega)
                    rw [HFD.out.2.1 cn (by have := HXR.out; omega), ← HSD2.out] at h
                    exact h
                  clear hR hb HTD HAD HBE HSD
                  go_wp2_with fail
                  go_roundw
                  case rel => exact ⟨i + 1, T, vs, by rw [HIW.out], ⟨by have := HIL.out; omega⟩, ⟨HT9.out.below (below_alloc (Below.refl _ _) _)⟩, ⟨HA9.out.on (On.of_below (P := fun _ => False) (below_alloc (Below.refl _ _) _)) id⟩, HFD, ⟨below_alloc HB9.out _⟩, ⟨Nat.le_trans HS9.out (below_alloc (Below.refl _ _) _).size⟩, ⟨by have := HTL.out; omega⟩⟩
                  case measure => rw [HIW.out]; simp only [intOf]; have := HIL.out; omega
                · have HSEE : Aside0 (seeV T (cn : Int) m = (z33, 2)) := ⟨by rw [hsee, if_neg hms]⟩
                  have u1 : (m = s) = False := eq_false hms
                  have u2 : (m == s) = false := by simpa using hms
                  have u3 : (m < s) = True := eq_true (by omega)
                  clear hq hms hsee
                  go_wp2_with fail
                  refine (see9 bm g bm T (cn : Int) m _ HTD.out (wf64 (by omega) (by have := HXR.out; omega))).mono ?_
                  rintro e w9 ⟨v5, rfl, hR, hb⟩
                  rw [HSEE.out] at hR ⊢
                  obtain ⟨A5, c5, rfl⟩ := Kd.R_slice hR
                  have HT9 := Aside0.mk (HTD.out.below hb)
                  have HA9 := Aside0.mk (HAD.out.on (On.of_below (P := fun _ => False) hb) id)
                  have HB9 := Aside0.mk (below_step HBE.out hb)
                  have HS9 : Aside0 (w2.heap.size ≤ w9.heap.size) := ⟨Nat.le_trans HSD.out hb.size⟩
                  have ck9 : ∀ o, (w9.alloc o).cell? ⟨gl, cn, none⟩ = some (.int .i64 s) := fun o => by
                    have h := (HA9.out.on (w1 := w9.alloc o) (On.of_below (P := fun _ => False) (below_alloc (Below.refl _ _) o)) id).cell cn (by rw [HFD.out.1]; have := HXR.out; omega)
                    rw [HFD.out.2.1 cn (by have := HXR.out; omega), ← HSD2.out] at h
                    exact h
                  clear hR hb HTD HAD HBE HSD
                  go_wp2_with fail
                  go_roundw
                  case rel => exact ⟨i + 1, T, vs, by rw [HIW.out], ⟨by have := HIL.out; omega⟩, ⟨HT9.out.below (below_alloc (Below.refl _ _) _)⟩, ⟨HA9.out.on (On.of_below (P := fun _ => False) (below_alloc (Below.refl _ _) _)) id⟩, HFD, ⟨below_alloc HB9.out _⟩, ⟨Nat.le_trans HS9.out (below_alloc (Below.refl _ _) _).size⟩, ⟨by have := HTL.out; omega⟩⟩
                  case measure => rw [HIW.out]; simp only [intOf]; have := HIL.out; omega
          · have r1 := eq_false hlt
            have r2 : (i < n) = False := eq_false (by omega)
            clear hlt
            go_wp2_with fail
            refine (all10 bm g bm T _ HTW.out (by have := HTL.out; have := HI.out; have := HNL.out; omega) (fun x hx => by have := HF.out.2.2.2 x hx; exact wf64 this.1 this.2.1)).mono ?_
            rintro e w9 ⟨v, rfl, hR, hb⟩
            obtain ⟨AL, cL, rfl⟩ := Kd.R_slice hR
            obtain ⟨nT, hnT⟩ : ∃ nT, nT = (T.map mkL).length := ⟨_, rfl⟩
            have HNT : Aside0 (nT = T.length) := ⟨by rw [hnT, List.length_map]⟩
            have HCL := Aside0.mk (Kd.R_reads' hR).2.2
            rw [← hnT] at HCL ⊢
            have HA9 := Aside0.mk (HAV.out.on (On.of_below (P := fun _ => False) hb) id)
            have HB9 := Aside0.mk (below_step HBW.out hb)
            have HTL2 : Aside0 (nT ≤ 200) := ⟨by have := HTL.out; have := HI.out; have := HNL.out; have := HNT.out; omega⟩
            clear hR hb hnT HTW HAV HBW HSZ HTL
            go_wp2_with fail
            go_loopw [13, 14] (fun v13 v14 wr => ∃ (mn c : Nat), v13 = .int .i64 (mn : Int) ∧ v14 = .int .i64 (c : Int) ∧ Aside0 (c ≤ 256) ∧ Aside0 (Mark T mn c) ∧ Aside0 (Below w9.heap.size w9 wr)) (fun _ v14 _ => 256 - (intOf v14).toNat)
            case atStart => exact ⟨0, 0, rfl, rfl, ⟨Nat.zero_le _⟩, ⟨⟨Nat.zero_le _, fun j _ h => absurd h (by omega), fun j hj _ => by have := HF.out.2.2.2 T[j] (List.getElem_mem hj); omega⟩⟩, ⟨Below.refl _ _⟩⟩
            case round =>
              obtain ⟨mn, c, rfl, rfl, HCC, HM, HBR⟩ := hrel
              by_cases hlt : (c : Int) < 256
              · have r1 := eq_true hlt
                have r2 : (c < 256) = True := eq_true (by omega)
                have r0 : ((0 : Int) ≤ (c : Int)) = True := eq_true (by omega)
                have HCL2 : Aside0 (c < 256) := ⟨by omega⟩
                obtain ⟨s, hs⟩ : ∃ s, s = seqT T (c : Int) := ⟨_, rfl⟩
                have HAR := Aside0.mk (HA9.out.on (On.of_below (P := fun _ => False) HBR.out) id)
                have ck := HAR.out.cell c (by rw [HF.out.1]; omega)
                rw [HF.out.2.1 c (by omega), ← hs] at ck
                have HIW := Aside0.mk (show wrap64 ((c : Int) + 1) = ((c + 1 : Nat) : Int) by have := HCL2.out; unfold wrap64; omega)
                by_cases hneg : s < 0
                · have u1 := eq_true hneg
                  have HM2 := Aside0.mk (mark_skip HM.out (fun x hx => (HF.out.2.2.2 x hx).2.2.1) (by rw [← hs]; exact hneg))
                  clear hlt hs hneg
                  go_wp2_with fail
                  go_roundw
                  case rel => exact ⟨mn, c + 1, rfl, by rw [HIW.out], ⟨HCL2.out⟩, HM2, HBR⟩
                  case measure => rw [HIW.out]; simp only [intOf]; have := HCL2.out; omega
                · have u1 := eq_false hneg
                  obtain ⟨hm, m1, m2, m3⟩ := mark_at HM.out HF.out.2.2.1 (by rw [← hs]; exact hneg)
                  rw [← hs] at m2
                  have HM2 := Aside0.mk m3
                  have HMN : Aside0 (mn < nT) := ⟨by have := HNT.out; omega⟩
                  have HMW := Aside0.mk (show wrap64 ((mn : Int) + 1) = ((mn + 1 : Nat) : Int) by have := HMN.out; have := HTL2.out; unfold wrap64; omega)
                  have hCR := Kd.C_below HCL.out HBR.out
                  obtain ⟨aL, A6, c6, e, y0, y1, _⟩ := at_T39 hCR (mn : Int) (by omega) (by have := HMN.out; omega)
                  cases e
                  rw [rdL_at T mn hm] at y0 y1
                  simp only [Int.toNat_natCast, mkL, m1, m2] at y0 y1
                  have HY0 := Aside0.mk y0
                  have HY1 := Aside0.mk y1
                  have HCK := Aside0.mk ck
                  have HLT : Aside0 (((0 : Int) ≤ (mn : Int)) = True ∧ ((mn : Int) < (nT : Int)) = True ∧ (mn < nT) = True ∧ ((nT : Int) ≤ (mn : Int)) = False) := ⟨⟨eq_true (by omega), eq_true (by have := HMN.out; omega), eq_true HMN.out, eq_false (by have := HMN.out; omega)⟩⟩
                  have HCI : Aside0 (((0 : Int) ≤ (c : Int)) = True ∧ ((c : Int) < 256) = True ∧ (c < 256) = True) := ⟨⟨r0, r1, r2⟩⟩
                  clear hlt hs hneg hm m1 m2 m3 hCR y0 y1 HM
                  go_wp2_with fail
                  refine wp_reg 25 rfl rfl (by kernel_rfl) (fun z => .slice A0 n c0 :: undef :: u2 :: .pointer (some ⟨g, 0, none⟩) :: .pointer (some ⟨gl, 0, none⟩) :: .int .i64 (i0 : Int) :: .int .i64 (i : Int) :: u7 :: u8 :: u9 :: u10 :: u11 :: .slice (some aL) nT cL :: .int .i64 (mn : Int) :: .int .i64 (c : Int) :: .bool true :: .bool false :: .slice A0 n c0 :: .int .i64 (n : Int) :: .bool false :: .pointer (some ⟨g, 0, none⟩) :: .pointer (some ⟨g, 0, none⟩) :: .bool false :: .int .i64 (i0 : Int) :: .bool false :: u25 :: u26 :: u27 :: u28 :: .int .i64 (i : Int) :: .slice A0 n c0 :: .int .i64 (n : Int) :: .bool false :: u33 :: u34 :: u35 :: u36 :: u37 :: u38 :: u39 :: u40 :: u41 :: u42 :: u43 :: u44 :: u45 :: u46 :: u47 :: u48 :: u49 :: u50 :: u51 :: u52 :: u53 :: u54 :: u55 :: u56 :: u57 :: u58 :: u59 :: u60 :: u61 :: u62 :: u63 :: u64 :: u65 :: u66 :: u67 :: u68 :: u69 :: u70 :: u71 :: u72 :: u73 :: u74 :: u75 :: u76 :: u77 :: u78 :: u79 :: u80 :: u81 :: u82 :: u83 :: u84 :: u85 :: u86 :: u87 :: u88 :: u89 :: u90 :: u91 :: u92 :: u93 :: u94 :: u95 :: u96 :: u97 :: .pointer (some ⟨g, 0, none⟩) :: .slice (some aL) nT cL :: .int .i64 (c : Int) :: .bool true :: u102 :: u103 :: .int .i64 (c : Int) :: .pointer (some ⟨gl, c, none⟩) :: .int .i64 s :: .bool false :: z 108 :: z 109 :: z 110 :: z 111 :: z 112 :: z 113 :: z 114 :: z 115 :: z 116 :: z 117 :: z 118 :: z 119 :: z 120 :: z 121 :: z 122 :: z 123 :: z 124 :: z 125 :: z 126 :: z 127 :: z 128 :: z 129 :: z 130 :: z 131 :: z 132 :: u133 :: u134 :: undef :: undef :: undef :: undef :: []) (fun (gg : Unit) => [(0, 108, .int .i64 (mn : Int)), (1, 109, .slice (some aL) nT cL), (2, 110, .int .i64 (nT : Int)), (3, 111, .bool false), (4, 112, .bool false), (5, 113, .slice (some aL) nT cL), (6, 114, .int .i64 (mn : Int)), (7, 115, .pointer (some (aL.add (mn * 9)))), (8, 116, .pointer (some ⟨(aL.add (mn * 9)).block, (aL.add (mn * 9)).off + 1, none⟩)), (9, 117, .pointer (some ⟨(aL.add (mn * 9)).block, (aL.add (mn * 9)).off + 1, none⟩)), (10, 118, .int .i64 (c : Int)), (11, 119, .int .i64 (c : Int)), (12, 120, .bool false), (13, 121, .bool false), (14, 122, .bool false), (15, 123, .slice (some aL) nT cL), (16, 124, .int .i64 (mn : Int)), (17, 125, .pointer (some (aL.add (mn * 9)))), (18, 126, .pointer (some (aL.add (mn * 9)))), (19, 127, .int .i64 s), (20, 128, .int .i64 (c : Int)), (21, 129, .pointer (some ⟨gl, c, none⟩)), (22, 130, .int .i64 s), (23, 131, .bool false), (24, 132, .bool false)]) (fun LL gg z wx => Aside0 (Below wr.heap.size wr wx)) () (zz [(108, u108), (109, u109), (110, u110), (111, u111), (112, u112), (113, u113), (114, u114), (115, u115), (116, u116), (117, u117), (118, u118), (119, u119), (120, u120), (121, u121), (122, u122), (123, u123), (124, u124), (125, u125), (126, u126), (127, u127), (128, u128), (129, u129), (130, u130), (131, u131), (132, u132)]) rfl rfl ⟨below_drew (Below.refl _ _)⟩ ?_ ?_
                  · refine Steps.cons ?_ (Steps.cons ?_ (Steps.cons ?_ (Steps.cons ?_ (Steps.cons ?_ (Steps.cons ?_ (Steps.cons ?_ (Steps.cons ?_ (Steps.cons ?_ (Steps.cons ?_ (Steps.cons ?_ (Steps.cons ?_ (Steps.cons ?_ (Steps.cons ?_ (Steps.cons ?_ (Steps.cons ?_ (Steps.cons ?_ (Steps.cons ?_ (Steps.cons ?_ (Steps.cons ?_ (Steps.cons ?_ (Steps.cons ?_ (Steps.cons ?_ (Steps.cons ?_ (Steps.cons ?_ (Steps.nil)))))))))))))))))))))))))
                    · exact V0 0
                    · exact V0 1
                    · exact V1 2 1
                    · refine V2 3 0 2 (h := fun LL gg z wx hl hLk e0 e2 K hK => ?_)
                      obtain ⟨hb⟩ := hl
                      have t1 := HLT.out.2.2.2
                      dsimp only [FA]
                      refine wantd (by rfl) ?_
                      go_simp
                      exact hK.out
                    · exact V1 4 3
                    · exact V1 5 4
                    · exact V1 6 4
                    · refine V3 7 4 5 6 (h := fun LL gg z wx hl hLk eg e5 e6 K hK => ?_)
                      obtain ⟨hb⟩ := hl
                      have t1 := HLT.out.1
                      have t2 := HLT.out.2.1
                      have t3 := HLT.out.2.2.1
                      dsimp only [FA]
                      refine wantd (by rw [eg]; rfl) ?_
                      go_simp
                      exact hK.out
                    · exact V2 8 4 7
                    · exact V2 9 4 8
                    · refine V2 10 4 9 (h := fun LL gg z wx hl hLk eg e9 K hK => ?_)
                      obtain ⟨hb⟩ := hl
                      have q_ := cell_keep hb.out HY1.out
                      dsimp only [FA]
                      refine wantd (by rw [eg]; rfl) ?_
                      go_simp
                      exact hK.out
                    · exact V1 11 4
                    · exact V3 12 4 10 11
                    · exact V2 13 4 12
                    · exact V1 14 13
                    · exact V1 15 14
                    · exact V1 16 14
                    · refine V3 17 14 15 16 (h := fun LL gg z wx hl hLk eg e15 e16 K hK => ?_)
                      obtain ⟨hb⟩ := hl
                      have t1 := HLT.out.1
                      have t2 := HLT.out.2.1
                      have t3 := HLT.out.2.2.1
                      dsimp only [FA]
                      refine wantd (by rw [eg]; rfl) ?_
                      go_simp
                      exact hK.out
                    · exact V2 18 14 17
                    · refine V2 19 14 18 (h := fun LL gg z wx hl hLk eg e18 K hK => ?_)
                      obtain ⟨hb⟩ := hl
                      have q_ := cell_keep hb.out HY0.out
                      dsimp only [FA]
                      refine wantd (by rw [eg]; rfl) ?_
                      go_simp
                      exact hK.out
                    · exact V1 20 14
                    · refine V2 21 14 20 (h := fun LL gg z wx hl hLk eg e20 K hK => ?_)
                      obtain ⟨hb⟩ := hl
                      have t1 := HCI.out.1
                      have t2 := HCI.out.2.1
                      have t3 := HCI.out.2.2
                      dsimp only [FA]
                      refine wantd (by rw [eg]; rfl) ?_
                      go_simp
                      exact hK.out
                    · refine V2 22 14 21 (h := fun LL gg z wx hl hLk eg e21 K hK => ?_)
                      obtain ⟨hb⟩ := hl
                      have q_ := cell_keep hb.out HCK.out
                      dsimp only [FA]
                      refine wantd (by rw [eg]; rfl) ?_
                      go_simp
                      exact hK.out
                    · exact V3 23 14 19 22
                    · exact V2 24 14 23
                  · intro LL gg z wc hall hI hl
                    obtain ⟨hb⟩ := hl
                    have e24 := hI.at 24 rfl (hall 24 (by decide))
                    dsimp only [FA] at ⊢
                    rw [e24]
                    have HBC := hb
                    clear hI hb e24 hall
                    go_wp2_with fail
                    go_roundw
                    case rel => exact ⟨mn + 1, c + 1, by rw [HMW.out], by rw [HIW.out], ⟨HCL2.out⟩, HM2, ⟨below_step HBR.out HBC.out⟩⟩
                    case measure => rw [HIW.out]; simp only [intOf]; have := HCL2.out; omega
              · have r1 := eq_false hlt
                have r2 : (c < 256) = False := eq_false (by omega)
                have hc : c = 256 := by have := HCC.out; omega
                rw [hc] at HM
                have hmn : mn = nT := by rw [HNT.out]; exact mark_end HM.out (fun x hx => (HF.out.2.2.2 x hx).2.1)
                have u1 : ((mn : Int) = (nT : Int)) = True := eq_true (by omega)
                have u2 : ((mn : Int) == (nT : Int)) = true := by rw [hmn]; exact beq_self_eq_true _
                have u3 : (mn = nT) = True := eq_true hmn
                have u4 : (mn == nT) = true := by rw [hmn]; exact beq_self_eq_true _
                clear hlt hc hmn
                go_wp2_with fail
                go_ret
                exact ⟨rfl, below_step HB9.out HBR.out⟩


end Go.Proofs.Ytdeepnpbibhfiaa.POnceKeeps

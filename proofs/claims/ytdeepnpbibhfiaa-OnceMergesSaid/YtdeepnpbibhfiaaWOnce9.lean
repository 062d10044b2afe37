/- The table's methods: Set; the reference's rows as the printed walks take them. No condition. -/
import Derived.Test.YtdeepnpbibhfiaaWOnce8
namespace Go.Proofs.YtdeepnpbibhfiaaW.PrintOnce
open Go Go.RowKit Go.Maps Go.Proofs.YtdeepnpbibhfiaaW.PrintWords Go.Proofs.YtdeepnpbibhfiaaW.PrintLast Go.Proofs.YtdeepnpbibhfiaaW.PrintMore Go.Proofs.YtdeepnpbibhfiaaW.PrintReg Go.Proofs.YtdeepnpbibhfiaaW.PrintTree
set_option linter.unusedVariables false
set_option linter.unusedSimpArgs false
theorem fold_len : ∀ (xs T : List S33), (xs.foldl noteT T).length ≤ T.length + xs.length
  | [], T => Nat.le_refl _
  | x :: r, T => by
    rw [List.foldl_cons, List.length_cons]
    have h1 := fold_len r (noteT T x)
    have h2 := noteT_len x T
    omega
theorem fold_ris : ∀ (xs : List S33) {T : List S33}, RisT T → RisT (xs.foldl noteT T)
  | [], _, h => h
  | x :: r, _, h => fold_ris r (noteT_ris h)
theorem note_mem {T : List S33} {x y : S33} (h : y ∈ noteT T x) : y = x ∨ y ∈ T := by
  unfold noteT at h
  split at h
  · unfold putT at h
    rcases insT_mem.1 h with h | h
    · exact .inl h
    · exact .inr (List.mem_filter.1 h).1
  · exact .inr h
theorem fold_mem : ∀ (xs : List S33) {T : List S33} {y : S33}, y ∈ xs.foldl noteT T → y ∈ xs ∨ y ∈ T
  | [], _, _, h => .inr h
  | x :: r, T, y, h => by
    rcases fold_mem r (T := noteT T x) h with h | h
    · exact .inl (by simp [h])
    · rcases note_mem h with rfl | h
      · exact .inl (by simp)
      · exact .inr h
/-- A number below nought is not noted. -/
theorem note_nonneg {T : List S33} {x : S33} (h : ∀ y ∈ T, 0 ≤ y.f1) : ∀ y ∈ noteT T x, 0 ≤ y.f1 := by
  intro y hy
  unfold noteT at hy
  split at hy
  case isTrue hlt =>
    unfold putT at hy
    rcases insT_mem.1 hy with rfl | hy
    · have : -1 ≤ seqT T y.f0 := by
        unfold seqT
        cases hl : lkT T y.f0 with
        | none => exact Int.le_refl _
        | some z => have := h z (lkT_mem hl).1; simp only []; omega
      omega
    · exact h y (List.mem_filter.1 hy).1
  case isFalse => exact h y hy
theorem fold_nonneg : ∀ (xs : List S33) {T : List S33}, (∀ y ∈ T, 0 ≤ y.f1) → ∀ y ∈ xs.foldl noteT T, 0 ≤ y.f1
  | [], _, h => h
  | x :: r, T, h => fold_nonneg r (note_nonneg h)
theorem take_fold {xs : List S33} {i : Nat} (hi : i < xs.length) (T : List S33) : (xs.take (i + 1)).foldl noteT T = noteT ((xs.take i).foldl noteT T) xs[i] := by
  rw [List.take_add_one, List.getElem?_eq_getElem hi, List.foldl_append]; rfl
theorem heap_k71 : Kd.Heap k71 := Kd.heap_iso _ (Kd.heap_pair Kd.heap_string Kd.heap_string)
theorem heap_k33 : Kd.Heap k33 := Kd.heap_iso _ (Kd.heap_pair (Kd.heap_int _) (Kd.heap_pair (Kd.heap_int _) (Kd.heap_pair (Kd.heap_int _) (Kd.heap_pair Kd.heap_bool (Kd.heap_pair Kd.heap_string (Kd.heap_pair (Kd.heap_slice 71 heap_k71) (Kd.heap_pair Kd.heap_string Kd.heap_bool)))))))
theorem heap_k47 : Kd.Heap k47 := Kd.heap_iso _ (Kd.heap_pair (Kd.heap_int _) heap_k33)
/-- The reference's row, read. -/
theorem kW_V {w0 wr : World} {base base' : Nat} {ok : Nat → Prop} {v : Value} {xs : List S33} (h : (kW w0).R 47 wr base ok v xs) (hb : Below w0.heap.size w0 wr) : Kd.V k47 47 wr base' (fun k => k < w0.heap.size ∨ some k = v.ownBlock) v (xs.map mkM) := by
  have h2 := Kd.R_tight rfl h
  obtain ⟨A, c, rfl⟩ := Kd.R_slice h2
  have h3 := Kd.R_F h2
  refine ⟨A, c, by rw [List.length_map], by rw [List.length_map]; exact (Kd.R_reads' h2).2.1, fun W' hW => ?_⟩
  obtain ⟨e1, e2, e3⟩ := h3 W' (fun k hk hlt => hW k (.inr hk) hlt)
  have hk0 : ∀ k, k < w0.heap.size → W'.heap[k]? = w0.heap[k]? := fun k hk => (hW k (.inl hk) (Nat.lt_of_lt_of_le hk hb.size)).trans (hb.block k hk)
  refine ⟨rfl, by rw [List.length_map]; exact e2, fun hp => ?_⟩
  obtain ⟨ad, ea, hx⟩ := e3 (by rw [List.length_map] at hp; exact hp)
  refine ⟨ad, ea, fun j p hj => ?_⟩
  rw [List.getElem?_map] at hj
  cases hj2 : xs[j]? with
  | none => rw [hj2] at hj; cases hj
  | some x =>
    rw [hj2] at hj
    obtain rfl := Option.some.inj hj
    obtain ⟨cs, q1, q2, q3⟩ := hx j x hj2
    exact ⟨cs, q1, heap_k47.K hk0 q2, q3⟩
set_option maxHeartbeats 4000000 in
set_option maxRecDepth 100000 in
theorem set13 (g : Nat) (mv : Value) (l : List S33) (A : Option Addr) (n c : Nat) (P : Nat → Prop) (w : World) (hg : w.heap[g]? = some (.cells #[mv] 56 (0, 0))) (hV : Kd.V k39 39 w 0 P (.slice A n c) (l.map mkL)) (hP : ∀ k, P k → k ≠ g)
    (hwf : ∀ x ∈ l, (Lit.int .i64 x.f0).wf = true ∧ x.f5.length ≤ 1000000) (hl : l.length ≤ 1000000) :
    Calls Try.prog 13 #[.pointer (some ⟨g, 0, none⟩), .slice A n c] w fun e w' => e = .returned (.tuple #[]) ∧ Tbl w' 0 g w.heap.size (l.foldl noteT []) ∧ On (· = g) w w' := by
  have hmm := @run_makeMap Try.prog
  have hpn := fun wx => run_eql_ptr_nil (P := Try.prog) wx 24 56 ⟨g, 0, none⟩ Try.underlying24
  have c0 : (w.alloc (.map #[] 0)).cell? ⟨g, 0, none⟩ = some mv := (blk_cell (blk_below hg (below_alloc (Below.refl _ _) _)) 0).trans rfl
  have f0 : (w.alloc (.map #[] 0)).frozen? ⟨g, 0, none⟩ = false := blk_frozen (blk_below hg (below_alloc (Below.refl _ _) _)) 0
  have hgl := blk_lt hg
  have hn := (Kd.V_at hV).1
  rw [List.length_map] at hn
  have HN := Aside0.mk hn
  have HWF := Aside0.mk hwf
  have HLL := Aside0.mk hl
  obtain ⟨W1, hW1⟩ : ∃ W1, W1 = (w.alloc (.map #[] 0)).setCell ⟨g, 0, none⟩ (.map (some w.heap.size)) := ⟨_, rfl⟩
  obtain ⟨bm, hbm⟩ : ∃ bm, bm = w.heap.size := ⟨_, rfl⟩
  have HV : Aside0 (Kd.V k39 39 W1 0 (fun k => P k ∧ k < w.heap.size) (.slice A n c) (l.map mkL)) := ⟨by
    rw [hW1]
    exact Kd.V_far (Kd.V_alloc (Kd.V_bound hV) _) (fun k hk => hP k hk.1) _⟩
  have HO : Aside0 (On (· = g) w W1) := ⟨by
    rw [hW1]
    exact On.set (P := (· = g)) (On.of_below (below_alloc (Below.refl _ _) _)) (p := ⟨g, 0, none⟩) (show g = g from rfl) _⟩
  have HT : Aside0 (Tbl W1 0 g bm []) := ⟨by
    rw [hW1, hbm]
    exact ⟨[], blk_set (blk_below hg (below_alloc (Below.refl _ _) _)) 0 _, ⟨by omega, Nat.zero_le _, Nat.zero_le _⟩, own_below (made_own w) (Below.heap_setCell _ _ _ _ (by show w.heap.size ≠ g; omega)), List.Pairwise.nil, trivial⟩⟩
  rw [← hbm]
  have HPN := Aside0.mk (And.intro hP (And.intro hgl hbm))
  clear hV hP hwf hl hg hgl hn
  go_enter Try.func13, Try.ntmps13
  go_wp2_with fail
  rw [← hbm] at hW1
  try rw [← hbm]
  rw [← hW1]
  clear hW1 hbm c0 f0 hpn hmm
  go_loopw [14] (fun v14 wr => ∃ i : Nat, v14 = .int .i64 (i : Int) ∧ Aside0 (i ≤ n) ∧ Aside0 (Tbl wr 0 g bm ((l.take i).foldl noteT [])) ∧ Aside0 (Kd.V k39 39 wr 0 (fun k => P k ∧ k < w.heap.size) (.slice A n c) (l.map mkL)) ∧ Aside0 (On (· = g) w wr)) (fun v14 _ => n - (intOf v14).toNat)
  case atStart => exact ⟨0, rfl, ⟨Nat.zero_le _⟩, HT, HV, HO⟩
  case round =>
    clear HT HV HO
    obtain ⟨i, rfl, HI, HT, HV, HO⟩ := hrel
    by_cases hlt : (i : Int) < (n : Int)
    · have r1 := eq_true hlt
      have r2 : (i < n) = True := eq_true (by omega)
      have r0 : ((0 : Int) ≤ (i : Int)) = True := eq_true (by omega)
      have HIL : Aside0 (i < n) := ⟨by omega⟩
      have hiT : i < l.length := by have := HN.out; omega
      have hC := (Kd.V_reads' HV.out).2.2
      obtain ⟨ad, A6, c6, e, x0, x1, x2, x3, x4, x5, x6, x7, x8, hl6, hi6⟩ := at_T39 hC (i : Int) (by omega) (by rw [List.length_map]; omega)
      cases e
      have e1 : rd_T39 (l.map mkL) (i : Int) = mkL l[i] := by unfold rd_T39; rw [Int.toNat_natCast, List.getD_eq_getElem?_getD, List.getElem?_map, List.getElem?_eq_getElem hiT]; rfl
      have HTK : Aside0 ((l.take (i + 1)).foldl noteT [] = noteT ((l.take i).foldl noteT []) l[i]) := ⟨take_fold hiT []⟩
      have hxm : l[i] ∈ l := List.getElem_mem hiT
      obtain ⟨x, hx⟩ : ∃ x, x = l[i] := ⟨_, rfl⟩
      rw [← hx] at e1 HTK hxm
      rw [e1] at x0 x1 x2 x3 x4 x5 x6 x7 x8 hl6 hi6
      simp only [Int.toNat_natCast, mkL] at x0 x1 x2 x3 x4 x5 x6 x7 x8 hl6 hi6
      obtain ⟨W9, hW9⟩ : ∃ W9, W9 = wr.alloc (.cells #[.int .i64 x.f1, .int .i64 x.f0, .int .i64 x.f1, .int .i64 x.f2, .bool x.f3, .string x.f4, .slice A6 x.f5.length c6, .string x.f6, .bool x.f7] 39) := ⟨_, rfl⟩
      have HB9 : Aside0 (Below wr.heap.size wr W9) := ⟨by rw [hW9]; exact below_alloc (Below.refl _ _) _⟩
      have HX := Aside0.mk (And.intro hi6 hl6)
      have HXW := Aside0.mk (HWF.out x hxm)
      have HIW := Aside0.mk (show wrap64 ((i : Int) + 1) = ((i + 1 : Nat) : Int) by have := HLL.out; have := HN.out; unfold wrap64; omega)
      have HLE : Aside0 (((l.take i).foldl noteT []).length ≤ 1000000) := ⟨by have h1 := fold_len (l.take i) []; have := HLL.out; rw [List.length_take, List.length_nil] at h1; omega⟩
      clear hlt hiT hC e1 hxm hx hi6 hl6
      go_wp2_with fail
      rw [← hW9]
      clear hW9
      refine (note8 0 g bm _ x A6 c6 W9 (HT.out.below HB9.out) (Kd.C_below HX.out.1 HB9.out) HX.out.2 HXW.out.2 HXW.out.1 HLE.out).mono ?_
      rintro e w2 ⟨rfl, hT2, ho2⟩
      have HT2 : Aside0 (Tbl w2 0 g bm ((l.take (i + 1)).foldl noteT [])) := ⟨by rw [HTK.out]; exact hT2⟩
      have HV2 : Aside0 (Kd.V k39 39 w2 0 (fun k => P k ∧ k < w.heap.size) (.slice (some ad) n c) (l.map mkL)) := ⟨Kd.V_step (Kd.V_below HV.out HB9.out) (fun k hk hlt => ho2.block k hlt (fun e => by have := HPN.out.2.2; have := hk.2; omega))⟩
      have HO2 : Aside0 (On (· = g) w w2) := ⟨(HO.out.trans (On.of_below HB9.out)).then ho2 (fun k hk => .inr (by rw [hk, HPN.out.2.2]; exact Nat.le_refl _))⟩
      clear hT2 ho2 HT HV HO
      go_wp2_with fail
      go_roundw
      case rel => exact ⟨i + 1, by rw [HIW.out], ⟨HIL.out⟩, HT2, HV2, HO2⟩
      case measure => rw [HIW.out]; simp only [intOf]; have := HIL.out; omega
    · have r1 := eq_false hlt
      have r2 : (i < n) = False := eq_false (by omega)
      have hi : i = n := by have := HI.out; omega
      clear hlt
      go_wp2_with fail
      refine bodyPost_end (results_none rfl _ _ _) rfl ?_
      have hv := HT.out
      rw [List.take_of_length_le (by have := HN.out; omega)] at hv
      exact ⟨rfl, hv, HO.out⟩
end Go.Proofs.YtdeepnpbibhfiaaW.PrintOnce

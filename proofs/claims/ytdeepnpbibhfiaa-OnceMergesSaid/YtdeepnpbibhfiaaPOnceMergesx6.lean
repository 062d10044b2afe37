-- printed by a program of this session (wip/tools), a turned form of the kit's print
import Derived.Test.YtdeepnpbibhfiaaPOnceMergesx0
import Derived.Test.YtdeepnpbibhfiaaPOnceMergesx2
import Derived.Test.YtdeepnpbibhfiaaPOnceMergesx4
import Derived.Test.YtdeepnpbibhfiaaPOnceMergesx5
namespace Go.Proofs.Ytdeepnpbibhfiaa.POnceMerges
open Go.RowKit Go.Proofs.YtdeepnpbibhfiaaW.PrintWords Go.Proofs.YtdeepnpbibhfiaaW.PrintLast Go.Proofs.YtdeepnpbibhfiaaW.PrintMore
attribute [local go_sem] max2_int min2_int max_two min_two max_three min_three max_four min_four max2_str min2_str str_geq str_leq str_gtr   -- for this text's walks alone
set_option linter.unusedVariables false
set_option linter.unusedSimpArgs false

/-! ### gazetteerlaw12_OnceMerges: function 5 -/
open Go.Proofs.YtdeepnpbibhfiaaW.PrintReg Go.Proofs.YtdeepnpbibhfiaaW.PrintOnce Go.Proofs.YtdeepnpbibhfiaaW.PrintTree
def SmallP (l : List S33) : Prop := l.length ≤ 101 ∧ ∀ x ∈ l, x.f5.length ≤ 1000000
/-- What the printed parts are at a row of last answers. -/
def PartsP (k : Nat) (X : List S33) : Prop := gazetteerlaw12_Made.f k (X.map mkM) = some (X.map mkL) ∧ gazetteerlaw12_Back.f k (X.map mkL) = some (X.map mkM) ∧ gazetteerlaw12_Same.f k (X.map mkM) (X.map mkM) = some true
def gazetteerlaw12_OnceMerges.ok (l0 l1 : List S33) : Prop := (∀ x ∈ l0, (Lit.int .i64 x.f0).wf = true) ∧ (∀ x ∈ l1, (Lit.int .i64 x.f0).wf = true) ∧ ∃ k sa sb, gazetteerlaw12_Small.f k l0 = some sa ∧ (sa = true → gazetteerlaw12_Small.f k l1 = some sb) ∧ (sa = true → sb = true → SmallP l0 ∧ SmallP l1 ∧ PartsP k (l0.foldl noteT []) ∧ PartsP k (l1.foldl noteT []) ∧ PartsP k ((l0.foldl noteT [] ++ l1.foldl noteT []).foldl noteT []))
open Classical in
noncomputable def gazetteerlaw12_OnceMerges.f (l0 l1 : List S33) : Option Bool := if gazetteerlaw12_OnceMerges.ok l0 l1 then some true else none
theorem mtv_step {w w1 w0 : World} {base gm : Nat} {v : Value} {T : List S33} (h : Mtv w w0 base gm v T) (hm : ∀ k, k = gm ∨ some k = v.ownBlock → k < w.heap.size → w1.heap[k]? = w.heap[k]?) : Mtv w1 w0 base gm v T :=
  ⟨(hm gm (.inl rfl) (blk_lt h.1)).trans h.1, h.2.1, Kd.R_step h.2.2 (fun k hk hlt => hm k (.inr hk) hlt)⟩
theorem mtv_ty {w w0 : World} {base gm g t : Nat} {v : Value} {T : List S33} {cs : Array Value} (h : Mtv w w0 base gm v T) (hg : w.heap[g]? = some (.cells cs t (0, 0))) (ht : t ≠ 47) {k : Nat} (hk : some k = v.ownBlock) : base ≤ k ∧ k < w.heap.size ∧ k ≠ g := by
  obtain ⟨inn, ho⟩ := Kd.R_own h.2.2
  obtain ⟨cells, hc⟩ := own_typed ho k hk.symm
  refine ⟨own_base ho k hk.symm, Go.Proofs.YtdeepnpbibhfiaaW.PrintWords.own_lt ho k hk.symm, ?_⟩
  rintro rfl
  rw [hg] at hc
  injection hc with hc
  injection hc with _ h2 _
  exact ht h2
theorem mtv_lt {w w0 : World} {base gm : Nat} {v : Value} {T : List S33} (h : Mtv w w0 base gm v T) {k : Nat} (hk : some k = v.ownBlock) : base ≤ k ∧ k < w.heap.size ∧ k ≠ gm := mtv_ty h h.1 (by decide) hk
theorem rd_at33 {l : List S33} {i : Nat} (h : i < l.length) : rd_T33 l (i : Int) = l[i] := by
  unfold rd_T33
  rw [Int.toNat_natCast, List.getD_eq_getElem?_getD, List.getElem?_eq_getElem h]; rfl
/-- Two objects apart. -/
def Apt (gx : Nat) (vx : Value) (gy : Nat) (vy : Value) : Prop := gx ≠ gy ∧ some gx ≠ vy.ownBlock ∧ some gy ≠ vx.ownBlock ∧ ∀ k, some k = vx.ownBlock → some k ≠ vy.ownBlock
theorem apt_note {w w1 w0 : World} {bx gy gx : Nat} {vx v v' : Value} {X : List S33} (hx : Mtv w w0 bx gx vx X) (ha : Apt gx vx gy v) (ho : On (fun k => k = gy ∨ some k = v.ownBlock) w w1) (hv : v'.ownBlock = v.ownBlock ∨ ∃ k, v'.ownBlock = some k ∧ w.heap.size ≤ k) : Mtv w1 w0 bx gx vx X ∧ Apt gx vx gy v' := by
  obtain ⟨a1, a2, a3, a4⟩ := ha
  refine ⟨mtv_step hx (fun k hk hlt => ho.block k hlt (fun hq => ?_)), a1, ?_, a3, ?_⟩
  · rcases hk with rfl | hk <;> rcases hq with hq | hq
    · exact a1 hq
    · exact a2 hq
    · rw [hq] at hk; exact a3 hk
    · exact a4 k hk hq
  · rcases hv with hv | ⟨b, hv, hle⟩
    · rw [hv]; exact a2
    · rw [hv]
      intro he
      obtain rfl := Option.some.inj he
      have := blk_lt hx.1; omega
  · intro k hk
    rcases hv with hv | ⟨b, hv, hle⟩
    · rw [hv]; exact a4 k hk
    · rw [hv]
      intro he
      obtain rfl := Option.some.inj he
      have := (mtv_lt hx hk).2.1; omega
theorem v_form {α : Type} {d : Kd α} {e b n : Nat} {W : World} {ok : Nat → Prop} {v : Value} {xs : List α} (h : Kd.V d e W b ok v xs) (hn : n = xs.length) : ∃ A c, v = .slice A n c := by
  obtain ⟨A, c, rfl⟩ := Kd.V_slice h
  exact ⟨A, c, by rw [hn]⟩
abbrev VL (w : World) (A : Option Addr) (n c : Nat) (X : List S33) : Prop := Kd.V k39 39 w 0 (fun _ => True) (.slice A n c) (X.map mkL)
abbrev VM (w : World) (A : Option Addr) (n c : Nat) (X : List S33) : Prop := Kd.V k47 47 w 0 (fun _ => True) (.slice A n c) (X.map mkM)
theorem made_v {k n c : Nat} {X : List S33} (hn : n = X.length) (hp : PartsP k X) {A : Option Addr} {w : World} (h : VM w A n c X) : Calls Try.prog 14 #[.slice A n c] w fun e w' => ∃ A' c', e = .returned (.slice A' n c') ∧ VL w' A' n c' X ∧ Below w.heap.size w w' := by
  obtain rfl : n = (X.map mkM).length := by rw [List.length_map]; exact hn
  refine (gazetteerlaw12_Made.calls k _ A c _ _ w h hp.1).mono ?_
  rintro e w' ⟨v, rfl, hN, hb⟩
  have hV := Kd.V_mono (Kd.N_V (base' := 0) hN) (ok' := fun _ => True) (fun _ _ => trivial)
  obtain ⟨A', c', rfl⟩ := v_form (n := (X.map mkM).length) hV (by simp)
  exact ⟨A', c', rfl, hV, hb⟩
theorem back_v {k n c : Nat} {X : List S33} (hn : n = X.length) (hp : PartsP k X) {A : Option Addr} {w : World} (h : VL w A n c X) : Calls Try.prog 16 #[.slice A n c] w fun e w' => ∃ A' c', e = .returned (.slice A' n c') ∧ VM w' A' n c' X ∧ Below w.heap.size w w' := by
  obtain rfl : n = (X.map mkL).length := by rw [List.length_map]; exact hn
  refine (gazetteerlaw12_Back.calls k _ A c _ _ w h hp.2.1).mono ?_
  rintro e w' ⟨v, rfl, hN, hb⟩
  have hV := Kd.V_mono (Kd.N_V (base' := 0) hN) (ok' := fun _ => True) (fun _ _ => trivial)
  obtain ⟨A', c', rfl⟩ := v_form (n := (X.map mkL).length) hV (by simp)
  exact ⟨A', c', rfl, hV, hb⟩
theorem same_v {k n c1 c2 : Nat} {X : List S33} (hn : n = X.length) (hp : PartsP k X) {A1 A2 : Option Addr} {w : World} (h1 : VM w A1 n c1 X) (h2 : VM w A2 n c2 X) : Calls Try.prog 15 #[.slice A1 n c1, .slice A2 n c2] w fun e w' => e = .returned (.bool true) ∧ Below w.heap.size w w' := by
  obtain rfl : n = (X.map mkM).length := by rw [List.length_map]; exact hn
  have r1 := Kd.V_reads' h1
  have r2 := Kd.V_reads' h2
  exact gazetteerlaw12_Same.calls k A1 c1 _ A2 c2 _ true w r1.2.2 r1.2.1 r2.2.2 r2.2.1 hp.2.2
theorem merge_v {n1 n2 n c1 c2 : Nat} {X Y Z : List S33} (hz : (X ++ Y).foldl noteT [] = Z) (hn : n = Z.length) (hwf : ∀ x ∈ X ++ Y, (Lit.int .i64 x.f0).wf = true ∧ x.f5.length ≤ 1000000) (hl1 : X.length ≤ 400000) (hl2 : Y.length ≤ 400000) {A1 A2 : Option Addr} {w : World} (h1 : VL w A1 n1 c1 X) (h2 : VL w A2 n2 c2 Y) : Calls Try.prog 17 #[.slice A1 n1 c1, .slice A2 n2 c2] w fun e w' => ∃ A' c', e = .returned (.slice A' n c') ∧ VL w' A' n c' Z ∧ Below w.heap.size w w' := by
  refine (merge17 _ A1 A2 n1 n2 c1 c2 X Y w h1 h2 hwf hl1 hl2).mono ?_
  rintro e w' ⟨v, rfl, hV, hb⟩
  rw [hz] at hV
  obtain ⟨A', c', rfl⟩ := v_form (n := n) hV (by rw [List.length_map]; exact hn)
  exact ⟨A', c', rfl, hV, hb⟩
set_option maxHeartbeats 8000000 in
set_option maxRecDepth 100000 in
theorem gazetteerlaw12_OnceMerges.calls (A0 : Option Addr) (c0 : Nat) (l0 : List (S33)) (A1 : Option Addr) (c1 : Nat) (l1 : List (S33)) (r : Bool) (w : World) (hr0 : Kd.C k33 w A0 l0.length l0) (hc0 : l0.length ≤ c0) (hr1 : Kd.C k33 w A1 l1.length l1) (hc1 : l1.length ≤ c1) (HLT0 : r = true) (h : gazetteerlaw12_OnceMerges.f l0 l1 = some r) :
    Calls Try.prog 5 #[.slice A0 l0.length c0, .slice A1 l1.length c1] w fun e w' => e = .returned (.bool r) ∧ Below w.heap.size w w' := by
  unfold gazetteerlaw12_OnceMerges.f at h
  split at h
  case isFalse => cases h
  case isTrue hall =>
  clear h
  subst HLT0
  obtain ⟨wf0, wf1, kf, sa, sb, hsa, hsb, hrest⟩ := hall
  have HC0 := Aside0.mk (And.intro hr0 hc0)
  have HC1 := Aside0.mk (And.intro hr1 hc1)
  have HWF := Aside0.mk (And.intro wf0 wf1)
  have HSA := Aside0.mk hsa
  have HSB := Aside0.mk hsb
  have HRE := Aside0.mk hrest
  clear hr0 hc0 hr1 hc1 wf0 wf1 hsa hsb hrest
  go_enter Try.func5, Try.ntmps5
  go_wp2_with fail
  refine (awake6 w).mono ?_
  rintro e w1 ⟨rfl, hb⟩
  have HB1 := Aside0.mk hb
  clear hb
  go_wp2_with fail
  refine (gazetteerlaw12_Small.calls kf A0 c0 l0 sa w1 (Kd.C_below HC0.out.1 HB1.out) HC0.out.2 HSA.out).mono ?_
  rintro e w2 ⟨rfl, hb⟩
  have HB2 := Aside0.mk (below_step HB1.out hb)
  clear hb HB1 HSA
  cases sa with
  | false =>
    clear HSB HRE
    go_wp2_with fail
    go_ret
    exact ⟨rfl, HB2.out⟩
  | true =>
  go_wp2_with fail
  refine (gazetteerlaw12_Small.calls kf A1 c1 l1 sb w2 (Kd.C_below HC1.out.1 HB2.out) HC1.out.2 (HSB.out (by first | rfl | trivial))).mono ?_
  rintro e w3 ⟨rfl, hb⟩
  have HB3 := Aside0.mk (below_step HB2.out hb)
  clear hb HB2 HSB
  cases sb with
  | false =>
    clear HRE
    go_wp2_with fail
    go_ret
    exact ⟨rfl, HB3.out⟩
  | true =>
  have HS0 := Aside0.mk (HRE.out (by first | rfl | trivial) (by first | rfl | trivial)).1
  have HS1 := Aside0.mk (HRE.out (by first | rfl | trivial) (by first | rfl | trivial)).2.1
  have HMB := Aside0.mk (HRE.out (by first | rfl | trivial) (by first | rfl | trivial)).2.2
  clear HRE
  obtain ⟨n0, hn0⟩ : ∃ n, n = l0.length := ⟨_, rfl⟩
  obtain ⟨n1, hn1⟩ : ∃ n, n = l1.length := ⟨_, rfl⟩
  rw [← hn0, ← hn1]
  rw [← hn0] at HC0
  rw [← hn1] at HC1
  have HN0 := Aside0.mk hn0
  have HN1 := Aside0.mk hn1
  clear hn0 hn1
  obtain ⟨W5, hW5⟩ : ∃ W5, W5 = (w3.alloc (.cells #[.slice none 0 0] 46)).alloc (.cells #[.slice none 0 0] 46) := ⟨_, rfl⟩
  obtain ⟨gx, hgx⟩ : ∃ g, g = w3.heap.size := ⟨_, rfl⟩
  obtain ⟨gy, hgy⟩ : ∃ g, g = w3.heap.size + 1 := ⟨_, rfl⟩
  have HB5 : Aside0 (Below w.heap.size w W5) := ⟨by rw [hW5]; exact below_alloc (below_alloc HB3.out _) _⟩
  have hs1 : (w3.alloc (.cells #[.slice none 0 0] 46)).heap.size = w3.heap.size + 1 := Array.size_push _
  have HGX : Aside0 (W5.heap[gx]? = some (.cells #[.slice none 0 0] 46 (0, 0)) ∧ W5.heap[gy]? = some (.cells #[.slice none 0 0] 46 (0, 0)) ∧ gx < gy ∧ w.heap.size ≤ gx) := ⟨by
    have hq := blk_new (w3.alloc (.cells #[.slice none 0 0] 46)) (.cells #[.slice none 0 0] 46)
    rw [hs1] at hq
    rw [hW5, hgx, hgy]
    exact ⟨blk_below (blk_new w3 _) (below_alloc (Below.refl _ _) _), hq, by omega, HB3.out.size⟩⟩
  clear HB3 hs1
  go_wp2_with fail
  try rw [← hW5]
  try rw [← hgy]
  try rw [← hgx]
  clear hW5 hgx hgy
  go_loopw [7] (fun v7 wr => ∃ (i : Nat) (v : Value), v7 = .int .i64 (i : Int) ∧ Aside0 (i ≤ n0) ∧ Aside0 (Mtv wr w gx gx v ((l0.take i).foldl noteT [])) ∧ Aside0 (wr.heap[gy]? = some (.cells #[.slice none 0 0] 46 (0, 0))) ∧ Aside0 (Below w.heap.size w wr)) (fun v7 _ => n0 - (intOf v7).toNat)
  case atStart => exact ⟨0, .slice none 0 0, rfl, ⟨Nat.zero_le _⟩, ⟨HGX.out.1, Nat.le_refl _, Kd.R_nil _ _ _ _ _⟩, ⟨HGX.out.2.1⟩, HB5⟩
  case round =>
    have HGG : Aside0 (gx < gy ∧ w.heap.size ≤ gx) := ⟨HGX.out.2.2⟩
    clear HB5 HGX
    obtain ⟨i, v, rfl, HI, HM, HGY, HB⟩ := hrel
    by_cases hlt : (i : Int) < (n0 : Int)
    · have r1 := eq_true hlt
      have r2 : (i < n0) = True := eq_true (by omega)
      have r0 : ((0 : Int) ≤ (i : Int)) = True := eq_true (by omega)
      have HIL : Aside0 (i < n0) := ⟨by omega⟩
      have hiT : i < l0.length := by have := HN0.out; omega
      obtain ⟨ad, A5, c5, e, x0, x1, x2, x3, x4, x5, x6, x7, hl5, hi5⟩ := at_T33 HC0.out.1 (i : Int) (by omega) hlt
      cases e
      rw [rd_at33 hiT] at x0 x1 x2 x3 x4 x5 x6 x7 hl5 hi5
      have HTK : Aside0 ((l0.take (i + 1)).foldl noteT [] = noteT ((l0.take i).foldl noteT []) l0[i]) := ⟨take_fold hiT []⟩
      obtain ⟨x, hx⟩ : ∃ x, x = l0[i] := ⟨_, rfl⟩
      rw [← hx] at HTK x0 x1 x2 x3 x4 x5 x6 x7 hl5 hi5
      simp only [Int.toNat_natCast] at x0 x1 x2 x3 x4 x5 x6 x7
      have HX := Aside0.mk (And.intro hi5 hl5)
      have HIW := Aside0.mk (show wrap64 ((i : Int) + 1) = ((i + 1 : Nat) : Int) by have := HS0.out.1; have := HN0.out; unfold wrap64; omega)
      have HLE : Aside0 (((l0.take i).foldl noteT []).length ≤ 1000000 ∧ RisT ((l0.take i).foldl noteT []) ∧ (∀ y ∈ (l0.take i).foldl noteT [], 0 ≤ y.f1)) := ⟨by have h1 := fold_len (l0.take i) []; have := HS0.out.1; rw [List.length_take, List.length_nil] at h1; omega, fold_ris _ List.Pairwise.nil, fold_nonneg _ (fun y hy => by cases hy)⟩
      replace x0 := cell_keep HB.out x0
      replace x1 := cell_keep HB.out x1
      replace x2 := cell_keep HB.out x2
      replace x3 := cell_keep HB.out x3
      replace x4 := cell_keep HB.out x4
      replace x5 := cell_keep HB.out x5
      replace x6 := cell_keep HB.out x6
      replace x7 := cell_keep HB.out x7
      clear hlt hiT hx hi5 hl5
      go_wp2_with fail
      refine (note12 w gx gx v _ x A5 c5 wr HM.out HX.out.1 HX.out.2 HLE.out.2.1 HLE.out.1 HLE.out.2.2).mono ?_
      rintro e w2 ⟨v', rfl, hM2, hown, hon⟩
      have HM2 : Aside0 (Mtv w2 w gx gx v' ((l0.take (i + 1)).foldl noteT [])) := ⟨by rw [HTK.out]; exact hM2⟩
      have HGY2 : Aside0 (w2.heap[gy]? = some (.cells #[.slice none 0 0] 46 (0, 0))) := ⟨hon.blk HGY.out (fun hk => by rcases hk with hk | hk; have := HGG.out.1; omega; exact (mtv_ty HM.out HGY.out (by decide) hk).2.2 rfl)⟩
      have HB2 : Aside0 (Below w.heap.size w w2) := ⟨HB.out.trans (hon.to_below HB.out.size (fun k hk => by rcases hk with hk | hk; have := HGG.out.2; omega; have := (mtv_lt HM.out hk).1; have := HGG.out.2; omega))⟩
      clear hM2 hown hon HM HB HGY x0 x1 x2 x3 x4 x5 x6 x7
      go_wp2_with fail
      go_roundw
      case rel => exact ⟨i + 1, v', by rw [HIW.out], ⟨HIL.out⟩, HM2, HGY2, HB2⟩
      case measure => rw [HIW.out]; simp only [intOf]; have := HIL.out; omega
    · have r1 := eq_false hlt
      have r2 : (i < n0) = False := eq_false (by omega)
      have hM := HM.out
      rw [List.take_of_length_le (by have := HN0.out; have := HI.out; omega)] at hM
      obtain ⟨X, hX⟩ : ∃ X, X = l0.foldl noteT [] := ⟨_, rfl⟩
      rw [← hX] at hM HMB
      have HXX : Aside0 (RisT X ∧ (∀ y ∈ X, 0 ≤ y.f1) ∧ (∀ y ∈ X, (Lit.int .i64 y.f0).wf = true ∧ y.f5.length ≤ 1000000) ∧ X.length ≤ 101) := ⟨by
        rw [hX]
        exact ⟨fold_ris _ List.Pairwise.nil, fold_nonneg _ (fun y hy => by cases hy), fun y hy => (by rcases fold_mem _ hy with h | h; exact ⟨HWF.out.1 y h, HS0.out.2 y h⟩; cases h), by have h1 := fold_len l0 []; have := HS0.out.1; rw [List.length_nil] at h1; omega⟩⟩
      have HMX := Aside0.mk hM
      obtain ⟨vx, hvx⟩ : ∃ vx, vx = v := ⟨_, rfl⟩
      rw [← hvx] at HMX
      have HAP : Aside0 (Apt gx vx gy (.slice none 0 0)) := ⟨by have := HGG.out.1; omega, by simp [Value.ownBlock], fun he => (mtv_ty HMX.out HGY.out (by decide) he).2.2 rfl, fun k _ => by simp [Value.ownBlock]⟩
      have HMY : Aside0 (Mtv wr w gy gy (.slice none 0 0) []) := ⟨HGY.out, Nat.le_refl _, Kd.R_nil _ _ _ _ _⟩
      clear hlt HM HI HC0 HN0 HS0 hX hM hvx HGY
      obtain ⟨i7, rfl⟩ : ∃ i7, i7 = i := ⟨_, rfl⟩
      go_wp2_with fail
      go_loopw [8] (fun v8 wr => ∃ (i : Nat) (v : Value), v8 = .int .i64 (i : Int) ∧ Aside0 (i ≤ n1) ∧ Aside0 (Mtv wr w gy gy v ((l1.take i).foldl noteT [])) ∧ Aside0 (Mtv wr w gx gx vx X ∧ Apt gx vx gy v) ∧ Aside0 (Below w.heap.size w wr)) (fun v8 _ => n1 - (intOf v8).toNat)
      case atStart => exact ⟨0, .slice none 0 0, rfl, ⟨Nat.zero_le _⟩, HMY, ⟨HMX.out, HAP.out⟩, HB⟩
      case round =>
        clear HMY HMX HAP HB
        obtain ⟨i, v, rfl, HI, HM, HMX, HB⟩ := hrel
        by_cases hlt : (i : Int) < (n1 : Int)
        · have r1 := eq_true hlt
          have r2 : (i < n1) = True := eq_true (by omega)
          have r0 : ((0 : Int) ≤ (i : Int)) = True := eq_true (by omega)
          have HIL : Aside0 (i < n1) := ⟨by omega⟩
          have hiT : i < l1.length := by have := HN1.out; omega
          obtain ⟨ad, A5, c5, e, x0, x1, x2, x3, x4, x5, x6, x7, hl5, hi5⟩ := at_T33 HC1.out.1 (i : Int) (by omega) hlt
          cases e
          rw [rd_at33 hiT] at x0 x1 x2 x3 x4 x5 x6 x7 hl5 hi5
          have HTK : Aside0 ((l1.take (i + 1)).foldl noteT [] = noteT ((l1.take i).foldl noteT []) l1[i]) := ⟨take_fold hiT []⟩
          obtain ⟨x, hx⟩ : ∃ x, x = l1[i] := ⟨_, rfl⟩
          rw [← hx] at HTK x0 x1 x2 x3 x4 x5 x6 x7 hl5 hi5
          simp only [Int.toNat_natCast] at x0 x1 x2 x3 x4 x5 x6 x7
          have HX := Aside0.mk (And.intro hi5 hl5)
          have HIW := Aside0.mk (show wrap64 ((i : Int) + 1) = ((i + 1 : Nat) : Int) by have := HS1.out.1; have := HN1.out; unfold wrap64; omega)
          have HLE : Aside0 (((l1.take i).foldl noteT []).length ≤ 1000000 ∧ RisT ((l1.take i).foldl noteT []) ∧ (∀ y ∈ (l1.take i).foldl noteT [], 0 ≤ y.f1)) := ⟨by have h1 := fold_len (l1.take i) []; have := HS1.out.1; rw [List.length_take, List.length_nil] at h1; omega, fold_ris _ List.Pairwise.nil, fold_nonneg _ (fun y hy => by cases hy)⟩
          replace x0 := cell_keep HB.out x0
          replace x1 := cell_keep HB.out x1
          replace x2 := cell_keep HB.out x2
          replace x3 := cell_keep HB.out x3
          replace x4 := cell_keep HB.out x4
          replace x5 := cell_keep HB.out x5
          replace x6 := cell_keep HB.out x6
          replace x7 := cell_keep HB.out x7
          clear hlt hiT hx hi5 hl5
          go_wp2_with fail
          refine (note12 w gy gy v _ x A5 c5 wr HM.out HX.out.1 HX.out.2 HLE.out.2.1 HLE.out.1 HLE.out.2.2).mono ?_
          rintro e w2 ⟨v', rfl, hM2, hown, hon⟩
          have HM2 : Aside0 (Mtv w2 w gy gy v' ((l1.take (i + 1)).foldl noteT [])) := ⟨by rw [HTK.out]; exact hM2⟩
          have HMX2 := Aside0.mk (apt_note HMX.out.1 HMX.out.2 hon hown)
          have HB2 : Aside0 (Below w.heap.size w w2) := ⟨HB.out.trans (hon.to_below HB.out.size (fun k hk => by rcases hk with hk | hk; have := HGG.out; omega; have := (mtv_lt HM.out hk).1; have := HGG.out; omega))⟩
          clear hM2 hown hon HM HB HMX x0 x1 x2 x3 x4 x5 x6 x7
          go_wp2_with fail
          go_roundw
          case rel => exact ⟨i + 1, v', by rw [HIW.out], ⟨HIL.out⟩, HM2, HMX2, HB2⟩
          case measure => rw [HIW.out]; simp only [intOf]; have := HIL.out; omega
        · have r1 := eq_false hlt
          have r2 : (i < n1) = False := eq_false (by omega)
          have hM := HM.out
          rw [List.take_of_length_le (by have := HN1.out; have := HI.out; omega)] at hM
          obtain ⟨Y, hY⟩ : ∃ Y, Y = l1.foldl noteT [] := ⟨_, rfl⟩
          rw [← hY] at hM HMB
          have HYY : Aside0 (RisT Y ∧ (∀ y ∈ Y, 0 ≤ y.f1) ∧ (∀ y ∈ Y, (Lit.int .i64 y.f0).wf = true ∧ y.f5.length ≤ 1000000) ∧ Y.length ≤ 101) := ⟨by
            rw [hY]
            exact ⟨fold_ris _ List.Pairwise.nil, fold_nonneg _ (fun y hy => by cases hy), fun y hy => (by rcases fold_mem _ hy with h | h; exact ⟨HWF.out.2 y h, HS1.out.2 y h⟩; cases h), by have h1 := fold_len l1 []; have := HS1.out.1; rw [List.length_nil] at h1; omega⟩⟩
          obtain ⟨Z, hZ⟩ : ∃ Z, Z = (X ++ Y).foldl noteT [] := ⟨_, rfl⟩
          rw [← hZ] at HMB
          have HZZ := Aside0.mk hZ
          obtain ⟨nx, hnx⟩ : ∃ n, n = X.length := ⟨_, rfl⟩
          obtain ⟨ny, hny⟩ : ∃ n, n = Y.length := ⟨_, rfl⟩
          obtain ⟨nz, hnz⟩ : ∃ n, n = Z.length := ⟨_, rfl⟩
          obtain ⟨Ax, cx, hvx⟩ := v_form (n := nx) (kW_V (base' := 0) HMX.out.1.2.2 HB.out) (by rw [List.length_map]; exact hnx)
          obtain ⟨Ay, cy, hvy⟩ := v_form (n := ny) (kW_V (base' := 0) hM.2.2 HB.out) (by rw [List.length_map]; exact hny)
          rw [hvx] at HMX
          rw [hvy] at hM
          have HX7 := Aside0.mk HMX.out.1
          have HY7 := Aside0.mk hM
          have HNN := Aside0.mk (And.intro hnx (And.intro hny hnz))
          have HZL : Aside0 (Z.length ≤ 202) := ⟨by have h1 := fold_len (X ++ Y) []; rw [← hZ, List.length_append, List.length_nil] at h1; have := HXX.out.2.2.2; have := HYY.out.2.2.2; omega⟩
          obtain ⟨i8, rfl⟩ : ∃ i8, i8 = i := ⟨_, rfl⟩
          clear hlt HM HI HC1 HN1 HS1 hY hM hZ hnx hny hnz hvx hvy HMX HWF
          rename World => w7
          have FMX : Aside0 (∀ wx, Below w7.heap.size w7 wx → Calls Try.prog 14 #[.slice Ax nx cx] wx fun e w' => ∃ A' c', e = .returned (.slice A' nx c') ∧ VL w' A' nx c' X ∧ Below wx.heap.size wx w') := ⟨fun wx hb => made_v HNN.out.1 HMB.out.1 (Kd.V_mono (kW_V (HX7.out.below hb).2.2 (below_step HB.out hb)) (fun _ _ => trivial))⟩
          have FMY : Aside0 (∀ wx, Below w7.heap.size w7 wx → Calls Try.prog 14 #[.slice Ay ny cy] wx fun e w' => ∃ A' c', e = .returned (.slice A' ny c') ∧ VL w' A' ny c' Y ∧ Below wx.heap.size wx w') := ⟨fun wx hb => made_v HNN.out.2.1 HMB.out.2.1 (Kd.V_mono (kW_V (HY7.out.below hb).2.2 (below_step HB.out hb)) (fun _ _ => trivial))⟩
          have FMG : Aside0 (∀ wx A1 c1 A2 c2, VL wx A1 nx c1 X → VL wx A2 ny c2 Y → Calls Try.prog 17 #[.slice A1 nx c1, .slice A2 ny c2] wx fun e w' => ∃ A' c', e = .returned (.slice A' nz c') ∧ VL w' A' nz c' Z ∧ Below wx.heap.size wx w') := ⟨fun wx A1 c1 A2 c2 h1 h2 => merge_v HZZ.out.symm HNN.out.2.2 (fun x hx => by rcases List.mem_append.1 hx with h | h; exact HXX.out.2.2.1 x h; exact HYY.out.2.2.1 x h) (by have := HXX.out.2.2.2; omega) (by have := HYY.out.2.2.2; omega) h1 h2⟩
          have FBZ : Aside0 (∀ wx A c, VL wx A nz c Z → Calls Try.prog 16 #[.slice A nz c] wx fun e w' => ∃ A' c', e = .returned (.slice A' nz c') ∧ VM w' A' nz c' Z ∧ Below wx.heap.size wx w') := ⟨fun wx A c h => back_v HNN.out.2.2 HMB.out.2.2 h⟩
          go_wp2_with fail
          refine wp_reg 13 rfl rfl (by kernel_rfl) (fun z => .slice A0 n0 c0 :: .slice A1 n1 c1 :: undef :: undef :: .bool false :: .pointer (some ⟨gx, 0, none⟩) :: .pointer (some ⟨gy, 0, none⟩) :: .int .i64 (i7 : Int) :: .int .i64 (i8 : Int) :: z 9 :: undef :: undef :: undef :: .bool true :: .bool false :: .slice A0 n0 c0 :: .bool true :: .bool false :: .bool false :: .slice A1 n1 c1 :: .bool true :: .bool false :: .bool false :: .agg #[.slice none 0 0] :: .pointer (some ⟨gx, 0, none⟩) :: .agg #[.slice none 0 0] :: .pointer (some ⟨gy, 0, none⟩) :: .int .i64 (i7 : Int) :: .slice A0 n0 c0 :: .int .i64 (n0 : Int) :: .bool false :: u31 :: u32 :: u33 :: u34 :: u35 :: u36 :: u37 :: u38 :: .int .i64 (i8 : Int) :: .slice A1 n1 c1 :: .int .i64 (n1 : Int) :: .bool false :: u43 :: u44 :: u45 :: u46 :: u47 :: u48 :: u49 :: u50 :: z 51 :: z 52 :: z 53 :: z 54 :: z 55 :: z 56 :: z 57 :: z 58 :: z 59 :: z 60 :: z 61 :: z 62 :: undef :: undef :: undef :: undef :: undef :: undef :: undef :: undef :: undef :: undef :: undef :: undef :: undef :: undef :: undef :: undef :: undef :: undef :: undef :: undef :: undef :: undef :: undef :: undef :: undef :: undef :: undef :: undef :: undef :: undef :: undef :: undef :: undef :: undef :: undef :: undef :: undef :: undef :: undef :: undef :: undef :: undef :: undef :: undef :: undef :: undef :: undef :: undef :: undef :: undef :: undef :: undef :: undef :: undef :: undef :: undef :: undef :: undef :: undef :: undef :: undef :: undef :: undef :: undef :: undef :: undef :: undef :: undef :: undef :: undef :: undef :: undef :: undef :: undef :: undef :: undef :: undef :: undef :: undef :: []) (fun (gg : (Option Addr) × Nat × (Option Addr) × Nat × (Option Addr) × Nat × (Option Addr) × Nat × (Option Addr) × Nat) => [(0, 51, .pointer (some ⟨gx, 0, none⟩)), (1, 52, .pointer (some ⟨gx, 0, none⟩)), (2, 53, .pointer (some ⟨gx, 0, none⟩)), (3, 54, .slice Ax nx cx), (4, 55, .slice gg.1 nx gg.2.1), (5, 56, .pointer (some ⟨gy, 0, none⟩)), (6, 57, .pointer (some ⟨gy, 0, none⟩)), (7, 58, .pointer (some ⟨gy, 0, none⟩)), (8, 59, .slice Ay ny cy), (9, 60, .slice gg.2.2.1 ny gg.2.2.2.1), (10, 61, .slice gg.2.2.2.2.1 nz gg.2.2.2.2.2.1), (11, 62, .slice gg.2.2.2.2.2.2.1 nz gg.2.2.2.2.2.2.2.1), (12, 9, .slice gg.2.2.2.2.2.2.2.2.1 nz gg.2.2.2.2.2.2.2.2.2)]) (fun LL gg z wx => Aside0 (Below w7.heap.size w7 wx) ∧ Aside0 (LL 12 = true → LL 11 = true) ∧ Aside0 (LL 4 = true → VL wx gg.1 nx gg.2.1 X) ∧ Aside0 (LL 9 = true → VL wx gg.2.2.1 ny gg.2.2.2.1 Y) ∧ Aside0 (LL 10 = true → VL wx gg.2.2.2.2.1 nz gg.2.2.2.2.2.1 Z) ∧ Aside0 (LL 11 = true → VM wx gg.2.2.2.2.2.2.1 nz gg.2.2.2.2.2.2.2.1 Z) ∧ Aside0 (LL 12 = true → gg.2.2.2.2.2.2.2.2.1 = gg.2.2.2.2.2.2.1 ∧ gg.2.2.2.2.2.2.2.2.2 = gg.2.2.2.2.2.2.2.1)) (none, 0, none, 0, none, 0, none, 0, none, 0) (zz [(9, undef), (51, undef), (52, undef), (53, undef), (54, undef), (55, undef), (56, undef), (57, undef), (58, undef), (59, undef), (60, undef), (61, undef), (62, undef)]) rfl rfl ⟨⟨below_drew (Below.refl _ _)⟩, ⟨fun h => absurd h (by decide)⟩, ⟨fun h => absurd h (by decide)⟩, ⟨fun h => absurd h (by decide)⟩, ⟨fun h => absurd h (by decide)⟩, ⟨fun h => absurd h (by decide)⟩, ⟨fun h => absurd h (by decide)⟩⟩ ?_ ?_
          · refine Steps.cons ?_ (Steps.cons ?_ (Steps.cons ?_ (Steps.cons ?_ (Steps.cons ?_ (Steps.cons ?_ (Steps.cons ?_ (Steps.cons ?_ (Steps.cons ?_ (Steps.cons ?_ (Steps.cons ?_ (Steps.cons ?_ (Steps.cons ?_ (Steps.nil)))))))))))))
            · exact V0 0
            · exact V1 1 0
            · exact V1 2 1
            · refine V1 3 2 (h := fun LL gg z wx hl hLk e2 K hK => ?_)
              obtain ⟨⟨hb, hz, h1, h2, h3, h4, hF⟩⟩ := hl
              have q_ : wx.cell? ⟨gx, 0, none⟩ = some (.slice Ax nx cx) := (blk_cell (blk_below HX7.out.1 hb.out) 0).trans rfl
              dsimp only [FA]
              refine wantd (by rfl) ?_
              go_simp
              exact hK.out
            · refine CD 4 (fun _ => rfl) (fun _ => rfl) fun LL gg z wx hl hLk hd hI K hK => ?_
              obtain ⟨⟨hb, hz, h1, h2, h3, h4, hF⟩⟩ := hl
              have e3 := hI.at 3 rfl (hd 3 rfl)
              dsimp only [FA]
              refine wantd (by rfl) ?_
              go_simp
              refine (FMX.out wx hb.out).mono ?_
              rintro e w' ⟨A', c', rfl, hV, hb1⟩
              exact hK (A', c', gg.2.2.1, gg.2.2.2.1, gg.2.2.2.2.1, gg.2.2.2.2.2.1, gg.2.2.2.2.2.2.1, gg.2.2.2.2.2.2.2.1, gg.2.2.2.2.2.2.2.2.1, gg.2.2.2.2.2.2.2.2.2) _ _ (sm1 e3) rfl rfl ⟨⟨below_step hb.out hb1⟩, hz, ⟨fun _ => hV⟩, ⟨fun h => Kd.V_below (h2.out h) hb1⟩, ⟨fun h => Kd.V_below (h3.out h) hb1⟩, ⟨fun h => Kd.V_below (h4.out h) hb1⟩, hF⟩
            · exact V0 5
            · exact V1 6 5
            · exact V1 7 6
            · refine V1 8 7 (h := fun LL gg z wx hl hLk e7 K hK => ?_)
              obtain ⟨⟨hb, hz, h1, h2, h3, h4, hF⟩⟩ := hl
              have q_ : wx.cell? ⟨gy, 0, none⟩ = some (.slice Ay ny cy) := (blk_cell (blk_below HY7.out.1 hb.out) 0).trans rfl
              dsimp only [FA]
              refine wantd (by rfl) ?_
              go_simp
              exact hK.out
            · refine CD 9 (fun _ => rfl) (fun _ => rfl) fun LL gg z wx hl hLk hd hI K hK => ?_
              obtain ⟨⟨hb, hz, h1, h2, h3, h4, hF⟩⟩ := hl
              have e8 := hI.at 8 rfl (hd 8 rfl)
              dsimp only [FA]
              refine wantd (by rfl) ?_
              go_simp
              refine (FMY.out wx hb.out).mono ?_
              rintro e w' ⟨A', c', rfl, hV, hb1⟩
              exact hK (gg.1, gg.2.1, A', c', gg.2.2.2.2.1, gg.2.2.2.2.2.1, gg.2.2.2.2.2.2.1, gg.2.2.2.2.2.2.2.1, gg.2.2.2.2.2.2.2.2.1, gg.2.2.2.2.2.2.2.2.2) _ _ (sm1 e8) rfl rfl ⟨⟨below_step hb.out hb1⟩, hz, ⟨fun h => Kd.V_below (h1.out h) hb1⟩, ⟨fun _ => hV⟩, ⟨fun h => Kd.V_below (h3.out h) hb1⟩, ⟨fun h => Kd.V_below (h4.out h) hb1⟩, hF⟩
            · refine CD 10 (fun _ => rfl) (fun _ => rfl) fun LL gg z wx hl hLk hd hI K hK => ?_
              obtain ⟨⟨hb, hz, h1, h2, h3, h4, hF⟩⟩ := hl
              have e4 := hI.at 4 rfl (hd 4 rfl)
              have e9 := hI.at 9 rfl (hd 9 rfl)
              dsimp only [FA]
              refine wantd (by rfl) ?_
              go_simp
              refine (FMG.out wx _ _ _ _ (h1.out (hd 4 rfl)) (h2.out (hd 9 rfl))).mono ?_
              rintro e w' ⟨A', c', rfl, hV, hb1⟩
              exact hK (gg.1, gg.2.1, gg.2.2.1, gg.2.2.2.1, A', c', gg.2.2.2.2.2.2.1, gg.2.2.2.2.2.2.2.1, gg.2.2.2.2.2.2.2.2.1, gg.2.2.2.2.2.2.2.2.2) _ _ (sm2 e4 e9) rfl rfl ⟨⟨below_step hb.out hb1⟩, hz, ⟨fun h => Kd.V_below (h1.out h) hb1⟩, ⟨fun h => Kd.V_below (h2.out h) hb1⟩, ⟨fun _ => hV⟩, ⟨fun h => Kd.V_below (h4.out h) hb1⟩, hF⟩
            · refine CD 11 (fun _ => rfl) (fun _ => rfl) fun LL gg z wx hl hLk hd hI K hK => ?_
              obtain ⟨⟨hb, hz, h1, h2, h3, h4, hF⟩⟩ := hl
              have e10 := hI.at 10 rfl (hd 10 rfl)
              dsimp only [FA]
              refine wantd (by rfl) ?_
              go_simp
              refine (FBZ.out wx _ _ (h3.out (hd 10 rfl))).mono ?_
              rintro e w' ⟨A', c', rfl, hV, hb1⟩
              exact hK (gg.1, gg.2.1, gg.2.2.1, gg.2.2.2.1, gg.2.2.2.2.1, gg.2.2.2.2.2.1, A', c', gg.2.2.2.2.2.2.2.2.1, gg.2.2.2.2.2.2.2.2.2) _ _ (sm1 e10) rfl rfl ⟨⟨below_step hb.out hb1⟩, ⟨fun _ => rfl⟩, ⟨fun h => Kd.V_below (h1.out h) hb1⟩, ⟨fun h => Kd.V_below (h2.out h) hb1⟩, ⟨fun h => Kd.V_below (h3.out h) hb1⟩, ⟨fun _ => hV⟩, ⟨fun h => absurd ((flag_off (fun h => hz.out h) hLk).symm.trans h) (by decide)⟩⟩
            · refine CD 12 (fun _ => rfl) (fun _ => rfl) fun LL gg z wx hl hLk hd hI K hK => ?_
              obtain ⟨⟨hb, hz, h1, h2, h3, h4, hF⟩⟩ := hl
              have e11 := hI.at 11 rfl (hd 11 rfl)
              dsimp only [FA]
              refine wantd (by rfl) ?_
              go_simp
              exact hK (gg.1, gg.2.1, gg.2.2.1, gg.2.2.2.1, gg.2.2.2.2.1, gg.2.2.2.2.2.1, gg.2.2.2.2.2.2.1, gg.2.2.2.2.2.2.2.1, gg.2.2.2.2.2.2.1, gg.2.2.2.2.2.2.2.1) _ _ (sm1 e11) rfl rfl ⟨hb, ⟨fun _ => hd 11 rfl⟩, h1, h2, h3, h4, ⟨fun _ => ⟨rfl, rfl⟩⟩⟩
          · intro LL gg z wd hall hI hl
            obtain ⟨Ma, ma, Mb, mb, Mc, mc, Md, md, Me, me⟩ := gg
            obtain ⟨⟨hb, hz, h1, h2, h3, h4, hF⟩⟩ := hl
            have e12 := hI.at 12 rfl (hall 12 (by decide))
            dsimp only [FA] at hb hz h1 h2 h3 h4 hF e12 ⊢
            rw [e12]
            have HBC := hb
            have HZM : Aside0 (VM wd Me nz me Z) := ⟨by rw [(hF.out (hall 12 (by decide))).1, (hF.out (hall 12 (by decide))).2]; exact h4.out (hall 11 (by decide))⟩
            clear hI hb hz h1 h2 h3 h4 hF e12 hall
            have HXD : Aside0 (Mtv wd w gx gx (.slice Ax nx cx) X) := ⟨HX7.out.below HBC.out⟩
            have HYD : Aside0 (Mtv wd w gy gy (.slice Ay ny cy) Y) := ⟨HY7.out.below HBC.out⟩
            have HBD : Aside0 (Below w.heap.size w wd) := ⟨below_step HB.out HBC.out⟩
            clear HX7 HY7 FMX FMY FMG FBZ HB HBC
            obtain ⟨W15, hW15⟩ : ∃ W, W = wd.alloc (.cells #[.slice none 0 0] 46) := ⟨_, rfl⟩
            obtain ⟨gw, hgw⟩ : ∃ g, g = wd.heap.size := ⟨_, rfl⟩
            have HMW : Aside0 (Mtv W15 w gw gw (.slice none 0 0) [] ∧ gw = wd.heap.size) := ⟨by rw [hW15, hgw]; exact ⟨⟨blk_new wd _, Nat.le_refl _, Kd.R_nil _ _ _ _ _⟩, rfl⟩⟩
            have HB15 : Aside0 (Below wd.heap.size wd W15) := ⟨by rw [hW15]; exact below_alloc (Below.refl _ _) _⟩
            clear Ma ma Mb mb Mc mc Md md
            go_wp2_with fail
            try rw [← hW15]
            try rw [← hgw]
            clear hW15 hgw
            go_loopw [11] (fun v11 wr => ∃ (i : Nat) (v : Value), v11 = .int .i64 (i : Int) ∧ Aside0 (i ≤ nx) ∧ Aside0 (Mtv wr w gw gw v ((X.take i).foldl noteT [])) ∧ Aside0 (Below wd.heap.size wd wr)) (fun v11 _ => nx - (intOf v11).toNat)
            case atStart => exact ⟨0, .slice none 0 0, rfl, ⟨Nat.zero_le _⟩, ⟨HMW.out.1⟩, HB15⟩
            case round =>
              have HGW : Aside0 (gw = wd.heap.size) := ⟨HMW.out.2⟩
              clear HMW HB15
              obtain ⟨i, v, rfl, HI, HM, HB⟩ := hrel
              have xq : wr.cell? ⟨gx, 0, none⟩ = some (.slice Ax nx cx) := (blk_cell (blk_below HXD.out.1 HB.out) 0).trans rfl
              by_cases hlt : (i : Int) < (nx : Int)
              · have r1 := eq_true hlt
                have r2 : (i < nx) = True := eq_true (by omega)
                have r0 : ((0 : Int) ≤ (i : Int)) = True := eq_true (by omega)
                have HIL : Aside0 (i < nx) := ⟨by omega⟩
                have hiT : i < X.length := by have := HNN.out; omega
                obtain ⟨ad, A5, c5, e, ⟨x0, x1, x2, x3, x4, x5, x6, x7⟩, hl5, hi5⟩ := at_M9 (HXD.out.below HB.out).2.2 i hiT
                cases e
                have HTK : Aside0 ((X.take (i + 1)).foldl noteT [] = noteT ((X.take i).foldl noteT []) X[i]) := ⟨take_fold hiT []⟩
                obtain ⟨x, hx⟩ : ∃ x, x = X[i] := ⟨_, rfl⟩
                rw [← hx] at HTK x0 x1 x2 x3 x4 x5 x6 x7 hl5 hi5
                have HX := Aside0.mk (And.intro hi5 hl5)
                have HIW := Aside0.mk (show wrap64 ((i : Int) + 1) = ((i + 1 : Nat) : Int) by have := HXX.out.2.2.2; have := HYY.out.2.2.2; have := HNN.out; unfold wrap64; omega)
                have HLE : Aside0 (((X.take i).foldl noteT []).length ≤ 1000000 ∧ RisT ((X.take i).foldl noteT []) ∧ (∀ y ∈ (X.take i).foldl noteT [], 0 ≤ y.f1)) := ⟨by have h1 := fold_len (X.take i) []; have := HXX.out.2.2.2; have := HYY.out.2.2.2; rw [List.length_take] at h1; (try rw [List.length_nil] at h1); omega, fold_ris _ List.Pairwise.nil, fold_nonneg _ (fun y hy => by cases hy)⟩
                clear hlt hiT hx hi5 hl5
                go_wp2_with fail
                refine (note12 w gw gw v _ x A5 c5 wr HM.out HX.out.1 HX.out.2 HLE.out.2.1 HLE.out.1 HLE.out.2.2).mono ?_
                rintro e w2 ⟨v', rfl, hM2, hown, hon⟩
                have HM2 : Aside0 (Mtv w2 w gw gw v' ((X.take (i + 1)).foldl noteT [])) := ⟨by rw [HTK.out]; exact hM2⟩
                have HB2 : Aside0 (Below wd.heap.size wd w2) := ⟨HB.out.trans (hon.to_below HB.out.size (fun k hk => by rcases hk with hk | hk; rw [hk, HGW.out]; exact Nat.le_refl _; have := (mtv_lt HM.out hk).1; have := HGW.out; omega))⟩
                clear hM2 hown hon HM HB xq x0 x1 x2 x3 x4 x5 x6 x7
                go_wp2_with fail
                go_roundw
                case rel => exact ⟨i + 1, v', by rw [HIW.out], ⟨HIL.out⟩, HM2, HB2⟩
                case measure => rw [HIW.out]; simp only [intOf]; have := HIL.out; omega
              · have r1 := eq_false hlt
                have r2 : (i < nx) = False := eq_false (by omega)
                have HMX : Aside0 (Mtv wr w gw gw v X) := ⟨by
                  have h := HM.out
                  rw [List.take_of_length_le (by have := HNN.out.1; have := HI.out; omega), fold_self HXX.out.1 HXX.out.2.1] at h
                  exact h⟩
                obtain ⟨i11, rfl⟩ : ∃ i11, i11 = i := ⟨_, rfl⟩
                clear hlt HM HI
                go_wp2_with fail
                clear xq
                go_loopw [12] (fun v12 wr => ∃ (i : Nat) (v : Value), v12 = .int .i64 (i : Int) ∧ Aside0 (i ≤ ny) ∧ Aside0 (Mtv wr w gw gw v ((Y.take i).foldl noteT X)) ∧ Aside0 (Below wd.heap.size wd wr)) (fun v12 _ => ny - (intOf v12).toNat)
                case atStart => exact ⟨0, v, rfl, ⟨Nat.zero_le _⟩, HMX, HB⟩
                case round =>
                  clear HMX HB
                  obtain ⟨i, v, rfl, HI, HM, HB⟩ := hrel
                  have xq : wr.cell? ⟨gy, 0, none⟩ = some (.slice Ay ny cy) := (blk_cell (blk_below HYD.out.1 HB.out) 0).trans rfl
                  by_cases hlt : (i : Int) < (ny : Int)
                  · have r1 := eq_true hlt
                    have r2 : (i < ny) = True := eq_true (by omega)
                    have r0 : ((0 : Int) ≤ (i : Int)) = True := eq_true (by omega)
                    have HIL : Aside0 (i < ny) := ⟨by omega⟩
                    have hiT : i < Y.length := by have := HNN.out; omega
                    obtain ⟨ad, A5, c5, e, ⟨x0, x1, x2, x3, x4, x5, x6, x7⟩, hl5, hi5⟩ := at_M9 (HYD.out.below HB.out).2.2 i hiT
                    cases e
                    have HTK : Aside0 ((Y.take (i + 1)).foldl noteT X = noteT ((Y.take i).foldl noteT X) Y[i]) := ⟨take_fold hiT X⟩
                    obtain ⟨x, hx⟩ : ∃ x, x = Y[i] := ⟨_, rfl⟩
                    rw [← hx] at HTK x0 x1 x2 x3 x4 x5 x6 x7 hl5 hi5
                    have HX := Aside0.mk (And.intro hi5 hl5)
                    have HIW := Aside0.mk (show wrap64 ((i : Int) + 1) = ((i + 1 : Nat) : Int) by have := HXX.out.2.2.2; have := HYY.out.2.2.2; have := HNN.out; unfold wrap64; omega)
                    have HLE : Aside0 (((Y.take i).foldl noteT X).length ≤ 1000000 ∧ RisT ((Y.take i).foldl noteT X) ∧ (∀ y ∈ (Y.take i).foldl noteT X, 0 ≤ y.f1)) := ⟨by have h1 := fold_len (Y.take i) X; have := HXX.out.2.2.2; have := HYY.out.2.2.2; rw [List.length_take] at h1; (try rw [List.length_nil] at h1); omega, fold_ris _ HXX.out.1, fold_nonneg _ HXX.out.2.1⟩
                    clear hlt hiT hx hi5 hl5
                    go_wp2_with fail
                    refine (note12 w gw gw v _ x A5 c5 wr HM.out HX.out.1 HX.out.2 HLE.out.2.1 HLE.out.1 HLE.out.2.2).mono ?_
                    rintro e w2 ⟨v', rfl, hM2, hown, hon⟩
                    have HM2 : Aside0 (Mtv w2 w gw gw v' ((Y.take (i + 1)).foldl noteT X)) := ⟨by rw [HTK.out]; exact hM2⟩
                    have HB2 : Aside0 (Below wd.heap.size wd w2) := ⟨HB.out.trans (hon.to_below HB.out.size (fun k hk => by rcases hk with hk | hk; rw [hk, HGW.out]; exact Nat.le_refl _; have := (mtv_lt HM.out hk).1; have := HGW.out; omega))⟩
                    clear hM2 hown hon HM HB xq x0 x1 x2 x3 x4 x5 x6 x7
                    go_wp2_with fail
                    go_roundw
                    case rel => exact ⟨i + 1, v', by rw [HIW.out], ⟨HIL.out⟩, HM2, HB2⟩
                    case measure => rw [HIW.out]; simp only [intOf]; have := HIL.out; omega
                  · have r1 := eq_false hlt
                    have r2 : (i < ny) = False := eq_false (by omega)
                    have hM := HM.out
                    rw [List.take_of_length_le (by have := HNN.out.2.1; have := HI.out; omega), show Y.foldl noteT X = Z by rw [HZZ.out, List.foldl_append, fold_self HXX.out.1 HXX.out.2.1]] at hM
                    obtain ⟨Aw, cw, hvw⟩ := v_form (n := nz) (kW_V (base' := 0) hM.2.2 (below_step HBD.out HB.out)) (by rw [List.length_map]; exact HNN.out.2.2)
                    rw [hvw] at hM
                    have HW9 := Aside0.mk hM
                    have HX9 : Aside0 (Mtv wr w gx gx (.slice Ax nx cx) X) := ⟨HXD.out.below HB.out⟩
                    have HZ9 : Aside0 (VM wr Me nz me Z) := ⟨Kd.V_below HZM.out HB.out⟩
                    have HB9 : Aside0 (Below w.heap.size w wr) := ⟨below_step HBD.out HB.out⟩
                    obtain ⟨i12, rfl⟩ : ∃ i12, i12 = i := ⟨_, rfl⟩
                    clear hlt HM HI hM hvw HXD HYD HZM HBD HB HGW HYY
                    rename World => w9
                    have HVX : Aside0 (∀ wx, Below w9.heap.size w9 wx → VM wx Ax nx cx X) := ⟨fun wx hb => Kd.V_mono (kW_V (HX9.out.below hb).2.2 (below_step HB9.out hb)) (fun _ _ => trivial)⟩
                    have HVW : Aside0 (∀ wx, Below w9.heap.size w9 wx → VM wx Aw nz cw Z) := ⟨fun wx hb => Kd.V_mono (kW_V (HW9.out.below hb).2.2 (below_step HB9.out hb)) (fun _ _ => trivial)⟩
                    have FMX : Aside0 (∀ wx, Below w9.heap.size w9 wx → Calls Try.prog 14 #[.slice Ax nx cx] wx fun e w' => ∃ A' c', e = .returned (.slice A' nx c') ∧ VL w' A' nx c' X ∧ Below wx.heap.size wx w') := ⟨fun wx hb => made_v HNN.out.1 HMB.out.1 (HVX.out wx hb)⟩
                    have FMG : Aside0 (∀ wx A1 c1 A2 c2, VL wx A1 nx c1 X → VL wx A2 nx c2 X → Calls Try.prog 17 #[.slice A1 nx c1, .slice A2 nx c2] wx fun e w' => ∃ A' c', e = .returned (.slice A' nx c') ∧ VL w' A' nx c' X ∧ Below wx.heap.size wx w') := ⟨fun wx A1 c1 A2 c2 h1 h2 => merge_v (fold_twice HXX.out.1 HXX.out.2.1) HNN.out.1 (fun x hx => by rcases List.mem_append.1 hx with h | h; exact HXX.out.2.2.1 x h; exact HXX.out.2.2.1 x h) (by have := HXX.out.2.2.2; omega) (by have := HXX.out.2.2.2; omega) h1 h2⟩
                    have FMN : Aside0 (∀ wx A2 c2, VL wx A2 nx c2 X → Calls Try.prog 17 #[.slice none 0 0, .slice A2 nx c2] wx fun e w' => ∃ A' c', e = .returned (.slice A' nx c') ∧ VL w' A' nx c' X ∧ Below wx.heap.size wx w') := ⟨fun wx A2 c2 h2 => merge_v (X := []) (fold_self HXX.out.1 HXX.out.2.1) HNN.out.1 (fun x hx => HXX.out.2.2.1 x (by simpa using hx)) (by simp) (by have := HXX.out.2.2.2; omega) (Kd.V_nil _ _ _ _ _) h2⟩
                    have FBX : Aside0 (∀ wx A c, VL wx A nx c X → Calls Try.prog 16 #[.slice A nx c] wx fun e w' => ∃ A' c', e = .returned (.slice A' nx c') ∧ VM w' A' nx c' X ∧ Below wx.heap.size wx w') := ⟨fun wx A c h => back_v HNN.out.1 HMB.out.1 h⟩
                    have FSX : Aside0 (∀ wx A c, Below w9.heap.size w9 wx → VM wx A nx c X → Calls Try.prog 15 #[.slice A nx c, .slice Ax nx cx] wx fun e w' => e = .returned (.bool true) ∧ Below wx.heap.size wx w') := ⟨fun wx A c hb h => same_v HNN.out.1 HMB.out.1 h (HVX.out wx hb)⟩
                    have FSZ : Aside0 (∀ wx, Below w9.heap.size w9 wx → Calls Try.prog 15 #[.slice Me nz me, .slice Aw nz cw] wx fun e w' => e = .returned (.bool true) ∧ Below wx.heap.size wx w') := ⟨fun wx hb => same_v HNN.out.2.2 HMB.out.2.2 (Kd.V_below HZ9.out hb) (HVW.out wx hb)⟩
                    go_wp2_with fail
                    refine wp_reg 40 rfl rfl (by kernel_rfl) (fun y => .slice A0 n0 c0 :: .slice A1 n1 c1 :: undef :: undef :: y 4 :: .pointer (some ⟨gx, 0, none⟩) :: .pointer (some ⟨gy, 0, none⟩) :: .int .i64 (i7 : Int) :: .int .i64 (i8 : Int) :: .slice Me nz me :: .pointer (some ⟨gw, 0, none⟩) :: .int .i64 (i11 : Int) :: .int .i64 (i12 : Int) :: .bool true :: .bool false :: .slice A0 n0 c0 :: .bool true :: .bool false :: .bool false :: .slice A1 n1 c1 :: .bool true :: .bool false :: .bool false :: .agg #[.slice none 0 0] :: .pointer (some ⟨gx, 0, none⟩) :: .agg #[.slice none 0 0] :: .pointer (some ⟨gy, 0, none⟩) :: .int .i64 (i7 : Int) :: .slice A0 n0 c0 :: .int .i64 (n0 : Int) :: .bool false :: u31 :: u32 :: u33 :: u34 :: u35 :: u36 :: u37 :: u38 :: .int .i64 (i8 : Int) :: .slice A1 n1 c1 :: .int .i64 (n1 : Int) :: .bool false :: u43 :: u44 :: u45 :: u46 :: u47 :: u48 :: u49 :: u50 :: z 51 :: z 52 :: z 53 :: z 54 :: z 55 :: z 56 :: z 57 :: z 58 :: z 59 :: z 60 :: z 61 :: z 62 :: .agg #[.slice none 0 0] :: .pointer (some ⟨gw, 0, none⟩) :: .int .i64 (i11 : Int) :: .pointer (some ⟨gx, 0, none⟩) :: .pointer (some ⟨gx, 0, none⟩) :: .pointer (some ⟨gx, 0, none⟩) :: .slice Ax nx cx :: .int .i64 (nx : Int) :: .bool false :: u72 :: u73 :: u74 :: u75 :: u76 :: u77 :: u78 :: u79 :: u80 :: u81 :: u82 :: u83 :: .int .i64 (i12 : Int) :: .pointer (some ⟨gy, 0, none⟩) :: .pointer (some ⟨gy, 0, none⟩) :: .pointer (some ⟨gy, 0, none⟩) :: .slice Ay ny cy :: .int .i64 (ny : Int) :: .bool false :: u91 :: u92 :: u93 :: u94 :: u95 :: u96 :: u97 :: u98 :: u99 :: u100 :: u101 :: u102 :: y 103 :: y 104 :: y 105 :: y 106 :: y 107 :: y 108 :: y 109 :: y 110 :: y 111 :: y 112 :: y 113 :: y 114 :: y 115 :: y 116 :: y 117 :: y 118 :: y 119 :: y 120 :: y 121 :: y 122 :: y 123 :: y 124 :: y 125 :: y 126 :: y 127 :: y 128 :: y 129 :: y 130 :: y 131 :: y 132 :: y 133 :: y 134 :: y 135 :: y 136 :: y 137 :: y 138 :: y 139 :: y 140 :: y 141 :: []) (fun (gg : (Option Addr) × Nat × (Option Addr) × Nat × (Option Addr) × Nat × (Option Addr) × Nat × (Option Addr) × Nat × (Option Addr) × Nat × (Option Addr) × Nat) => [(0, 103, .slice Me nz me), (1, 104, .pointer (some ⟨gw, 0, none⟩)), (2, 105, .pointer (some ⟨gw, 0, none⟩)), (3, 106, .pointer (some ⟨gw, 0, none⟩)), (4, 107, .slice Aw nz cw), (5, 108, .bool true), (6, 109, .bool true), (7, 110, .pointer (some ⟨gx, 0, none⟩)), (8, 111, .pointer (some ⟨gx, 0, none⟩)), (9, 112, .pointer (some ⟨gx, 0, none⟩)), (10, 113, .slice Ax nx cx), (11, 114, .slice gg.1 nx gg.2.1), (12, 115, .pointer (some ⟨gx, 0, none⟩)), (13, 116, .pointer (some ⟨gx, 0, none⟩)), (14, 117, .pointer (some ⟨gx, 0, none⟩)), (15, 118, .slice Ax nx cx), (16, 119, .slice gg.2.2.1 nx gg.2.2.2.1), (17, 120, .slice gg.2.2.2.2.1 nx gg.2.2.2.2.2.1), (18, 121, .slice gg.2.2.2.2.2.2.1 nx gg.2.2.2.2.2.2.2.1), (19, 122, .pointer (some ⟨gx, 0, none⟩)), (20, 123, .pointer (some ⟨gx, 0, none⟩)), (21, 124, .pointer (some ⟨gx, 0, none⟩)), (22, 125, .slice Ax nx cx), (23, 126, .bool true), (24, 127, .bool true), (25, 128, .bool true), (26, 129, .pointer (some ⟨gx, 0, none⟩)), (27, 130, .pointer (some ⟨gx, 0, none⟩)), (28, 131, .pointer (some ⟨gx, 0, none⟩)), (29, 132, .slice Ax nx cx), (30, 133, .slice gg.2.2.2.2.2.2.2.2.1 nx gg.2.2.2.2.2.2.2.2.2.1), (31, 134, .slice gg.2.2.2.2.2.2.2.2.2.2.1 nx gg.2.2.2.2.2.2.2.2.2.2.2.1), (32, 135, .slice gg.2.2.2.2.2.2.2.2.2.2.2.2.1 nx gg.2.2.2.2.2.2.2.2.2.2.2.2.2), (33, 136, .pointer (some ⟨gx, 0, none⟩)), (34, 137, .pointer (some ⟨gx, 0, none⟩)), (35, 138, .pointer (some ⟨gx, 0, none⟩)), (36, 139, .slice Ax nx cx), (37, 140, .bool true), (38, 141, .bool true), (39, 4, .bool true)]) (fun LL gg y wx => Aside0 (Below w9.heap.size w9 wx) ∧ Aside0 (LL 11 = true → VL wx gg.1 nx gg.2.1 X) ∧ Aside0 (LL 16 = true → VL wx gg.2.2.1 nx gg.2.2.2.1 X) ∧ Aside0 (LL 17 = true → VL wx gg.2.2.2.2.1 nx gg.2.2.2.2.2.1 X) ∧ Aside0 (LL 18 = true → VM wx gg.2.2.2.2.2.2.1 nx gg.2.2.2.2.2.2.2.1 X) ∧ Aside0 (LL 30 = true → VL wx gg.2.2.2.2.2.2.2.2.1 nx gg.2.2.2.2.2.2.2.2.2.1 X) ∧ Aside0 (LL 31 = true → VL wx gg.2.2.2.2.2.2.2.2.2.2.1 nx gg.2.2.2.2.2.2.2.2.2.2.2.1 X) ∧ Aside0 (LL 32 = true → VM wx gg.2.2.2.2.2.2.2.2.2.2.2.2.1 nx gg.2.2.2.2.2.2.2.2.2.2.2.2.2 X)) (none, 0, none, 0, none, 0, none, 0, none, 0, none, 0, none, 0) (zz [(4, .bool false), (103, undef), (104, undef), (105, undef), (106, undef), (107, undef), (108, undef), (109, undef), (110, undef), (111, undef), (112, undef), (113, undef), (114, undef), (115, undef), (116, undef), (117, undef), (118, undef), (119, undef), (120, undef), (121, undef), (122, undef), (123, undef), (124, undef), (125, undef), (126, undef), (127, undef), (128, undef), (129, undef), (130, undef), (131, undef), (132, undef), (133, undef), (134, undef), (135, undef), (136, undef), (137, undef), (138, undef), (139, undef), (140, undef), (141, undef)]) rfl rfl ⟨⟨below_drew (Below.refl _ _)⟩, ⟨fun h => absurd h (by decide)⟩, ⟨fun h => absurd h (by decide)⟩, ⟨fun h => absurd h (by decide)⟩, ⟨fun h => absurd h (by decide)⟩, ⟨fun h => absurd h (by decide)⟩, ⟨fun h => absurd h (by decide)⟩, ⟨fun h => absurd h (by decide)⟩⟩ ?_ ?_
                    · refine Steps.cons ?_ (Steps.cons ?_ (Steps.cons ?_ (Steps.cons ?_ (Steps.cons ?_ (Steps.cons ?_ (Steps.cons ?_ (Steps.cons ?_ (Steps.cons ?_ (Steps.cons ?_ (Steps.cons ?_ (Steps.cons ?_ (Steps.cons ?_ (Steps.cons ?_ (Steps.cons ?_ (Steps.cons ?_ (Steps.cons ?_ (Steps.cons ?_ (Steps.cons ?_ (Steps.cons ?_ (Steps.cons ?_ (Steps.cons ?_ (Steps.cons ?_ (Steps.cons ?_ (Steps.cons ?_ (Steps.cons ?_ (Steps.cons ?_ (Steps.cons ?_ (Steps.cons ?_ (Steps.cons ?_ (Steps.cons ?_ (Steps.cons ?_ (Steps.cons ?_ (Steps.cons ?_ (Steps.cons ?_ (Steps.cons ?_ (Steps.cons ?_ (Steps.cons ?_ (Steps.cons ?_ (Steps.cons ?_ (Steps.nil))))))))))))))))))))))))))))))))))))))))
                      · exact V0 0
                      · exact V0 1
                      · exact V1 2 1
                      · exact V1 3 2
                      · refine V1 4 3 (h := fun LL gg y wx hl hLk e3 K hK => ?_)
                        obtain ⟨⟨hb, k1, k2, k3, k4, k5, k6, k7⟩⟩ := hl
                        have q_ : wx.cell? ⟨gw, 0, none⟩ = some (.slice Aw nz cw) := (blk_cell (blk_below HW9.out.1 hb.out) 0).trans rfl
                        dsimp only [FA]
                        refine wantd (by rfl) ?_
                        go_simp
                        exact hK.out
                      · refine CD 5 (fun _ => rfl) (fun _ => rfl) fun LL gg y wx hl hLk hd hI K hK => ?_
                        obtain ⟨⟨hb, k1, k2, k3, k4, k5, k6, k7⟩⟩ := hl
                        have e0 := hI.at 0 rfl (hd 0 rfl)
                        have e4 := hI.at 4 rfl (hd 4 rfl)
                        dsimp only [FA]
                        refine wantd (by rfl) ?_
                        go_simp
                        refine (FSZ.out wx hb.out).mono ?_
                        rintro e w' ⟨rfl, hb1⟩
                        exact hK gg _ _ (sm2 e0 e4) rfl rfl ⟨⟨below_step hb.out hb1⟩, ⟨fun h => Kd.V_below (k1.out h) hb1⟩, ⟨fun h => Kd.V_below (k2.out h) hb1⟩, ⟨fun h => Kd.V_below (k3.out h) hb1⟩, ⟨fun h => Kd.V_below (k4.out h) hb1⟩, ⟨fun h => Kd.V_below (k5.out h) hb1⟩, ⟨fun h => Kd.V_below (k6.out h) hb1⟩, ⟨fun h => Kd.V_below (k7.out h) hb1⟩⟩
                      · exact V1 6 5
                      · exact V1 7 6
                      · exact V2 8 6 7
                      · exact V2 9 6 8
                      · refine V2 10 6 9 (h := fun LL gg y wx hl hLk eg e9 K hK => ?_)
                        obtain ⟨⟨hb, k1, k2, k3, k4, k5, k6, k7⟩⟩ := hl
                        have q_ : wx.cell? ⟨gx, 0, none⟩ = some (.slice Ax nx cx) := (blk_cell (blk_below HX9.out.1 hb.out) 0).trans rfl
                        dsimp only [FA]
                        refine wantd (by rw [eg]; rfl) ?_
                        go_simp
                        exact hK.out
                      · refine CD 11 (fun _ => rfl) (fun _ => rfl) fun LL gg y wx hl hLk hd hI K hK => ?_
                        obtain ⟨⟨hb, k1, k2, k3, k4, k5, k6, k7⟩⟩ := hl
                        have e10 := hI.at 10 rfl (hd 10 rfl)
                        dsimp only [FA]
                        have eg := hI.at 6 rfl (hd 6 rfl)
                        refine wantd (by rw [eg]; rfl) ?_
                        go_simp
                        refine (FMX.out wx hb.out).mono ?_
                        rintro e w' ⟨A', c', rfl, hV, hb1⟩
                        exact hK (A', c', gg.2.2.1, gg.2.2.2.1, gg.2.2.2.2.1, gg.2.2.2.2.2.1, gg.2.2.2.2.2.2.1, gg.2.2.2.2.2.2.2.1, gg.2.2.2.2.2.2.2.2.1, gg.2.2.2.2.2.2.2.2.2.1, gg.2.2.2.2.2.2.2.2.2.2.1, gg.2.2.2.2.2.2.2.2.2.2.2.1, gg.2.2.2.2.2.2.2.2.2.2.2.2.1, gg.2.2.2.2.2.2.2.2.2.2.2.2.2) _ _ (sm2 eg e10) rfl rfl ⟨⟨below_step hb.out hb1⟩, ⟨fun _ => hV⟩, ⟨fun h => Kd.V_below (k2.out h) hb1⟩, ⟨fun h => Kd.V_below (k3.out h) hb1⟩, ⟨fun h => Kd.V_below (k4.out h) hb1⟩, ⟨fun h => Kd.V_below (k5.out h) hb1⟩, ⟨fun h => Kd.V_below (k6.out h) hb1⟩, ⟨fun h => Kd.V_below (k7.out h) hb1⟩⟩
                      · exact V1 12 6
                      · exact V2 13 6 12
                      · exact V2 14 6 13
                      · refine V2 15 6 14 (h := fun LL gg y wx hl hLk eg e14 K hK => ?_)
                        obtain ⟨⟨hb, k1, k2, k3, k4, k5, k6, k7⟩⟩ := hl
                        have q_ : wx.cell? ⟨gx, 0, none⟩ = some (.slice Ax nx cx) := (blk_cell (blk_below HX9.out.1 hb.out) 0).trans rfl
                        dsimp only [FA]
                        refine wantd (by rw [eg]; rfl) ?_
                        go_simp
                        exact hK.out
                      · refine CD 16 (fun _ => rfl) (fun _ => rfl) fun LL gg y wx hl hLk hd hI K hK => ?_
                        obtain ⟨⟨hb, k1, k2, k3, k4, k5, k6, k7⟩⟩ := hl
                        have e15 := hI.at 15 rfl (hd 15 rfl)
                        dsimp only [FA]
                        have eg := hI.at 6 rfl (hd 6 rfl)
                        refine wantd (by rw [eg]; rfl) ?_
                        go_simp
                        refine (FMX.out wx hb.out).mono ?_
                        rintro e w' ⟨A', c', rfl, hV, hb1⟩
                        exact hK (gg.1, gg.2.1, A', c', gg.2.2.2.2.1, gg.2.2.2.2.2.1, gg.2.2.2.2.2.2.1, gg.2.2.2.2.2.2.2.1, gg.2.2.2.2.2.2.2.2.1, gg.2.2.2.2.2.2.2.2.2.1, gg.2.2.2.2.2.2.2.2.2.2.1, gg.2.2.2.2.2.2.2.2.2.2.2.1, gg.2.2.2.2.2.2.2.2.2.2.2.2.1, gg.2.2.2.2.2.2.2.2.2.2.2.2.2) _ _ (sm2 eg e15) rfl rfl ⟨⟨below_step hb.out hb1⟩, ⟨fun h => Kd.V_below (k1.out h) hb1⟩, ⟨fun _ => hV⟩, ⟨fun h => Kd.V_below (k3.out h) hb1⟩, ⟨fun h => Kd.V_below (k4.out h) hb1⟩, ⟨fun h => Kd.V_below (k5.out h) hb1⟩, ⟨fun h => Kd.V_below (k6.out h) hb1⟩, ⟨fun h => Kd.V_below (k7.out h) hb1⟩⟩
                      · refine CD 17 (fun _ => rfl) (fun _ => rfl) fun LL gg y wx hl hLk hd hI K hK => ?_
                        obtain ⟨⟨hb, k1, k2, k3, k4, k5, k6, k7⟩⟩ := hl
                        have e11 := hI.at 11 rfl (hd 11 rfl)
                        have e16 := hI.at 16 rfl (hd 16 rfl)
                        dsimp only [FA]
                        have eg := hI.at 6 rfl (hd 6 rfl)
                        refine wantd (by rw [eg]; rfl) ?_
                        go_simp
                        refine (FMG.out wx _ _ _ _ (k1.out (hd 11 rfl)) (k2.out (hd 16 rfl))).mono ?_
                        rintro e w' ⟨A', c', rfl, hV, hb1⟩
                        exact hK (gg.1, gg.2.1, gg.2.2.1, gg.2.2.2.1, A', c', gg.2.2.2.2.2.2.1, gg.2.2.2.2.2.2.2.1, gg.2.2.2.2.2.2.2.2.1, gg.2.2.2.2.2.2.2.2.2.1, gg.2.2.2.2.2.2.2.2.2.2.1, gg.2.2.2.2.2.2.2.2.2.2.2.1, gg.2.2.2.2.2.2.2.2.2.2.2.2.1, gg.2.2.2.2.2.2.2.2.2.2.2.2.2) _ _ (sm3 eg e11 e16) rfl rfl ⟨⟨below_step hb.out hb1⟩, ⟨fun h => Kd.V_below (k1.out h) hb1⟩, ⟨fun h => Kd.V_below (k2.out h) hb1⟩, ⟨fun _ => hV⟩, ⟨fun h => Kd.V_below (k4.out h) hb1⟩, ⟨fun h => Kd.V_below (k5.out h) hb1⟩, ⟨fun h => Kd.V_below (k6.out h) hb1⟩, ⟨fun h => Kd.V_below (k7.out h) hb1⟩⟩
                      · refine CD 18 (fun _ => rfl) (fun _ => rfl) fun LL gg y wx hl hLk hd hI K hK => ?_
                        obtain ⟨⟨hb, k1, k2, k3, k4, k5, k6, k7⟩⟩ := hl
                        have e17 := hI.at 17 rfl (hd 17 rfl)
                        dsimp only [FA]
                        have eg := hI.at 6 rfl (hd 6 rfl)
                        refine wantd (by rw [eg]; rfl) ?_
                        go_simp
                        refine (FBX.out wx _ _ (k3.out (hd 17 rfl))).mono ?_
                        rintro e w' ⟨A', c', rfl, hV, hb1⟩
                        exact hK (gg.1, gg.2.1, gg.2.2.1, gg.2.2.2.1, gg.2.2.2.2.1, gg.2.2.2.2.2.1, A', c', gg.2.2.2.2.2.2.2.2.1, gg.2.2.2.2.2.2.2.2.2.1, gg.2.2.2.2.2.2.2.2.2.2.1, gg.2.2.2.2.2.2.2.2.2.2.2.1, gg.2.2.2.2.2.2.2.2.2.2.2.2.1, gg.2.2.2.2.2.2.2.2.2.2.2.2.2) _ _ (sm2 eg e17) rfl rfl ⟨⟨below_step hb.out hb1⟩, ⟨fun h => Kd.V_below (k1.out h) hb1⟩, ⟨fun h => Kd.V_below (k2.out h) hb1⟩, ⟨fun h => Kd.V_below (k3.out h) hb1⟩, ⟨fun _ => hV⟩, ⟨fun h => Kd.V_below (k5.out h) hb1⟩, ⟨fun h => Kd.V_below (k6.out h) hb1⟩, ⟨fun h => Kd.V_below (k7.out h) hb1⟩⟩
                      · exact V1 19 6
                      · exact V2 20 6 19
                      · exact V2 21 6 20
                      · refine V2 22 6 21 (h := fun LL gg y wx hl hLk eg e21 K hK => ?_)
                        obtain ⟨⟨hb, k1, k2, k3, k4, k5, k6, k7⟩⟩ := hl
                        have q_ : wx.cell? ⟨gx, 0, none⟩ = some (.slice Ax nx cx) := (blk_cell (blk_below HX9.out.1 hb.out) 0).trans rfl
                        dsimp only [FA]
                        refine wantd (by rw [eg]; rfl) ?_
                        go_simp
                        exact hK.out
                      · refine CD 23 (fun _ => rfl) (fun _ => rfl) fun LL gg y wx hl hLk hd hI K hK => ?_
                        obtain ⟨⟨hb, k1, k2, k3, k4, k5, k6, k7⟩⟩ := hl
                        have e18 := hI.at 18 rfl (hd 18 rfl)
                        have e22 := hI.at 22 rfl (hd 22 rfl)
                        dsimp only [FA]
                        have eg := hI.at 6 rfl (hd 6 rfl)
                        refine wantd (by rw [eg]; rfl) ?_
                        go_simp
                        refine (FSX.out wx _ _ hb.out (k4.out (hd 18 rfl))).mono ?_
                        rintro e w' ⟨rfl, hb1⟩
                        exact hK gg _ _ (sm3 eg e18 e22) rfl rfl ⟨⟨below_step hb.out hb1⟩, ⟨fun h => Kd.V_below (k1.out h) hb1⟩, ⟨fun h => Kd.V_below (k2.out h) hb1⟩, ⟨fun h => Kd.V_below (k3.out h) hb1⟩, ⟨fun h => Kd.V_below (k4.out h) hb1⟩, ⟨fun h => Kd.V_below (k5.out h) hb1⟩, ⟨fun h => Kd.V_below (k6.out h) hb1⟩, ⟨fun h => Kd.V_below (k7.out h) hb1⟩⟩
                      · exact V2 24 6 23
                      · exact V1 25 24
                      · exact V1 26 25
                      · exact V2 27 25 26
                      · exact V2 28 25 27
                      · refine V2 29 25 28 (h := fun LL gg y wx hl hLk eg e28 K hK => ?_)
                        obtain ⟨⟨hb, k1, k2, k3, k4, k5, k6, k7⟩⟩ := hl
                        have q_ : wx.cell? ⟨gx, 0, none⟩ = some (.slice Ax nx cx) := (blk_cell (blk_below HX9.out.1 hb.out) 0).trans rfl
                        dsimp only [FA]
                        refine wantd (by rw [eg]; rfl) ?_
                        go_simp
                        exact hK.out
                      · refine CD 30 (fun _ => rfl) (fun _ => rfl) fun LL gg y wx hl hLk hd hI K hK => ?_
                        obtain ⟨⟨hb, k1, k2, k3, k4, k5, k6, k7⟩⟩ := hl
                        have e29 := hI.at 29 rfl (hd 29 rfl)
                        dsimp only [FA]
                        have eg := hI.at 25 rfl (hd 25 rfl)
                        refine wantd (by rw [eg]; rfl) ?_
                        go_simp
                        refine (FMX.out wx hb.out).mono ?_
                        rintro e w' ⟨A', c', rfl, hV, hb1⟩
                        exact hK (gg.1, gg.2.1, gg.2.2.1, gg.2.2.2.1, gg.2.2.2.2.1, gg.2.2.2.2.2.1, gg.2.2.2.2.2.2.1, gg.2.2.2.2.2.2.2.1, A', c', gg.2.2.2.2.2.2.2.2.2.2.1, gg.2.2.2.2.2.2.2.2.2.2.2.1, gg.2.2.2.2.2.2.2.2.2.2.2.2.1, gg.2.2.2.2.2.2.2.2.2.2.2.2.2) _ _ (sm2 eg e29) rfl rfl ⟨⟨below_step hb.out hb1⟩, ⟨fun h => Kd.V_below (k1.out h) hb1⟩, ⟨fun h => Kd.V_below (k2.out h) hb1⟩, ⟨fun h => Kd.V_below (k3.out h) hb1⟩, ⟨fun h => Kd.V_below (k4.out h) hb1⟩, ⟨fun _ => hV⟩, ⟨fun h => Kd.V_below (k6.out h) hb1⟩, ⟨fun h => Kd.V_below (k7.out h) hb1⟩⟩
                      · refine CD 31 (fun _ => rfl) (fun _ => rfl) fun LL gg y wx hl hLk hd hI K hK => ?_
                        obtain ⟨⟨hb, k1, k2, k3, k4, k5, k6, k7⟩⟩ := hl
                        have e30 := hI.at 30 rfl (hd 30 rfl)
                        dsimp only [FA]
                        have eg := hI.at 25 rfl (hd 25 rfl)
                        refine wantd (by rw [eg]; rfl) ?_
                        go_simp
                        refine (FMN.out wx _ _ (k5.out (hd 30 rfl))).mono ?_
                        rintro e w' ⟨A', c', rfl, hV, hb1⟩
                        exact hK (gg.1, gg.2.1, gg.2.2.1, gg.2.2.2.1, gg.2.2.2.2.1, gg.2.2.2.2.2.1, gg.2.2.2.2.2.2.1, gg.2.2.2.2.2.2.2.1, gg.2.2.2.2.2.2.2.2.1, gg.2.2.2.2.2.2.2.2.2.1, A', c', gg.2.2.2.2.2.2.2.2.2.2.2.2.1, gg.2.2.2.2.2.2.2.2.2.2.2.2.2) _ _ (sm2 eg e30) rfl rfl ⟨⟨below_step hb.out hb1⟩, ⟨fun h => Kd.V_below (k1.out h) hb1⟩, ⟨fun h => Kd.V_below (k2.out h) hb1⟩, ⟨fun h => Kd.V_below (k3.out h) hb1⟩, ⟨fun h => Kd.V_below (k4.out h) hb1⟩, ⟨fun h => Kd.V_below (k5.out h) hb1⟩, ⟨fun _ => hV⟩, ⟨fun h => Kd.V_below (k7.out h) hb1⟩⟩
                      · refine CD 32 (fun _ => rfl) (fun _ => rfl) fun LL gg y wx hl hLk hd hI K hK => ?_
                        obtain ⟨⟨hb, k1, k2, k3, k4, k5, k6, k7⟩⟩ := hl
                        have e31 := hI.at 31 rfl (hd 31 rfl)
                        dsimp only [FA]
                        have eg := hI.at 25 rfl (hd 25 rfl)
                        refine wantd (by rw [eg]; rfl) ?_
                        go_simp
                        refine (FBX.out wx _ _ (k6.out (hd 31 rfl))).mono ?_
                        rintro e w' ⟨A', c', rfl, hV, hb1⟩
                        exact hK (gg.1, gg.2.1, gg.2.2.1, gg.2.2.2.1, gg.2.2.2.2.1, gg.2.2.2.2.2.1, gg.2.2.2.2.2.2.1, gg.2.2.2.2.2.2.2.1, gg.2.2.2.2.2.2.2.2.1, gg.2.2.2.2.2.2.2.2.2.1, gg.2.2.2.2.2.2.2.2.2.2.1, gg.2.2.2.2.2.2.2.2.2.2.2.1, A', c') _ _ (sm2 eg e31) rfl rfl ⟨⟨below_step hb.out hb1⟩, ⟨fun h => Kd.V_below (k1.out h) hb1⟩, ⟨fun h => Kd.V_below (k2.out h) hb1⟩, ⟨fun h => Kd.V_below (k3.out h) hb1⟩, ⟨fun h => Kd.V_below (k4.out h) hb1⟩, ⟨fun h => Kd.V_below (k5.out h) hb1⟩, ⟨fun h => Kd.V_below (k6.out h) hb1⟩, ⟨fun _ => hV⟩⟩
                      · exact V1 33 25
                      · exact V2 34 25 33
                      · exact V2 35 25 34
                      · refine V2 36 25 35 (h := fun LL gg y wx hl hLk eg e35 K hK => ?_)
                        obtain ⟨⟨hb, k1, k2, k3, k4, k5, k6, k7⟩⟩ := hl
                        have q_ : wx.cell? ⟨gx, 0, none⟩ = some (.slice Ax nx cx) := (blk_cell (blk_below HX9.out.1 hb.out) 0).trans rfl
                        dsimp only [FA]
                        refine wantd (by rw [eg]; rfl) ?_
                        go_simp
                        exact hK.out
                      · refine CD 37 (fun _ => rfl) (fun _ => rfl) fun LL gg y wx hl hLk hd hI K hK => ?_
                        obtain ⟨⟨hb, k1, k2, k3, k4, k5, k6, k7⟩⟩ := hl
                        have e32 := hI.at 32 rfl (hd 32 rfl)
                        have e36 := hI.at 36 rfl (hd 36 rfl)
                        dsimp only [FA]
                        have eg := hI.at 25 rfl (hd 25 rfl)
                        refine wantd (by rw [eg]; rfl) ?_
                        go_simp
                        refine (FSX.out wx _ _ hb.out (k7.out (hd 32 rfl))).mono ?_
                        rintro e w' ⟨rfl, hb1⟩
                        exact hK gg _ _ (sm3 eg e32 e36) rfl rfl ⟨⟨below_step hb.out hb1⟩, ⟨fun h => Kd.V_below (k1.out h) hb1⟩, ⟨fun h => Kd.V_below (k2.out h) hb1⟩, ⟨fun h => Kd.V_below (k3.out h) hb1⟩, ⟨fun h => Kd.V_below (k4.out h) hb1⟩, ⟨fun h => Kd.V_below (k5.out h) hb1⟩, ⟨fun h => Kd.V_below (k6.out h) hb1⟩, ⟨fun h => Kd.V_below (k7.out h) hb1⟩⟩
                      · exact V2 38 25 37
                      · exact V1 39 38
                    · intro LL gg y we hall hI hl
                      obtain ⟨Pa, pa, Pb, pb, Pc, pc, Pd, pd, Pe, pe, Pf, pf, Pg, pg⟩ := gg
                      obtain ⟨⟨hb, k1, k2, k3, k4, k5, k6, k7⟩⟩ := hl
                      have e39 := hI.at 39 rfl (hall 39 (by decide))
                      dsimp only [FA] at hb k1 k2 k3 k4 k5 k6 k7 e39 ⊢
                      rw [e39]
                      have HBC := hb
                      clear hI hb k1 k2 k3 k4 k5 k6 k7 e39 hall
                      go_wp2_with fail
                      go_ret
                      exact ⟨rfl, below_step HB9.out HBC.out⟩


end Go.Proofs.Ytdeepnpbibhfiaa.POnceMerges

/- The law of texts by their bytes, by hand. No condition. -/
import Derived.Test.YtbajekndbamcmaaWGroveA
import Derived.Test.YtbajekndbamcmaaWGrove4SI
namespace Go.Proofs.YtbajekndbamcmaaW.GroveX
open Go.RowKit Go.Proofs.YtbajekndbamcmaaW.PrintWords Go.Proofs.YtbajekndbamcmaaW.PrintLast Go.Proofs.YtbajekndbamcmaaW.PrintMore Go.Proofs.YtbajekndbamcmaaW.PrintReg Go.Proofs.YtbajekndbamcmaaW.PrintTree Go.Proofs.YtbajekndbamcmaaW.GroveA
set_option linter.unusedVariables false
set_option linter.unusedSimpArgs false
attribute [local go_sem] str_geq str_leq str_gtr
abbrev lt (a b : ByteArray) : Bool := Op.bytesLess a.toList b.toList
/-- Texts by their bytes. -/
def byt (a b : ByteArray) : Int := if lt a b then -1 else if lt b a then 1 else 0
def All (_ : ByteArray) : Prop := True
theorem ext' {a b : ByteArray} (h : a.toList = b.toList) : a = b := by
  rw [ByteArray.toList_eq, ByteArray.toList_eq] at h
  exact ByteArray.ext (Array.toList_inj.mp h)
theorem ordr_byt : Ordr byt All := by
  have neg : ∀ a b, byt a b < 0 → lt a b = true := fun a b h => by
    unfold byt at h; split at h
    · assumption
    · split at h <;> omega
  have pos : ∀ a b, 0 < byt a b → lt b a = true := fun a b h => by
    unfold byt at h; split at h
    · omega
    · split at h
      · assumption
      · omega
  have mkn : ∀ a b, lt a b = true → byt a b < 0 := fun a b h => by unfold byt; rw [if_pos h]; decide
  have mkp : ∀ a b, lt b a = true → 0 < byt a b := fun a b h => by
    unfold byt; rw [if_neg (by rw [show lt a b = false from PrintOrd.bl_asymm _ _ h]; decide), if_pos h]; decide
  refine ⟨fun a b x _ _ _ h1 h2 => ?_, fun a b x _ _ _ h1 h2 => ?_, fun a x _ _ h => ?_, fun a x _ _ h1 h2 => ?_⟩
  · have h1 := neg _ _ h1
    refine mkp _ _ ?_
    rcases PrintOrd.bl_tri x.toList b.toList with h | h | h
    · exact absurd (mkn _ _ h) h2
    · show Op.bytesLess a.toList x.toList = true
      rw [h]; exact h1
    · exact PrintOrd.bl_trans _ _ _ h1 h
  · exact mkn _ _ (PrintOrd.bl_trans _ _ _ (neg _ _ h1) (neg _ _ h2))
  · exact mkn _ _ (pos _ _ h)
  · rcases PrintOrd.bl_tri x.toList a.toList with h | h | h
    · exact absurd (mkn _ _ h) h1
    · exact ext' h
    · exact absurd (mkp _ _ h) h2
theorem info_str : (Try.prog.info? 9).map (fun i => (i.zero, i.size, i.bytes)) = some (some (.string ⟨#[]⟩), 1, 16) := by kernel_rfl
theorem one_row (w : World) (k : ByteArray) : Kd.string.C (w.alloc (.cells #[.string k] 9 (0, 0))) (some ⟨w.heap.size, 0, none⟩) 1 [k] := by
  refine ⟨rfl, by decide, fun _ => ⟨_, rfl, fun j p hp => ?_⟩⟩
  cases j with
  | succ j => simp at hp
  | zero =>
    obtain rfl : k = p := by simpa using hp
    refine ⟨[.string k], rfl, rfl, fun i u hu => ?_⟩
    cases i with
    | succ i => simp at hu
    | zero =>
      obtain rfl : Value.string k = u := by simpa using hu
      exact (blk_cell (blk_new w _) 0).trans rfl
theorem On.from_ {B : Nat} {w w' : World} (h : Below B w w') : On (fun q => B ≤ q) w w' := ⟨h.os, h.tape, h.output, h.size, fun k _ hk => h.block k (by omega)⟩
theorem ent1 (args : Array Value) (W : World) : (callFunc 19 args).run Try.prog W = .ok (.enter 19 args) W := ent_of Try.func19 (by decide) rfl args W
theorem ent2 (args : Array Value) (W : World) : (callFunc 22 args).run Try.prog W = .ok (.enter 22 args) W := ent_of Try.func22 (by decide) rfl args W
set_option maxHeartbeats 4000000 in
theorem cmpX (x y : ByteArray) (W : World) (hx : All x) (hy : All y) : Calls Try.prog 19 #[GroveSI.kv x, GroveSI.kv y] W fun e w' => e = .returned (.int .i64 (byt x y)) ∧ Below W.heap.size W w' := by
  unfold byt lt
  cases h1 : Op.bytesLess x.toList y.toList with
  | true =>
    go_enter Try.func19, Try.ntmps19
    go_wp2
    go_ret
    exact ⟨rfl, Below.refl _ _⟩
  | false =>
    cases h2 : Op.bytesLess y.toList x.toList with
    | true =>
      go_enter Try.func19, Try.ntmps19
      go_wp2
      go_ret
      exact ⟨rfl, Below.refl _ _⟩
    | false =>
      go_enter Try.func19, Try.ntmps19
      go_wp2
      go_ret
      exact ⟨rfl, Below.refl _ _⟩
/-- What the walk has told of: the row in a cell, and how many are enough. -/
structure Told (gs g5 base : Nat) (stop : Int) (l : List ByteArray) (W : World) : Prop where
  row : ∃ v : Value, W.heap[gs]? = some (.cells #[v] 41 (0, 0)) ∧ Kd.string.R 9 W base (fun k => some k = v.ownBlock) v l
  stp : W.heap[g5]? = some (.cells #[.int .u8 stop] 5 (0, 0))
set_option maxHeartbeats 4000000 in
set_option maxRecDepth 100000 in
theorem see_calls (gs g5 base : Nat) (stop : Int) (h5 : 0 ≤ stop ∧ stop ≤ 255) (hne : gs ≠ g5 ∧ gs < base ∧ g5 < base) (l : List ByteArray) (hl : l.length < 1000) (k : ByteArray) (v : Int) (W : World) (hB : base ≤ W.heap.size) (h : Told gs g5 base stop l W) :
    Calls Try.prog 22 #[.string k, .int .i64 v, .pointer (some ⟨gs, 0, none⟩), .pointer (some ⟨g5, 0, none⟩)] W fun e w' => e = .returned (.bool (decide (((l.length : Int) + 1) < 1 + stop))) ∧ Told gs g5 base stop (l ++ [k]) w' ∧ On (fun q => q = gs ∨ base ≤ q) W w' := by
  obtain ⟨⟨v0, hv, hr⟩, hs⟩ := h
  have c0 : W.cell? ⟨gs, 0, none⟩ = some v0 := (blk_cell hv 0).trans rfl
  obtain ⟨A, c, rfl, hlc, hC⟩ := Kd.R_reads hr
  have HR := Aside0.mk (And.intro hv (And.intro hr hs))
  have HL := Aside0.mk (And.intro hl (And.intro hB hne))
  clear hv hr hs hC hl hB
  have HO : Aside0 (Kd.string.R 9 (W.alloc (.cells #[.string k] 9 (0, 0))) base (fun _ => True) (.slice A l.length c) l) := ⟨Kd.R_mono (Kd.R_alloc HR.out.2.1 _) (fun _ _ => trivial)⟩
  have HK := Aside0.mk (one_row W k)
  go_enter Try.func22, Try.ntmps22
  go_wp2_with (first | ((with_reducible refine gate_builtin (b := .append) (xs := #[.tmp 7, .tmp 9]) rfl ?_); at_builtin; refine Kd.R_append_row Value.string ByteArray.empty (h1 := fun _ => rfl) (w0 := W.alloc (.cells #[.string k] 9 (0, 0))) base rfl (.tmp 7) (.tmp 9) 41 9 (.string ⟨#[]⟩) 16 rfl Try.underlying41 info_str rfl (by omega) (.slice A l.length c) l [k] (some ⟨W.heap.size, 0, none⟩) 1 1 (fun _ => True) rfl rfl (fun _ _ => trivial) HO.out HK.out (Below.refl _ _) ?aS ?aL ?_; (case aS => have := HL.out.2.1; show base ≤ (W.heap.push _).size; rw [Array.size_push]; omega); (case aL => have := HL.out.1; omega); intro v1 w1 ho1 hb1 hg1 hn1; obtain ⟨A1, c1, hv1, hlc1, hC1⟩ := Kd.R_reads ho1; rw [show (l ++ [k]).length = l.length + 1 by simp] at hv1; subst hv1; have kgs := hb1.block gs HL.out.2.2.2.1; have kg5 := hb1.block g5 HL.out.2.2.2.2; have hgs1 := kgs.trans (blk_alloc HR.out.1 _); have hg51 := kg5.trans (blk_alloc HR.out.2.2 _); have d0 : w1.cell? ⟨gs, 0, none⟩ = some (.slice A l.length c) := (blk_cell hgs1 0).trans rfl; have f0 := blk_frozen hgs1 0; have hgs2 : (w1.setCell ⟨gs, 0, none⟩ (.slice A1 (l.length + 1) c1)).heap[gs]? = some (.cells #[.slice A1 (l.length + 1) c1] 41 (0, 0)) := blk_put hgs1 0 _ rfl; have hg52 := blk_far hg51 (p := ⟨gs, 0, none⟩) HL.out.2.2.1.symm (.slice A1 (l.length + 1) c1); have d1 : (w1.setCell ⟨gs, 0, none⟩ (.slice A1 (l.length + 1) c1)).cell? ⟨gs, 0, none⟩ = some (.slice A1 (l.length + 1) c1) := (blk_cell hgs2 0).trans rfl; have d5' : w1.cell? ⟨g5, 0, none⟩ = some (.int .u8 stop) := (blk_cell hg51 0).trans rfl; have d5 : (w1.setCell ⟨gs, 0, none⟩ (.slice A1 (l.length + 1) c1)).cell? ⟨g5, 0, none⟩ = some (.int .u8 stop) := (blk_cell hg52 0).trans rfl; have R1 := Aside0.mk (And.intro ho1 (And.intro hgs2 (And.intro hg52 hb1))); clear ho1 hb1 hg1 hn1 hC1 kgs kg5 hgs1 hg51 hgs2 hg52))
  go_ret
  refine ⟨?_, ⟨⟨_, R1.out.2.1, ?_⟩, R1.out.2.2.1⟩, ?_⟩
  · rfl
  · have hb := Kd.R_base R1.out.1
    refine Kd.R_far (Kd.R_tight rfl R1.out.1) (p := ⟨gs, 0, none⟩) (fun q hq e => ?_) _
    have := hb q hq.symm
    have h2 := HL.out.2.2.2.1
    have : q = gs := e
    omega
  · exact ((On.refl _ W).alloc _).trans ((On.mono (On.from_ R1.out.2.2.2) (fun q h => .inr h)).set (p := ⟨gs, 0, none⟩) (.inl rfl) _)
theorem row1 {W : World} {g : Nat} {s : ByteArray} {t : TypeId} (h : W.heap[g]? = some (.cells #[.string s] t (0, 0))) : Kd.C Kd.string W (some ⟨g, 0, none⟩) 1 [s] := by
  refine ⟨rfl, by decide, fun _ => ⟨_, rfl, fun j p hp => ?_⟩⟩
  cases j with
  | zero =>
    obtain rfl : s = p := by simpa using hp
    exact ⟨[Value.string s], rfl, rfl, fun i u hu => by
      cases i with
      | zero => obtain rfl : Value.string s = u := by simpa using hu
                exact (blk_cell h 0).trans rfl
      | succ i => simp at hu⟩
  | succ j => simp at hp
/-- Where a text belongs in a sorted row. -/
def pos (x : ByteArray) : List ByteArray → Nat
  | [] => 0
  | a :: l => if lt a x then pos x l + 1 else 0
theorem pos_le (x : ByteArray) : ∀ l, pos x l ≤ l.length
  | [] => Nat.le_refl _
  | a :: l => by have := pos_le x l; unfold pos; split <;> simp <;> omega
theorem pos_lt (x : ByteArray) : ∀ (l : List ByteArray) (i : Nat), i < pos x l → lt (l.getD i ByteArray.empty) x = true
  | [], i, h => by simp [pos] at h
  | a :: l, i, h => by
    unfold pos at h
    split at h
    · rename_i c
      cases i with
      | zero => exact c
      | succ i => exact pos_lt x l i (by omega)
    · omega
theorem pos_at (x : ByteArray) : ∀ (l : List ByteArray), pos x l < l.length → lt (l.getD (pos x l) ByteArray.empty) x = false
  | [], h => by simp [pos] at h
  | a :: l, h => by
    unfold pos at h ⊢
    split
    · rename_i c
      rw [if_pos c] at h
      exact pos_at x l (by simpa using h)
    · rename_i c
      simpa using c
theorem put_keys (x : ByteArray) (v : Int) : ∀ l : List (ByteArray × Int),
    (putL byt x v l).2 = (decide (pos x (l.map (·.1)) < l.length) && (((l.map (·.1)).getD (pos x (l.map (·.1))) ByteArray.empty).toList == x.toList)) ∧
    ((putL byt x v l).2 = true → (putL byt x v l).1.map (·.1) = l.map (·.1)) ∧
    ((putL byt x v l).2 = false → (putL byt x v l).1.map (·.1) = (l.map (·.1)).take (pos x (l.map (·.1))) ++ x :: (l.map (·.1)).drop (pos x (l.map (·.1))))
  | [] => by simp [putL, pos]
  | (a, v1) :: l => by
    have ih := put_keys x v l
    rw [putL]
    simp only [List.map_cons, List.length_cons]
    by_cases c1 : byt x a < 0
    · have hxa : lt x a = true := by unfold byt at c1; split at c1; assumption; split at c1 <;> omega
      have hax : lt a x = false := PrintOrd.bl_asymm _ _ hxa
      have hne : (a.toList == x.toList) = false := by
        rw [beq_eq_false_iff_ne]; intro e; obtain rfl := ext' e; rw [hxa] at hax; cases hax
      rw [if_pos c1]
      have hp : pos x (a :: l.map (·.1)) = 0 := by unfold pos; rw [if_neg (by rw [hax]; decide)]
      rw [hp]
      simp [hne]
    · rw [if_neg c1]
      by_cases c2 : 0 < byt x a
      · have hax : lt a x = true := by unfold byt at c2; split at c2; omega; split at c2; assumption; omega
        rw [if_pos c2]
        have hp : pos x (a :: l.map (·.1)) = pos x (l.map (·.1)) + 1 := by rw [pos, if_pos hax]
        rw [hp]
        simp only [List.getD_cons_succ, List.take_succ_cons, List.drop_succ_cons, List.cons_append, List.map_cons]
        refine ⟨?_, fun h => by rw [ih.2.1 h], fun h => by rw [ih.2.2 h]⟩
        rw [ih.1]
        congr 1
        rw [decide_eq_decide]; omega
      · rw [if_neg c2]
        obtain rfl := ordr_byt.eqv a x trivial trivial c1 c2
        have hp : pos x (x :: l.map (·.1)) = 0 := by unfold pos; rw [if_neg (by rw [show lt x x = false from PrintOrd.bl_irrefl _]; decide)]
        rw [hp]
        simp
/-- What is wanted of the first j. -/
def wnt (frm : ByteArray) (n : Nat) (ks : List ByteArray) (j : Nat) : List ByteArray := ((ks.take j).filter (fun y => !lt y frm)).take n
theorem stop_w (s : Int) (h : 0 ≤ s ∧ s ≤ 255) : wrap64 s = s := by unfold wrap64; omega
theorem stop_w2 (s : Int) (h : 0 ≤ s ∧ s ≤ 255) : wrap64 (1 + s) = 1 + s := by unfold wrap64; omega
theorem take_step (n : Nat) (L : List ByteArray) (y : ByteArray) (b : Bool) : (L ++ if (!b) = true then [y] else []).take n = if b = false ∧ (L.take n).length < n then L.take n ++ [y] else L.take n := by
  cases b with
  | true =>
    rw [if_neg (by simp)]
    simp
  | false =>
    simp only [Bool.not_false, if_true, true_and, List.length_take]
    rw [List.take_append]
    by_cases c : L.length < n
    · have h1 : min n L.length < n := by omega
      rw [if_pos h1, List.take_of_length_le (show ([y] : List ByteArray).length ≤ n - L.length by simp; omega)]
    · have h1 : ¬ min n L.length < n := by omega
      rw [if_neg h1, show n - L.length = 0 by omega, List.take_zero, List.append_nil]
theorem wnt_next (frm : ByteArray) (n : Nat) (ks : List ByteArray) (j : Nat) (hj : j < ks.length) : wnt frm n ks (j + 1) = if lt (ks.getD j ByteArray.empty) frm = false ∧ (wnt frm n ks j).length < n then wnt frm n ks j ++ [ks.getD j ByteArray.empty] else wnt frm n ks j := by
  have e : ks.take (j + 1) = ks.take j ++ [ks.getD j ByteArray.empty] := by
    rw [List.take_succ_eq_append_getElem hj]
    simp [List.getD_eq_getElem?_getD, hj]
  simp only [wnt, e, List.filter_append, List.filter_cons, List.filter_nil]
  exact take_step n _ _ _
theorem wnt_len (frm : ByteArray) (n : Nat) (ks : List ByteArray) (j : Nat) : (wnt frm n ks j).length ≤ j := by
  have h1 : (wnt frm n ks j).length ≤ ((ks.take j).filter (fun y => !lt y frm)).length := by unfold wnt; rw [List.length_take]; omega
  have h2 := List.length_filter_le (fun y => !lt y frm) (ks.take j)
  rw [List.length_take] at h2
  omega
def seeX (stop : Int) (s : List ByteArray) (k : ByteArray) (v : Int) : List ByteArray × Bool := (s ++ [k], decide (((s.length : Int) + 1) < 1 + stop))
theorem goL_see (stop : Nat) : ∀ (L : List (ByteArray × Int)) (s : List ByteArray), s.length ≤ stop → (goL (seeX stop) L s).1 = s ++ (L.map (·.1)).take (1 + stop - s.length)
  | [], s, _ => by simp [goL]
  | (k, v) :: L, s, h => by
    rw [goL]
    by_cases c : s.length < stop
    · rw [if_pos (by simp only [seeX, decide_eq_true_eq]; omega)]
      have := goL_see stop L (s ++ [k]) (by simp; omega)
      rw [show (seeX (stop : Int) s k v).1 = s ++ [k] from rfl, this, List.map_cons, show 1 + stop - s.length = (1 + stop - (s ++ [k]).length) + 1 by simp; omega, List.take_succ_cons]
      simp
    · rw [if_neg (by simp only [seeX, decide_eq_true_eq]; omega)]
      rw [List.map_cons, show 1 + stop - s.length = 0 + 1 by omega, List.take_succ_cons]
      simp [seeX]
theorem seen_eq (frm : ByteArray) (stop : Nat) (lst : List (ByteArray × Int)) (ks : List ByteArray) (hks : ks = lst.map (·.1)) : (goL (seeX stop) (lst.filter (fun p => !decide (byt p.1 frm < 0))) []).1 = wnt frm (1 + stop) ks ks.length := by
  rw [goL_see stop _ [] (by simp)]
  unfold wnt
  rw [List.take_length, List.nil_append, List.length_nil, Nat.sub_zero, hks]
  congr 1
  rw [List.filter_map]
  congr 1
  refine List.filter_congr (fun p _ => ?_)
  simp only [Function.comp]
  congr 1
  unfold byt
  cases h : lt p.1 frm with
  | true => simp
  | false =>
    simp only [Bool.false_eq_true, if_false]
    split <;> simp
theorem Told.below {gs g5 base : Nat} {stop : Int} {l : List ByteArray} {W W' : World} (h : Told gs g5 base stop l W) (hb : Below W.heap.size W W') : Told gs g5 base stop l W' := by
  obtain ⟨⟨v, h1, h2⟩, h3⟩ := h
  exact ⟨⟨v, blk_below h1 hb, Kd.R_below h2 hb⟩, blk_below h3 hb⟩
/-- Rows kept by what is written elsewhere. -/
theorem str_keep {w w' : World} {base n c : Nat} {A : Option Addr} {l : List ByteArray} {P : Nat → Prop} (h : Kd.string.R 9 w base (fun k => some k = (Value.slice A n c).ownBlock) (.slice A n c) l) (ho : On P w w') (hp : ∀ q, some q = (Value.slice A n c).ownBlock → ¬ P q) : Kd.string.R 9 w' base (fun k => some k = (Value.slice A n c).ownBlock) (.slice A n c) l :=
  Kd.R_step h (fun k hk hlt => ho.block k hlt (hp k hk))
set_option maxHeartbeats 8000000 in
set_option maxRecDepth 100000 in
theorem texts_calls (A0 : Option Addr) (c0 : Nat) (l0 : List ByteArray) (frm : ByteArray) (stop : Int) (h5 : 0 ≤ stop ∧ stop ≤ 255) (w : World) (hr0 : Kd.C Kd.string w A0 l0.length l0) (hc0 : l0.length ≤ c0) :
    Calls Try.prog 4 #[.slice A0 l0.length c0, .string frm, .int .u8 stop] w fun e w' => e = .returned (.bool true) ∧ Below w.heap.size w w' := by
  have HR0 := Aside0.mk hr0
  have H5 := Aside0.mk h5
  clear hr0 h5
  by_cases hL : (100 : Int) < (l0.length : Int) ∨ (300 : Int) < (frm.size : Int)
  · by_cases hL1 : (100 : Int) < (l0.length : Int)
    · have hc1 : ((100 : Int) < (l0.length : Int)) = True := eq_true hL1
      have hc1n : (100 < l0.length) = True := eq_true (by omega)
      clear hL hL1
      go_enter Try.func4, Try.ntmps4
      go_wp2_with fail
      obtain ⟨w1, hw1⟩ : ∃ W, W = w.alloc (Obj.cells #[.int .u8 stop] 5) := ⟨_, rfl⟩
      have B1 : Aside0 (Below w.heap.size w w1) := ⟨by rw [hw1]; exact below_alloc (Below.refl _ _) _⟩
      rw [← hw1]
      clear hw1
      refine (awake_calls w1).mono ?_
      rintro e w2 ⟨rfl, hb⟩
      have B2 := Aside0.mk (below_step B1.out hb)
      clear hb
      go_wp2
      go_ret
      exact ⟨rfl, B2.out⟩
    · have hc1 : ((100 : Int) < (l0.length : Int)) = False := eq_false hL1
      have hc1n : (100 < l0.length) = False := eq_false (by omega)
      have hc2 : ((300 : Int) < (frm.size : Int)) = True := eq_true (hL.resolve_left hL1)
      have hc2n : (300 < frm.size) = True := eq_true (by have := hL.resolve_left hL1; omega)
      clear hL hL1
      go_enter Try.func4, Try.ntmps4
      go_wp2_with fail
      obtain ⟨w1, hw1⟩ : ∃ W, W = w.alloc (Obj.cells #[.int .u8 stop] 5) := ⟨_, rfl⟩
      have B1 : Aside0 (Below w.heap.size w w1) := ⟨by rw [hw1]; exact below_alloc (Below.refl _ _) _⟩
      rw [← hw1]
      clear hw1
      refine (awake_calls w1).mono ?_
      rintro e w2 ⟨rfl, hb⟩
      have B2 := Aside0.mk (below_step B1.out hb)
      clear hb
      go_wp2
      go_ret
      exact ⟨rfl, B2.out⟩
  · have hL1 : ((100 : Int) < (l0.length : Int)) = False := eq_false (fun h => hL (.inl h))
    have hL1n : (100 < l0.length) = False := eq_false (fun h => hL (.inl (by omega)))
    have hL2 : ((300 : Int) < (frm.size : Int)) = False := eq_false (fun h => hL (.inr h))
    have hL2n : (300 < frm.size) = False := eq_false (fun h => hL (.inr (by omega)))
    have HL : Aside0 (l0.length ≤ 100) := ⟨by have : ¬ (100 : Int) < (l0.length : Int) := fun h => hL (.inl h); omega⟩
    clear hL
    go_enter Try.func4, Try.ntmps4
    go_wp2_with fail
    obtain ⟨w1, hw1⟩ : ∃ W, W = w.alloc (Obj.cells #[.int .u8 stop] 5) := ⟨_, rfl⟩
    have hs1 : w1.heap[w.heap.size]? = some (.cells #[.int .u8 stop] 5 (0, 0)) := by rw [hw1]; exact blk_new _ _
    have hb1 : Below w.heap.size w w1 := by rw [hw1]; exact below_alloc (Below.refl _ _) _
    rw [← hw1]
    have B1 := Aside0.mk hb1
    have S1 := Aside0.mk hs1
    clear hw1 hb1 hs1
    refine (awake_calls w1).mono ?_
    rintro e w2 ⟨rfl, hb⟩
    have B2 := Aside0.mk (below_step B1.out hb)
    have S2 := Aside0.mk (blk_below S1.out hb)
    clear hb
    go_wp2_with fail
    clear hL1 hL1n hL2 hL2n
    refine (GroveSI.New_calls byt All 19 (fun q => q < w2.heap.size ∨ some q = (Value.slice none 0 0).ownBlock) w2 (fun q h => h.elim id (fun h => by simp [Value.ownBlock] at h))).mono ?_
    rintro e w3 ⟨rfl, hg, hb⟩
    have G3 := Aside0.mk hg
    have B3 := Aside0.mk (below_step B2.out hb)
    have Z3 := Aside0.mk (And.intro (blk_lt S2.out) hb.size)
    have S3 := Aside0.mk (blk_below S2.out hb)
    have hnq := fun wx => run_eql_ptr_nil (P := Try.prog) wx 42 93 ⟨w2.heap.size, 0, none⟩ Try.underlying42
    clear hg hb
    go_wp2_with fail
    clear hnq
    go_loopw [8, 9] (fun ks i wr => ∃ (j : Nat) (lst : List (ByteArray × Int)) (A : Option Addr) (c : Nat), j ≤ l0.length ∧ i = .int .i64 (j : Int) ∧ ks = .slice A lst.length c ∧ lst.length ≤ j ∧ lst.length ≤ c ∧
      Aside0 (Kd.string.R 9 wr w3.heap.size (fun k => some k = (Value.slice A lst.length c).ownBlock) (.slice A lst.length c) (lst.map (·.1))) ∧
      Aside0 (GroveSI.Grv byt All w2.heap.size 19 (fun q => q < w2.heap.size ∨ some q = (Value.slice A lst.length c).ownBlock) lst wr) ∧ Aside0 (On (fun q => ¬ q < w2.heap.size) w3 wr)) (fun _ i _ => l0.length - (intOf i).toNat)
    case atStart => exact ⟨0, [], none, 0, Nat.zero_le _, rfl, rfl, Nat.le_refl _, Nat.le_refl _, ⟨Kd.R_nil _ _ _ _ _⟩, G3, ⟨On.refl _ _⟩⟩
    case round =>
      obtain ⟨j, lst, A, c, hj, rfl, rfl, hlj, hlc, HR, HG, HO⟩ := hrel
      generalize hwa : wr = wa at *
      clear hwa
      obtain ⟨ks, hks⟩ : ∃ ks, ks = lst.map (·.1) := ⟨_, rfl⟩
      have hkl : ks.length = lst.length := by rw [hks, List.length_map]
      rw [← hks] at HR
      have HKS := Aside0.mk (And.intro hks hkl)
      clear hks
      by_cases hlt : j < l0.length
      · have hc1 : ((j : Int) < (l0.length : Int)) = True := eq_true (by omega)
        have hc1n : (j < l0.length) = True := eq_true (by omega)
        have q0 : 0 ≤ (j : Int) := by omega
        have q1 : (j : Int) < (l0.length : Int) := by omega
        have HBW : Aside0 (Below w.heap.size w wa) := ⟨((On.of_below B3.out).trans HO.out).to_below (Nat.le_refl _) (fun k (h : ¬ k < w2.heap.size) => by have := Z3.out; omega)⟩
        obtain ⟨ad, rfl, ce⟩ := Kd.at_string (Kd.C_below HR0.out HBW.out) (j : Int) q0 q1
        have HAV : Aside0 (∀ q, (q < w2.heap.size ∨ some q = (Value.slice A lst.length c).ownBlock) → q < wa.heap.size) := ⟨fun q h => h.elim (fun h => by have := Z3.out; have := HO.out.size; omega) (fun h => (Kd.R_bound HR.out).1 q h.symm |>.2.2.1)⟩
        obtain ⟨x, hx⟩ : ∃ x, x = rdOf ByteArray.empty l0 (j : Int) := ⟨_, rfl⟩
        rw [← hx, Int.toNat_natCast] at ce
        replace q0 := eq_true q0
        replace q1 := eq_true q1
        have HX0 := Aside0.mk hx
        have HLT := Aside0.mk hlt
        have HJ := Aside0.mk (And.intro hlj hlc)
        have HC := Aside0.mk (Kd.R_reads' HR.out).2.2
        have hw : wrap64 ((j : Int) + 1) = ((j + 1 : Nat) : Int) := by have := HL.out; unfold wrap64; omega
        have HW := Aside0.mk hw
        clear hj hlt hlj hlc hx hw
        by_cases hsz : (300 : Int) < (x.size : Int)
        · have hs1 : ((300 : Int) < (x.size : Int)) = True := eq_true hsz
          have hs1n : (300 < x.size) = True := eq_true (by omega)
          clear hsz
          go_wp2
          go_ret
          exact ⟨rfl, HBW.out⟩
        · have hs1 : ((300 : Int) < (x.size : Int)) = False := eq_false hsz
          have hs1n : (300 < x.size) = False := eq_false (by omega)
          clear hsz
          go_wp2_with fail
          clear hs1 hs1n
          go_loopw [10] (fun k wr2 => ∃ p : Nat, p ≤ pos x (ks) ∧ k = .int .i64 (p : Int) ∧ Aside0 (Below wa.heap.size wa wr2)) (fun k _ => lst.length + 1 - (intOf k).toNat)
          case atStart => exact ⟨0, Nat.zero_le _, rfl, ⟨Below.refl _ _⟩⟩
          case round =>
            obtain ⟨p, hp, rfl, HB2⟩ := hrel
            have hpl := pos_le x (ks)
            rw [hkl] at hpl
            have ce2 := cell_keep HB2.out ce
            by_cases hpn : p < lst.length
            · have hc2 : ((p : Int) < (lst.length : Int)) = True := eq_true (by omega)
              have hc2n : (p < lst.length) = True := eq_true hpn
              have p0 : 0 ≤ (p : Int) := by omega
              have p1 : (p : Int) < (ks.length : Int) := by rw [hkl]; omega
              obtain ⟨ak, hAk, ck⟩ := Kd.at_string (Kd.C_below HC.out HB2.out) (p : Int) p0 p1
              subst hAk
              rw [hkl] at p1
              replace p0 := eq_true p0
              replace p1 := eq_true p1
              obtain ⟨y, hy⟩ : ∃ y, y = (ks).getD p ByteArray.empty := ⟨_, rfl⟩
              rw [show rdOf ByteArray.empty (ks) (p : Int) = y from hy.symm, Int.toNat_natCast] at ck
              cases hxy : Op.bytesLess y.toList x.toList with
              | true =>
                have HP : Aside0 (p + 1 ≤ pos x (ks)) := ⟨by
                  apply Classical.byContradiction
                  intro hn
                  have e : p = pos x (ks) := by omega
                  have := pos_at x (ks) (by rw [hkl]; omega)
                  rw [← e, ← hy] at this
                  rw [show Op.bytesLess y.toList x.toList = false from this] at hxy
                  cases hxy⟩
                have hwp : wrap64 ((p : Int) + 1) = ((p + 1 : Nat) : Int) := by have := HL.out; have := HJ.out.1; have := HLT.out; unfold wrap64; omega
                have HWP := Aside0.mk hwp
                have HPL := Aside0.mk (And.intro hpl hpn)
                clear hp hpl hpn hy hwp
                go_wp2_with fail
                repeat (go_quiet (fail); try go_wp2)
                refine ⟨⟨p + 1, HP.out, by rw [HWP.out], ⟨pw_below_drewN HB2.out _⟩⟩, ?_⟩
                rw [HWP.out]
                simp only [intOf]
                have := HPL.out
                omega
              | false =>
                have HP : Aside0 (p = pos x ks) := ⟨by
                  apply Classical.byContradiction
                  intro hn
                  have := pos_lt x ks p (by omega)
                  rw [← hy] at this
                  rw [show Op.bytesLess y.toList x.toList = true from this] at hxy
                  cases hxy⟩
                have HPL := Aside0.mk (And.intro hpl hpn)
                have HY := Aside0.mk hy
                clear hp hpl hpn hy
                cases heq : (y.toList == x.toList) with
                | true =>
                  have HT : Aside0 ((putL byt x (j : Int) lst).2 = true) := ⟨by rw [(put_keys x (j : Int) lst).1, ← HKS.out.1, ← HP.out, ← HY.out, heq, decide_eq_true HPL.out.2]; rfl⟩
                  go_wp2_with fail
                  repeat (go_quiet (fail); try go_wp2_with fail)
                  refine (GroveSI.Put_calls 19 ent1 byt All cmpX ordr_byt w2.heap.size _ lst x (j : Int) trivial _ (HG.out.below (pw_below_drewN HB2.out _)) (fun q h => Nat.lt_of_lt_of_le (HAV.out q h) (pw_below_drewN HB2.out _).size) (by have := HJ.out.1; have := HLT.out; have := HL.out; omega)).mono ?_
                  rintro e wp ⟨rfl, hg, ho⟩
                  rw [HT.out]
                  have hlen := putL_len (cmp := byt) x (j : Int) lst
                  rw [HT.out] at hlen
                  have HR9 := Aside0.mk (str_keep (Kd.R_below HR.out (pw_below_drewN HB2.out _)) ho (fun q h hn => hn (.inr h)))
                  have G9 := Aside0.mk hg
                  have O9 : Aside0 (On (fun q => ¬ q < w2.heap.size) w3 wp) := ⟨(HO.out.trans (On.of_below (pw_below_drewN HB2.out _))).trans (ho.mono (fun q h hv => h (.inl hv)))⟩
                  have HLEN : Aside0 ((putL byt x (j : Int) lst).1.length = lst.length) := ⟨hlen⟩
                  have HMAP : Aside0 ((putL byt x (j : Int) lst).1.map (·.1) = ks) := ⟨by rw [(put_keys x (j : Int) lst).2.1 HT.out, HKS.out.1]⟩
                  clear hg ho hlen
                  go_wp2_with fail
                  go_roundw
                  case rel =>
                    refine ⟨j + 1, (putL byt x (j : Int) lst).1, _, c, HLT.out, by rw [HW.out], by rw [HLEN.out], by rw [HLEN.out]; have := HJ.out.1; omega, by rw [HLEN.out]; exact HJ.out.2, ?_, ?_, O9⟩
                    · rw [HLEN.out, HMAP.out]; exact HR9
                    · rw [HLEN.out]; exact G9
                  case measure => have := HLT.out; rw [HW.out]; simp only [intOf]; omega
                | false =>
                  have HT : Aside0 ((putL byt x (j : Int) lst).2 = false) := ⟨by rw [(put_keys x (j : Int) lst).1, ← HKS.out.1, ← HP.out, ← HY.out, heq, Bool.and_false]⟩
                  go_wp2_with fail
                  repeat (go_quiet (fail); try go_wp2_with fail)
                  refine (GroveSI.Put_calls 19 ent1 byt All cmpX ordr_byt w2.heap.size _ lst x (j : Int) trivial _ (HG.out.below (pw_below_drewN HB2.out _)) (fun q h => Nat.lt_of_lt_of_le (HAV.out q h) (pw_below_drewN HB2.out _).size) (by have := HJ.out.1; have := HLT.out; have := HL.out; omega)).mono ?_
                  rintro e wp ⟨rfl, hg, ho⟩
                  rw [HT.out]
                  have hlen := putL_len (cmp := byt) x (j : Int) lst
                  rw [HT.out] at hlen
                  have HR9 := Aside0.mk (str_keep (Kd.R_below HR.out (pw_below_drewN HB2.out _)) ho (fun q h hn => hn (.inr h)))
                  have G9 := Aside0.mk hg
                  have O9 : Aside0 (On (fun q => ¬ q < w2.heap.size) w3 wp) := ⟨(HO.out.trans (On.of_below (pw_below_drewN HB2.out _))).trans (ho.mono (fun q h hv => h (.inl hv)))⟩
                  have HLEN : Aside0 ((putL byt x (j : Int) lst).1.length = lst.length + 1) := ⟨hlen⟩
                  have HMAP : Aside0 ((putL byt x (j : Int) lst).1.map (·.1) = ks.take p ++ x :: ks.drop p) := ⟨by rw [(put_keys x (j : Int) lst).2.2 HT.out, ← HKS.out.1, ← HP.out]⟩
                  clear hg ho hlen
                  go_wp2_with fail
                  have PLE : Aside0 (p ≤ lst.length) := ⟨by have := HP.out; have := HPL.out; omega⟩
                  have SB : Aside0 (w3.heap.size ≤ wp.heap.size) := ⟨O9.out.size⟩
                  have HLN : Aside0 ((([] : List ByteArray).length + p) * 16 ≤ 140737488355328 ∧ (([] ++ ks.take p).length + 1) * 16 ≤ 140737488355328 ∧ ((([] ++ ks.take p) ++ [x]).length + (lst.length - p)) * 16 ≤ 140737488355328) := ⟨by
                    have := PLE.out; have := HJ.out.1; have := HLT.out; have := HL.out; have := HKS.out.2
                    simp only [List.length_append, List.length_take, List.length_nil, List.length_cons]
                    omega⟩
                  obtain ⟨i9, hi9, _, hsz9, _⟩ := info_parts info_str
                  have HCT0 := cut_to (P := Try.prog) 41 9 .i64 Try.underlying41 hi9 (some ak) lst.length c (p : Int) (by omega) (by have := PLE.out; omega) HJ.out.2
                  have HCF0 := cut_from (P := Try.prog) 41 9 .i64 Try.underlying41 hi9 1 hsz9 (some ak) lst.length c (p : Int) (by omega) (by have := PLE.out; omega)
                  rw [Int.toNat_natCast] at HCT0 HCF0
                  obtain ⟨A97, hA97⟩ : ∃ A' : Option Addr, A' = (if c = p then (some ak) else ((some ak) : Option Addr).map (·.add (p * 1))) := ⟨_, rfl⟩
                  obtain ⟨n97, hn97⟩ : ∃ n : Nat, n = lst.length - p := ⟨_, rfl⟩
                  obtain ⟨m97, hm97⟩ : ∃ n : Nat, n = c - p := ⟨_, rfl⟩
                  have HO5 : Aside0 (Kd.R Kd.string 9 wp w3.heap.size (fun _ => True) (.slice (some ak) lst.length c) ks) := ⟨Kd.R_mono HR9.out (fun _ _ => trivial)⟩
                  have HCD : Aside0 (∀ wx, Kd.R Kd.string 9 wx w3.heap.size (fun _ => True) (.slice (some ak) lst.length c) ks → Kd.C Kd.string wx A97 n97 (ks.drop p)) := ⟨fun wx hr => by have := Kd.C_drop (m := p) (c := c) (Kd.R_reads' hr).2.2 (by have := PLE.out; have := HKS.out.2; omega) (by rw [HKS.out.2]; exact HJ.out.2); rw [List.length_drop, HKS.out.2] at this; rw [hA97, hn97]; exact this⟩
                  have HCK : Aside0 (∀ wx, Kd.R Kd.string 9 wx w3.heap.size (fun _ => True) (.slice (some ak) lst.length c) ks → Kd.C Kd.string wx (some ak) p (ks.take p)) := ⟨fun wx hr => by have := Kd.C_take (m := p) (Kd.R_reads' hr).2.2 (by have := PLE.out; have := HKS.out.2; omega); rw [List.length_take, Nat.min_eq_left (by have := PLE.out; have := HKS.out.2; omega)] at this; exact this⟩
                  rw [← hn97] at HLN
                  rw [← hA97, ← hn97, ← hm97] at HCF0
                  have HCT := Aside0.mk HCT0
                  have HCF := Aside0.mk HCF0
                  have C0 : Aside0 (wp.cell? (ad.add j) = some (.string x)) := ⟨by
                    obtain ⟨ad', he, ce'⟩ := Kd.at_string (Kd.C_below HR0.out (((On.of_below B3.out).trans O9.out).to_below (Nat.le_refl _) (fun k (h : ¬ k < w2.heap.size) => by have := Z3.out; omega))) (j : Int) (by omega) (by have := HLT.out; omega)
                    obtain rfl := Option.some.inj he
                    rw [← HX0.out, Int.toNat_natCast] at ce'
                    exact ce'⟩
                  have r16 : ((0 : Int) ≤ (j : Int)) = True := eq_true (by omega)
                  have r17 : ((j : Int) < (l0.length : Int)) = True := eq_true (by have := HLT.out; omega)
                  clear HCT0 HCF0 hA97 hn97 hm97 hi9 hsz9
                  refine wp_region_steps 16 rfl rfl (by kernel_rfl) (fun LL a wx => ∃ x84 : Value, ∃ x88 : Value, ∃ x94 : Value, ∃ x98 : Value, ∃ cur : Value, ∃ x5 : Value, ∃ g93 : Nat, ∃ z : Nat → Value, Aside0 (a = { tmps := List.toArray (.slice (some ad) l0.length c0 :: .string frm :: .int .u8 stop :: undef :: undef :: .pointer (some ⟨w.heap.size, 0, none⟩) :: u6 :: .pointer (some ⟨w2.heap.size, 0, none⟩) :: z 8 :: .int .i64 (j : Int) :: .int .i64 (p : Int) :: .bool false :: undef :: undef :: undef :: undef :: .bool true :: .bool false :: .slice (some ad) l0.length c0 :: .int .i64 (l0.length : Int) :: .bool false :: .bool false :: .string frm :: .int .i64 (frm.size : Int) :: .bool false :: .bool false :: .pointer (some ⟨w2.heap.size, 0, none⟩) :: .pointer (some ⟨w2.heap.size, 0, none⟩) :: .bool false :: .int .i64 (j : Int) :: .slice (some ad) l0.length c0 :: .int .i64 (l0.length : Int) :: .bool true :: u33 :: u34 :: .slice (some ad) l0.length c0 :: .int .i64 (j : Int) :: .pointer (some (ad.add j)) :: .string x :: .int .i64 (x.size : Int) :: .bool false :: .int .i64 (p : Int) :: .slice (some ak) lst.length c :: .int .i64 (lst.length : Int) :: .bool true :: .bool true :: .slice (some ak) lst.length c :: .int .i64 (p : Int) :: .pointer (some (ak.add p)) :: .string y :: .slice (some ad) l0.length c0 :: .int .i64 (j : Int) :: .pointer (some (ad.add j)) :: .string x :: .bool false :: .bool false :: u56 :: u57 :: .int .i64 (p : Int) :: .slice (some ak) lst.length c :: .int .i64 (lst.length : Int) :: .bool true :: .bool true :: .slice (some ak) lst.length c :: .int .i64 (p : Int) :: .pointer (some (ak.add p)) :: .string y :: .slice (some ad) l0.length c0 :: .int .i64 (j : Int) :: .pointer (some (ad.add j)) :: .string x :: .bool false :: .bool false :: .pointer (some ⟨w2.heap.size, 0, none⟩) :: .slice (some ad) l0.length c0 :: .int .i64 (j : Int) :: .pointer (some (ad.add j)) :: .string x :: .int .i64 (j : Int) :: .bool false :: .bool false :: .bool false :: .bool false :: .bool true :: z 84 :: z 85 :: z 86 :: z 87 :: z 88 :: z 89 :: z 90 :: z 91 :: z 92 :: z 93 :: z 94 :: z 95 :: z 96 :: z 97 :: z 98 :: undef :: undef :: undef :: undef :: undef :: undef :: undef :: undef :: undef :: undef :: undef :: undef :: undef :: undef :: undef :: undef :: undef :: undef :: undef :: undef :: undef :: undef :: undef :: undef :: undef :: undef :: undef :: undef :: undef :: undef :: undef :: undef :: undef :: undef :: undef :: undef :: undef :: undef :: undef :: undef :: undef :: undef :: undef :: undef :: undef :: undef :: undef :: undef :: undef :: undef :: undef :: undef :: undef :: undef :: undef :: undef :: []), defers := [] } ∧ Tab LL z [(0, 84, x84), (1, 85, .slice (some ak) lst.length c), (2, 86, .int .i64 (p : Int)), (3, 87, .slice (some ak) p c), (4, 88, x88), (5, 89, .slice (some ad) l0.length c0), (6, 90, .int .i64 (j : Int)), (7, 91, .pointer (some (ad.add j))), (8, 92, .string x), (9, 93, .slice (some ⟨g93, 0, none⟩) 1 1), (10, 94, x94), (11, 95, .slice (some ak) lst.length c), (12, 96, .int .i64 (p : Int)), (13, 97, .slice A97 n97 m97), (14, 98, x98), (15, 8, x5)] ∧ Aside0 (Below wp.heap.size wp wx) ∧ Aside0 (LL 15 = false → z 8 = .slice (some ak) lst.length c) ∧ Aside0 (LL 15 = true → LL 1 = true ∧ LL 11 = true) ∧ Aside0 (LL 4 = true → LL 0 = true) ∧ Aside0 (LL 10 = true → LL 4 = true) ∧ Aside0 (LL 14 = true → LL 10 = true) ∧ Aside0 (LL 10 = true → LL 9 = true) ∧ Aside0 (LL 0 = true → LL 4 = false → cur = x84 ∧ Kd.R Kd.string 9 wx wp.heap.size (fun _ => True) cur []) ∧ Aside0 (LL 4 = true → LL 10 = false → cur = x88 ∧ Kd.R Kd.string 9 wx wp.heap.size (fun _ => True) cur ([] ++ (ks.take p))) ∧ Aside0 (LL 10 = true → LL 14 = false → cur = x94 ∧ Kd.R Kd.string 9 wx wp.heap.size (fun _ => True) cur (([] ++ (ks.take p)) ++ [x])) ∧ Aside0 (LL 14 = true → cur = x98 ∧ Kd.R Kd.string 9 wx wp.heap.size (fun _ => True) cur ((([] ++ (ks.take p)) ++ [x]) ++ (ks.drop p))) ∧ Aside0 (LL 0 = true → ∀ k, cur.ownBlock = some k → k < wx.heap.size) ∧ Aside0 (LL 9 = true → wx.heap[g93]? = some (.cells #[.string x] 9 (0, 0)) ∧ (LL 0 = true → cur.ownBlock ≠ some g93)) ∧ Aside0 (LL 15 = true → LL 14 = true ∧ x5 = x98))) ?_ ?_ ?_
                  · exact ⟨undef, undef, undef, undef, undef, undef, 0, (put1 (put1 (put1 (put1 (put1 (put1 (put1 (put1 (put1 (put1 (put1 (put1 (put1 (put1 (put1 (put1 (fun _ => undef) 8 (.slice (some ak) lst.length c)) 84 (u84)) 85 (u85)) 86 (u86)) 87 (u87)) 88 (u88)) 89 (u89)) 90 (u90)) 91 (u91)) 92 (u92)) 93 (u93)) 94 (u94)) 95 (u95)) 96 (u96)) 97 (u97)) 98 (u98)), ⟨rfl, Tab.start 16 rfl rfl, ⟨below_drew (Below.refl _ _)⟩, ⟨fun _ => rfl⟩, ⟨fun h => absurd h (by decide)⟩, ⟨fun h => absurd h (by decide)⟩, ⟨fun h => absurd h (by decide)⟩, ⟨fun h => absurd h (by decide)⟩, ⟨fun h => absurd h (by decide)⟩, ⟨fun h => absurd h (by decide)⟩, ⟨fun h => absurd h (by decide)⟩, ⟨fun h => absurd h (by decide)⟩, ⟨fun h => absurd h (by decide)⟩, ⟨fun h => absurd h (by decide)⟩, ⟨fun h => absurd h (by decide)⟩, ⟨fun h => absurd h (by decide)⟩⟩⟩
                  · refine Steps.cons ?_ (Steps.cons ?_ (Steps.cons ?_ (Steps.cons ?_ (Steps.cons ?_ (Steps.cons ?_ (Steps.cons ?_ (Steps.cons ?_ (Steps.cons ?_ (Steps.cons ?_ (Steps.cons ?_ (Steps.cons ?_ (Steps.cons ?_ (Steps.cons ?_ (Steps.cons ?_ (Steps.cons ?_ (Steps.nil))))))))))))))))
                    · intro LL a wx hI hLk hd K' hK
                      obtain ⟨x84, x88, x94, x98, cur, x5, g93, z, hI⟩ := hI
                      obtain rfl := hI.out.1
                      have hb := hI.out.2.2.1
                      have p4 := hI.out.2.2.2.2.2.1
                      have p10 := hI.out.2.2.2.2.2.2.1
                      have p14 := hI.out.2.2.2.2.2.2.2.1
                      have h93 := hI.out.2.2.2.2.2.2.2.2.2.2.2.2.2.2.1
                      have hb0 := hb.out
                      refine Kd.R_lit_step Kd.string (w0 := wx) wx.heap.size 9 (by rfl) (N := 84) rfl (xs := ([] : List ByteArray)) (inner := []) (ok := fun _ => True) (okp := fun _ => True) (by first | (go_simp; done) | (go_simp; rfl)) (Reps.none _ _) (fun _ hk => hk) trivial (Below.refl _ _) (Nat.le_refl _) (by simp) ?_
                      intro x' w3 ho hb1 hg1 hn1
                      exact hK.out _ _ ⟨x', x88, x94, x98, x', x5, g93, (put1 z 84 x'), ⟨rfl, hI.out.2.1.upd 0 rfl rfl rfl rfl, ⟨hb.out.grown hg1 hb.out.size (fun q e => by cases e)⟩, hI.out.2.2.2.1, hI.out.2.2.2.2.1, ⟨fun _ => rfl⟩, hI.out.2.2.2.2.2.2.1, hI.out.2.2.2.2.2.2.2.1, hI.out.2.2.2.2.2.2.2.2.1, ⟨fun _ _ => ⟨rfl, Kd.R_lower ho hb.out.size⟩⟩, ⟨fun a => absurd (p4.out a) (by rw [hLk]; decide)⟩, ⟨fun a => absurd (p4.out (p10.out a)) (by rw [hLk]; decide)⟩, ⟨fun a => absurd (p4.out (p10.out (p14.out a))) (by rw [hLk]; decide)⟩, ⟨fun _ => Kd.R_lt ho⟩, ⟨fun h9 => ⟨(hg1.block g93 (blk_lt (h93.out h9).1) (fun e => by cases e)).trans (h93.out h9).1, fun _ e => by have h1 := Kd.R_base ho g93 e; have h2 := blk_lt (h93.out h9).1; omega⟩⟩, hI.out.2.2.2.2.2.2.2.2.2.2.2.2.2.2.2⟩⟩
                    · intro LL a wx hI hLk hd K' hK
                      obtain ⟨x84, x88, x94, x98, cur, x5, g93, z, hI⟩ := hI
                      obtain rfl := hI.out.1
                      have h5 := hI.out.2.2.2.1
                      have hz := hI.out.2.2.2.2.1
                      have hu : z 8 = .slice (some ak) lst.length c := h5.out (flag_off (fun h => (hz.out h).1) hLk)
                      rw [if_pos (by rfl)]
                      go_simp
                      exact hK.out _ _ ⟨x84, x88, x94, x98, cur, x5, g93, (put1 (put1 z 8 (.slice (some ak) lst.length c)) 85 (.slice (some ak) lst.length c)), ⟨rfl, (hI.out.2.1.same (s := 8) (v := .slice (some ak) lst.length c) hu).upd 1 rfl rfl rfl rfl, hI.out.2.2.1, ⟨fun _ => rfl⟩, ⟨fun h => ⟨rfl, upd_old (hz.out h).2⟩⟩, hI.out.2.2.2.2.2.1, hI.out.2.2.2.2.2.2.1, hI.out.2.2.2.2.2.2.2.1, hI.out.2.2.2.2.2.2.2.2.1, hI.out.2.2.2.2.2.2.2.2.2.1, hI.out.2.2.2.2.2.2.2.2.2.2.1, hI.out.2.2.2.2.2.2.2.2.2.2.2.1, hI.out.2.2.2.2.2.2.2.2.2.2.2.2.1, hI.out.2.2.2.2.2.2.2.2.2.2.2.2.2.1, hI.out.2.2.2.2.2.2.2.2.2.2.2.2.2.2.1, hI.out.2.2.2.2.2.2.2.2.2.2.2.2.2.2.2⟩⟩
                    · intro LL a wx hI hLk hd K' hK
                      obtain ⟨x84, x88, x94, x98, cur, x5, g93, z, hI⟩ := hI
                      obtain rfl := hI.out.1
                      rw [if_pos (by rfl)]
                      go_simp
                      exact hK.out _ _ ⟨x84, x88, x94, x98, cur, x5, g93, (put1 z 86 (.int .i64 (p : Int))), ⟨rfl, hI.out.2.1.upd 2 rfl rfl rfl rfl, hI.out.2.2.1, hI.out.2.2.2.1, hI.out.2.2.2.2.1, hI.out.2.2.2.2.2.1, hI.out.2.2.2.2.2.2.1, hI.out.2.2.2.2.2.2.2.1, hI.out.2.2.2.2.2.2.2.2.1, hI.out.2.2.2.2.2.2.2.2.2.1, hI.out.2.2.2.2.2.2.2.2.2.2.1, hI.out.2.2.2.2.2.2.2.2.2.2.2.1, hI.out.2.2.2.2.2.2.2.2.2.2.2.2.1, hI.out.2.2.2.2.2.2.2.2.2.2.2.2.2.1, hI.out.2.2.2.2.2.2.2.2.2.2.2.2.2.2.1, hI.out.2.2.2.2.2.2.2.2.2.2.2.2.2.2.2⟩⟩
                    · intro LL a wx hI hLk hd K' hK
                      obtain ⟨x84, x88, x94, x98, cur, x5, g93, z, hI⟩ := hI
                      obtain rfl := hI.out.1
                      have e1 := hI.out.2.1.at 1 rfl (hd 1 rfl)
                      have e2 := hI.out.2.1.at 2 rfl (hd 2 rfl)
                      have hcut := HCT.out
                      rw [if_pos (by rfl)]
                      go_simp
                      exact hK.out _ _ ⟨x84, x88, x94, x98, cur, x5, g93, (put1 (put1 (put1 z 85 (.slice (some ak) lst.length c)) 86 (.int .i64 (p : Int))) 87 (.slice (some ak) p c)), ⟨rfl, ((hI.out.2.1.same (s := 85) (v := .slice (some ak) lst.length c) e1).same (s := 86) (v := .int .i64 (p : Int)) e2).upd 3 rfl rfl rfl rfl, hI.out.2.2.1, hI.out.2.2.2.1, hI.out.2.2.2.2.1, hI.out.2.2.2.2.2.1, hI.out.2.2.2.2.2.2.1, hI.out.2.2.2.2.2.2.2.1, hI.out.2.2.2.2.2.2.2.2.1, hI.out.2.2.2.2.2.2.2.2.2.1, hI.out.2.2.2.2.2.2.2.2.2.2.1, hI.out.2.2.2.2.2.2.2.2.2.2.2.1, hI.out.2.2.2.2.2.2.2.2.2.2.2.2.1, hI.out.2.2.2.2.2.2.2.2.2.2.2.2.2.1, hI.out.2.2.2.2.2.2.2.2.2.2.2.2.2.2.1, hI.out.2.2.2.2.2.2.2.2.2.2.2.2.2.2.2⟩⟩
                    · intro LL a wx hI hLk hd K' hK
                      obtain ⟨x84, x88, x94, x98, cur, x5, g93, z, hI⟩ := hI
                      obtain rfl := hI.out.1
                      have e0 := hI.out.2.1.at 0 rfl (hd 0 rfl)
                      have e3 := hI.out.2.1.at 3 rfl (hd 3 rfl)
                      have hb := hI.out.2.2.1
                      have h5 := hI.out.2.2.2.1
                      have p10 := hI.out.2.2.2.2.2.2.1
                      have p14 := hI.out.2.2.2.2.2.2.2.1
                      have h0 := hI.out.2.2.2.2.2.2.2.2.2.1
                      have h4 := hI.out.2.2.2.2.2.2.2.2.2.2.1
                      have hlt := hI.out.2.2.2.2.2.2.2.2.2.2.2.2.2.1
                      have h93 := hI.out.2.2.2.2.2.2.2.2.2.2.2.2.2.2.1
                      have hr0 := h0.out (hd 0 rfl) hLk
                      have hq := Kd.R_base hr0.2
                      have hcx := hlt.out (hd 0 rfl)
                      refine Kd.R_append_rows_step Kd.string (Rr := Kd.K Kd.string wx) (w0 := wx) wp.heap.size (by rfl) (.tmp 84) (.tmp 87) 41 9 (.string ⟨#[]⟩) 16 rfl Try.underlying41 info_str rfl (by decide) (by omega) cur [] (ks.take p) (some ak) p c (fun _ => True) (fun _ => False) (e0.trans hr0.1.symm) e3 (hr0.2) (HCK.out _ (Kd.R_below HO5.out hb.out)) (fun _ _ h => h) (fun _ h => h.elim) (fun _ _ => trivial) (Below.refl _ _) hb.out.size HLN.out.1 ?_
                      intro x' w3 ho hb1 hg1 hat1
                      exact hK.out _ _ ⟨x84, x', x94, x98, x', x5, g93, (put1 z 88 x'), ⟨rfl, hI.out.2.1.upd 4 rfl rfl rfl rfl, ⟨hb.out.grown hg1 hb.out.size (fun q e => hq q e)⟩, hI.out.2.2.2.1, hI.out.2.2.2.2.1, ⟨fun _ => hd 0 rfl⟩, ⟨fun _ => rfl⟩, hI.out.2.2.2.2.2.2.2.1, hI.out.2.2.2.2.2.2.2.2.1, ⟨fun _ b => Bool.noConfusion (show true = false from b)⟩, ⟨fun _ _ => ⟨rfl, ho⟩⟩, ⟨fun a => absurd (p10.out a) (by rw [hLk]; decide)⟩, ⟨fun a => absurd (p10.out (p14.out a)) (by rw [hLk]; decide)⟩, ⟨fun _ => Kd.R_lt ho⟩, ⟨fun h9 => ⟨(hg1.block g93 (blk_lt (h93.out h9).1) (fun e => (h93.out h9).2 (hd 0 rfl) e.symm)).trans (h93.out h9).1, fun _ e => by rcases hat1 with h2 | ⟨b, h2, h3⟩; exact (h93.out h9).2 (hd 0 rfl) (h2.symm.trans e); have h4 := h2.symm.trans e; injection h4 with h4; have h5 := blk_lt (h93.out h9).1; omega⟩⟩, hI.out.2.2.2.2.2.2.2.2.2.2.2.2.2.2.2⟩⟩
                    · intro LL a wx hI hLk hd K' hK
                      obtain ⟨x84, x88, x94, x98, cur, x5, g93, z, hI⟩ := hI
                      obtain rfl := hI.out.1
                      rw [if_pos (by rfl)]
                      go_simp
                      exact hK.out _ _ ⟨x84, x88, x94, x98, cur, x5, g93, (put1 z 89 (.slice (some ad) l0.length c0)), ⟨rfl, hI.out.2.1.upd 5 rfl rfl rfl rfl, hI.out.2.2.1, hI.out.2.2.2.1, hI.out.2.2.2.2.1, hI.out.2.2.2.2.2.1, hI.out.2.2.2.2.2.2.1, hI.out.2.2.2.2.2.2.2.1, hI.out.2.2.2.2.2.2.2.2.1, hI.out.2.2.2.2.2.2.2.2.2.1, hI.out.2.2.2.2.2.2.2.2.2.2.1, hI.out.2.2.2.2.2.2.2.2.2.2.2.1, hI.out.2.2.2.2.2.2.2.2.2.2.2.2.1, hI.out.2.2.2.2.2.2.2.2.2.2.2.2.2.1, hI.out.2.2.2.2.2.2.2.2.2.2.2.2.2.2.1, hI.out.2.2.2.2.2.2.2.2.2.2.2.2.2.2.2⟩⟩
                    · intro LL a wx hI hLk hd K' hK
                      obtain ⟨x84, x88, x94, x98, cur, x5, g93, z, hI⟩ := hI
                      obtain rfl := hI.out.1
                      rw [if_pos (by rfl)]
                      go_simp
                      exact hK.out _ _ ⟨x84, x88, x94, x98, cur, x5, g93, (put1 z 90 (.int .i64 (j : Int))), ⟨rfl, hI.out.2.1.upd 6 rfl rfl rfl rfl, hI.out.2.2.1, hI.out.2.2.2.1, hI.out.2.2.2.2.1, hI.out.2.2.2.2.2.1, hI.out.2.2.2.2.2.2.1, hI.out.2.2.2.2.2.2.2.1, hI.out.2.2.2.2.2.2.2.2.1, hI.out.2.2.2.2.2.2.2.2.2.1, hI.out.2.2.2.2.2.2.2.2.2.2.1, hI.out.2.2.2.2.2.2.2.2.2.2.2.1, hI.out.2.2.2.2.2.2.2.2.2.2.2.2.1, hI.out.2.2.2.2.2.2.2.2.2.2.2.2.2.1, hI.out.2.2.2.2.2.2.2.2.2.2.2.2.2.2.1, hI.out.2.2.2.2.2.2.2.2.2.2.2.2.2.2.2⟩⟩
                    · intro LL a wx hI hLk hd K' hK
                      obtain ⟨x84, x88, x94, x98, cur, x5, g93, z, hI⟩ := hI
                      obtain rfl := hI.out.1
                      have e5 := hI.out.2.1.at 5 rfl (hd 5 rfl)
                      have e6 := hI.out.2.1.at 6 rfl (hd 6 rfl)
                      rw [if_pos (by rfl)]
                      go_simp
                      exact hK.out _ _ ⟨x84, x88, x94, x98, cur, x5, g93, (put1 (put1 (put1 z 89 (.slice (some ad) l0.length c0)) 90 (.int .i64 (j : Int))) 91 (.pointer (some (ad.add j)))), ⟨rfl, ((hI.out.2.1.same (s := 89) (v := .slice (some ad) l0.length c0) e5).same (s := 90) (v := .int .i64 (j : Int)) e6).upd 7 rfl rfl rfl rfl, hI.out.2.2.1, hI.out.2.2.2.1, hI.out.2.2.2.2.1, hI.out.2.2.2.2.2.1, hI.out.2.2.2.2.2.2.1, hI.out.2.2.2.2.2.2.2.1, hI.out.2.2.2.2.2.2.2.2.1, hI.out.2.2.2.2.2.2.2.2.2.1, hI.out.2.2.2.2.2.2.2.2.2.2.1, hI.out.2.2.2.2.2.2.2.2.2.2.2.1, hI.out.2.2.2.2.2.2.2.2.2.2.2.2.1, hI.out.2.2.2.2.2.2.2.2.2.2.2.2.2.1, hI.out.2.2.2.2.2.2.2.2.2.2.2.2.2.2.1, hI.out.2.2.2.2.2.2.2.2.2.2.2.2.2.2.2⟩⟩
                    · intro LL a wx hI hLk hd K' hK
                      obtain ⟨x84, x88, x94, x98, cur, x5, g93, z, hI⟩ := hI
                      obtain rfl := hI.out.1
                      have e7 := hI.out.2.1.at 7 rfl (hd 7 rfl)
                      have hb := hI.out.2.2.1
                      have h0c := cell_keep hb.out C0.out
                      rw [if_pos (by rfl)]
                      go_simp
                      exact hK.out _ _ ⟨x84, x88, x94, x98, cur, x5, g93, (put1 (put1 z 91 (.pointer (some (ad.add j)))) 92 (.string x)), ⟨rfl, (hI.out.2.1.same (s := 91) (v := .pointer (some (ad.add j))) e7).upd 8 rfl rfl rfl rfl, hI.out.2.2.1, hI.out.2.2.2.1, hI.out.2.2.2.2.1, hI.out.2.2.2.2.2.1, hI.out.2.2.2.2.2.2.1, hI.out.2.2.2.2.2.2.2.1, hI.out.2.2.2.2.2.2.2.2.1, hI.out.2.2.2.2.2.2.2.2.2.1, hI.out.2.2.2.2.2.2.2.2.2.2.1, hI.out.2.2.2.2.2.2.2.2.2.2.2.1, hI.out.2.2.2.2.2.2.2.2.2.2.2.2.1, hI.out.2.2.2.2.2.2.2.2.2.2.2.2.2.1, hI.out.2.2.2.2.2.2.2.2.2.2.2.2.2.2.1, hI.out.2.2.2.2.2.2.2.2.2.2.2.2.2.2.2⟩⟩
                    · intro LL a wx hI hLk hd K' hK
                      obtain ⟨x84, x88, x94, x98, cur, x5, g93, z, hI⟩ := hI
                      obtain rfl := hI.out.1
                      have e8 := hI.out.2.1.at 8 rfl (hd 8 rfl)
                      have hb := hI.out.2.2.1
                      have p14 := hI.out.2.2.2.2.2.2.2.1
                      have q10 := hI.out.2.2.2.2.2.2.2.2.1
                      have h0 := hI.out.2.2.2.2.2.2.2.2.2.1
                      have h4 := hI.out.2.2.2.2.2.2.2.2.2.2.1
                      have hlt := hI.out.2.2.2.2.2.2.2.2.2.2.2.2.2.1
                      rw [if_pos (by rfl)]
                      go_simp
                      exact hK.out _ _ ⟨x84, x88, x94, x98, cur, x5, wx.heap.size, (put1 (put1 z 92 (.string x)) 93 (.slice (some ⟨wx.heap.size, 0, none⟩) 1 1)), ⟨rfl, (hI.out.2.1.same (s := 92) (v := .string x) e8).upd 9 rfl rfl rfl rfl, ⟨below_alloc hb.out _⟩, hI.out.2.2.2.1, hI.out.2.2.2.2.1, hI.out.2.2.2.2.2.1, hI.out.2.2.2.2.2.2.1, hI.out.2.2.2.2.2.2.2.1, ⟨fun _ => rfl⟩, ⟨fun a b => ⟨(h0.out a b).1, Kd.R_alloc (h0.out a b).2 _⟩⟩, ⟨fun a b => ⟨(h4.out a b).1, Kd.R_alloc (h4.out a b).2 _⟩⟩, ⟨fun a => absurd (q10.out a) (by rw [hLk]; decide)⟩, ⟨fun a => absurd (q10.out (p14.out a)) (by rw [hLk]; decide)⟩, ⟨fun a k e => Nat.lt_of_lt_of_le (hlt.out a k e) (below_alloc (Below.refl wx.heap.size wx) _).size⟩, ⟨fun _ => ⟨by simpa using heap_alloc_new wx _, fun a e => Nat.lt_irrefl _ (hlt.out a _ e)⟩⟩, hI.out.2.2.2.2.2.2.2.2.2.2.2.2.2.2.2⟩⟩
                    · intro LL a wx hI hLk hd K' hK
                      obtain ⟨x84, x88, x94, x98, cur, x5, g93, z, hI⟩ := hI
                      obtain rfl := hI.out.1
                      have e4 := hI.out.2.1.at 4 rfl (hd 4 rfl)
                      have e9 := hI.out.2.1.at 9 rfl (hd 9 rfl)
                      have hb := hI.out.2.2.1
                      have h5 := hI.out.2.2.2.1
                      have p4 := hI.out.2.2.2.2.2.1
                      have p14 := hI.out.2.2.2.2.2.2.2.1
                      have h4 := hI.out.2.2.2.2.2.2.2.2.2.2.1
                      have hlt := hI.out.2.2.2.2.2.2.2.2.2.2.2.2.2.1
                      have h93 := hI.out.2.2.2.2.2.2.2.2.2.2.2.2.2.2.1
                      have hr0 := h4.out (hd 4 rfl) hLk
                      have hq := Kd.R_base hr0.2
                      have hcx := hlt.out (p4.out (hd 4 rfl))
                      refine Kd.R_append_rows_step Kd.string (Rr := Kd.K Kd.string wx) (w0 := wx) wp.heap.size (by rfl) (.tmp 88) (.tmp 93) 41 9 (.string ⟨#[]⟩) 16 rfl Try.underlying41 info_str rfl (by decide) (by omega) cur ([] ++ (ks.take p)) [x] (some ⟨g93, 0, none⟩) 1 1 (fun _ => True) (fun _ => False) (e4.trans hr0.1.symm) e9 (hr0.2) (row1 (h93.out (hd 9 rfl)).1) (fun _ _ h => h) (fun _ h => h.elim) (fun _ _ => trivial) (Below.refl _ _) hb.out.size HLN.out.2.1 ?_
                      intro x' w3 ho hb1 hg1 hat1
                      exact hK.out _ _ ⟨x84, x88, x', x98, x', x5, g93, (put1 z 94 x'), ⟨rfl, hI.out.2.1.upd 10 rfl rfl rfl rfl, ⟨hb.out.grown hg1 hb.out.size (fun q e => hq q e)⟩, hI.out.2.2.2.1, hI.out.2.2.2.2.1, hI.out.2.2.2.2.2.1, ⟨fun _ => hd 4 rfl⟩, ⟨fun _ => rfl⟩, ⟨fun _ => hd 9 rfl⟩, ⟨fun _ b => absurd (hd 4 rfl) (by rw [show LL 4 = false from b]; decide)⟩, ⟨fun _ b => Bool.noConfusion (show true = false from b)⟩, ⟨fun _ _ => ⟨rfl, ho⟩⟩, ⟨fun a => absurd (p14.out a) (by rw [hLk]; decide)⟩, ⟨fun _ => Kd.R_lt ho⟩, ⟨fun h9 => ⟨(hg1.block g93 (blk_lt (h93.out h9).1) (fun e => (h93.out h9).2 (p4.out (hd 4 rfl)) e.symm)).trans (h93.out h9).1, fun _ e => by rcases hat1 with h2 | ⟨b, h2, h3⟩; exact (h93.out h9).2 (p4.out (hd 4 rfl)) (h2.symm.trans e); have h4 := h2.symm.trans e; injection h4 with h4; have h5 := blk_lt (h93.out h9).1; omega⟩⟩, hI.out.2.2.2.2.2.2.2.2.2.2.2.2.2.2.2⟩⟩
                    · intro LL a wx hI hLk hd K' hK
                      obtain ⟨x84, x88, x94, x98, cur, x5, g93, z, hI⟩ := hI
                      obtain rfl := hI.out.1
                      have h5 := hI.out.2.2.2.1
                      have hz := hI.out.2.2.2.2.1
                      have hu : z 8 = .slice (some ak) lst.length c := h5.out (flag_off (fun h => (hz.out h).2) hLk)
                      rw [if_pos (by rfl)]
                      go_simp
                      exact hK.out _ _ ⟨x84, x88, x94, x98, cur, x5, g93, (put1 (put1 z 8 (.slice (some ak) lst.length c)) 95 (.slice (some ak) lst.length c)), ⟨rfl, (hI.out.2.1.same (s := 8) (v := .slice (some ak) lst.length c) hu).upd 11 rfl rfl rfl rfl, hI.out.2.2.1, ⟨fun _ => rfl⟩, ⟨fun h => ⟨upd_old (hz.out h).1, rfl⟩⟩, hI.out.2.2.2.2.2.1, hI.out.2.2.2.2.2.2.1, hI.out.2.2.2.2.2.2.2.1, hI.out.2.2.2.2.2.2.2.2.1, hI.out.2.2.2.2.2.2.2.2.2.1, hI.out.2.2.2.2.2.2.2.2.2.2.1, hI.out.2.2.2.2.2.2.2.2.2.2.2.1, hI.out.2.2.2.2.2.2.2.2.2.2.2.2.1, hI.out.2.2.2.2.2.2.2.2.2.2.2.2.2.1, hI.out.2.2.2.2.2.2.2.2.2.2.2.2.2.2.1, hI.out.2.2.2.2.2.2.2.2.2.2.2.2.2.2.2⟩⟩
                    · intro LL a wx hI hLk hd K' hK
                      obtain ⟨x84, x88, x94, x98, cur, x5, g93, z, hI⟩ := hI
                      obtain rfl := hI.out.1
                      rw [if_pos (by rfl)]
                      go_simp
                      exact hK.out _ _ ⟨x84, x88, x94, x98, cur, x5, g93, (put1 z 96 (.int .i64 (p : Int))), ⟨rfl, hI.out.2.1.upd 12 rfl rfl rfl rfl, hI.out.2.2.1, hI.out.2.2.2.1, hI.out.2.2.2.2.1, hI.out.2.2.2.2.2.1, hI.out.2.2.2.2.2.2.1, hI.out.2.2.2.2.2.2.2.1, hI.out.2.2.2.2.2.2.2.2.1, hI.out.2.2.2.2.2.2.2.2.2.1, hI.out.2.2.2.2.2.2.2.2.2.2.1, hI.out.2.2.2.2.2.2.2.2.2.2.2.1, hI.out.2.2.2.2.2.2.2.2.2.2.2.2.1, hI.out.2.2.2.2.2.2.2.2.2.2.2.2.2.1, hI.out.2.2.2.2.2.2.2.2.2.2.2.2.2.2.1, hI.out.2.2.2.2.2.2.2.2.2.2.2.2.2.2.2⟩⟩
                    · intro LL a wx hI hLk hd K' hK
                      obtain ⟨x84, x88, x94, x98, cur, x5, g93, z, hI⟩ := hI
                      obtain rfl := hI.out.1
                      have e11 := hI.out.2.1.at 11 rfl (hd 11 rfl)
                      have e12 := hI.out.2.1.at 12 rfl (hd 12 rfl)
                      have hcut := HCF.out
                      rw [if_pos (by rfl)]
                      go_simp
                      exact hK.out _ _ ⟨x84, x88, x94, x98, cur, x5, g93, (put1 (put1 (put1 z 95 (.slice (some ak) lst.length c)) 96 (.int .i64 (p : Int))) 97 (.slice A97 n97 m97)), ⟨rfl, ((hI.out.2.1.same (s := 95) (v := .slice (some ak) lst.length c) e11).same (s := 96) (v := .int .i64 (p : Int)) e12).upd 13 rfl rfl rfl rfl, hI.out.2.2.1, hI.out.2.2.2.1, hI.out.2.2.2.2.1, hI.out.2.2.2.2.2.1, hI.out.2.2.2.2.2.2.1, hI.out.2.2.2.2.2.2.2.1, hI.out.2.2.2.2.2.2.2.2.1, hI.out.2.2.2.2.2.2.2.2.2.1, hI.out.2.2.2.2.2.2.2.2.2.2.1, hI.out.2.2.2.2.2.2.2.2.2.2.2.1, hI.out.2.2.2.2.2.2.2.2.2.2.2.2.1, hI.out.2.2.2.2.2.2.2.2.2.2.2.2.2.1, hI.out.2.2.2.2.2.2.2.2.2.2.2.2.2.2.1, hI.out.2.2.2.2.2.2.2.2.2.2.2.2.2.2.2⟩⟩
                    · intro LL a wx hI hLk hd K' hK
                      obtain ⟨x84, x88, x94, x98, cur, x5, g93, z, hI⟩ := hI
                      obtain rfl := hI.out.1
                      have e10 := hI.out.2.1.at 10 rfl (hd 10 rfl)
                      have e13 := hI.out.2.1.at 13 rfl (hd 13 rfl)
                      have hb := hI.out.2.2.1
                      have h5 := hI.out.2.2.2.1
                      have p4 := hI.out.2.2.2.2.2.1
                      have p10 := hI.out.2.2.2.2.2.2.1
                      have h4 := hI.out.2.2.2.2.2.2.2.2.2.2.1
                      have h10 := hI.out.2.2.2.2.2.2.2.2.2.2.2.1
                      have hlt := hI.out.2.2.2.2.2.2.2.2.2.2.2.2.2.1
                      have h93 := hI.out.2.2.2.2.2.2.2.2.2.2.2.2.2.2.1
                      have h15 := hI.out.2.2.2.2.2.2.2.2.2.2.2.2.2.2.2
                      have hr0 := h10.out (hd 10 rfl) hLk
                      have hq := Kd.R_base hr0.2
                      have hcx := hlt.out (p4.out (p10.out (hd 10 rfl)))
                      refine Kd.R_append_rows_step Kd.string (Rr := Kd.K Kd.string wx) (w0 := wx) wp.heap.size (by rfl) (.tmp 94) (.tmp 97) 41 9 (.string ⟨#[]⟩) 16 rfl Try.underlying41 info_str rfl (by decide) (by omega) cur (([] ++ (ks.take p)) ++ [x]) (ks.drop p) A97 n97 m97 (fun _ => True) (fun _ => False) (e10.trans hr0.1.symm) e13 (hr0.2) (HCD.out _ (Kd.R_below HO5.out hb.out)) (fun _ _ h => h) (fun _ h => h.elim) (fun _ _ => trivial) (Below.refl _ _) hb.out.size HLN.out.2.2 ?_
                      intro x' w3 ho hb1 hg1 hat1
                      exact hK.out _ _ ⟨x84, x88, x94, x', x', x5, g93, (put1 z 98 x'), ⟨rfl, hI.out.2.1.upd 14 rfl rfl rfl rfl, ⟨hb.out.grown hg1 hb.out.size (fun q e => hq q e)⟩, hI.out.2.2.2.1, hI.out.2.2.2.2.1, hI.out.2.2.2.2.2.1, hI.out.2.2.2.2.2.2.1, ⟨fun _ => hd 10 rfl⟩, hI.out.2.2.2.2.2.2.2.2.1, ⟨fun _ b => absurd (p10.out (hd 10 rfl)) (by rw [show LL 4 = false from b]; decide)⟩, ⟨fun _ b => absurd (hd 10 rfl) (by rw [show LL 10 = false from b]; decide)⟩, ⟨fun _ b => Bool.noConfusion (show true = false from b)⟩, ⟨fun _ => ⟨rfl, ho⟩⟩, ⟨fun _ => Kd.R_lt ho⟩, ⟨fun h9 => ⟨(hg1.block g93 (blk_lt (h93.out h9).1) (fun e => (h93.out h9).2 (p4.out (p10.out (hd 10 rfl))) e.symm)).trans (h93.out h9).1, fun _ e => by rcases hat1 with h2 | ⟨b, h2, h3⟩; exact (h93.out h9).2 (p4.out (p10.out (hd 10 rfl))) (h2.symm.trans e); have h4 := h2.symm.trans e; injection h4 with h4; have h5 := blk_lt (h93.out h9).1; omega⟩⟩, ⟨fun a => absurd (h15.out a).1 (by rw [hLk]; decide)⟩⟩⟩
                    · intro LL a wx hI hLk hd K' hK
                      obtain ⟨x84, x88, x94, x98, cur, x5, g93, z, hI⟩ := hI
                      obtain rfl := hI.out.1
                      have e14 := hI.out.2.1.at 14 rfl (hd 14 rfl)
                      rw [if_pos (by rfl)]
                      go_simp
                      exact hK.out _ _ ⟨x84, x88, x94, x98, cur, x98, g93, (put1 (put1 z 98 (x98)) 8 (x98)), ⟨rfl, (hI.out.2.1.same (s := 98) (v := x98) e14).upd 15 rfl rfl rfl rfl, hI.out.2.2.1, ⟨fun b => Bool.noConfusion (show true = false from b)⟩, ⟨fun _ => ⟨hd 1 rfl, hd 11 rfl⟩⟩, hI.out.2.2.2.2.2.1, hI.out.2.2.2.2.2.2.1, hI.out.2.2.2.2.2.2.2.1, hI.out.2.2.2.2.2.2.2.2.1, hI.out.2.2.2.2.2.2.2.2.2.1, hI.out.2.2.2.2.2.2.2.2.2.2.1, hI.out.2.2.2.2.2.2.2.2.2.2.2.1, hI.out.2.2.2.2.2.2.2.2.2.2.2.2.1, hI.out.2.2.2.2.2.2.2.2.2.2.2.2.2.1, hI.out.2.2.2.2.2.2.2.2.2.2.2.2.2.2.1, ⟨fun _ => ⟨hd 14 rfl, rfl⟩⟩⟩⟩
                  · intro LL a wz hall hI
                    obtain ⟨x84, x88, x94, x98, cur, x5, g93, z, hI⟩ := hI
                    obtain rfl := hI.out.1
                    have hb := hI.out.2.2.1
                    have h5 := hI.out.2.2.2.1
                    have hz := hI.out.2.2.2.2.1
                    have p4 := hI.out.2.2.2.2.2.1
                    have p10 := hI.out.2.2.2.2.2.2.1
                    have p14 := hI.out.2.2.2.2.2.2.2.1
                    have q10 := hI.out.2.2.2.2.2.2.2.2.1
                    have h0 := hI.out.2.2.2.2.2.2.2.2.2.1
                    have h4 := hI.out.2.2.2.2.2.2.2.2.2.2.1
                    have h10 := hI.out.2.2.2.2.2.2.2.2.2.2.2.1
                    have h14 := hI.out.2.2.2.2.2.2.2.2.2.2.2.2.1
                    have hlt := hI.out.2.2.2.2.2.2.2.2.2.2.2.2.2.1
                    have h93 := hI.out.2.2.2.2.2.2.2.2.2.2.2.2.2.2.1
                    have h15 := hI.out.2.2.2.2.2.2.2.2.2.2.2.2.2.2.2
                    have e15 := hI.out.2.1.at 15 rfl (hall 15 (by decide))
                    rw [e15]
                    have HO6 : Aside0 (Kd.R Kd.string 9 wz wp.heap.size (fun _ => True) x5 ((([] ++ (ks.take p)) ++ [x]) ++ (ks.drop p))) := ⟨by rw [(h15.out (hall 15 (by decide))).2, ← (h14.out (hall 14 (by decide))).1]; exact (h14.out (hall 14 (by decide))).2⟩
                    have HBw_z := Aside0.mk hb.out
                    clear hI e15 hb h5 hz p4 p10 p14 q10 h0 h4 h10 h14 hlt h93 h15
                    have R8 : Aside0 (Kd.R Kd.string 9 wz wp.heap.size (fun _ => True) x5 (ks.take p ++ x :: ks.drop p)) := ⟨by have := HO6.out; simpa using this⟩
                    obtain ⟨A8, c8, rfl, hc8, _⟩ := Kd.R_reads R8.out
                    rw [show (ks.take p ++ x :: ks.drop p).length = lst.length + 1 by simp; have := HKS.out.2; have := PLE.out; omega] at R8 hc8 ⊢
                    have HC8 := Aside0.mk hc8
                    clear hc8
                    go_wp2_with fail
                    go_roundw
                    case rel =>
                      refine ⟨j + 1, (putL byt x (j : Int) lst).1, A8, c8, HLT.out, by rw [HW.out], by rw [HLEN.out], by rw [HLEN.out]; have := HJ.out.1; omega, by rw [HLEN.out]; exact HC8.out, ⟨?_⟩, ⟨?_⟩, ⟨O9.out.trans (On.of_below HBw_z.out)⟩⟩
                      · rw [HLEN.out, HMAP.out]
                        exact Kd.R_tight rfl (Kd.R_lower R8.out SB.out)
                      · rw [HLEN.out]
                        exact (G9.out.more (av' := fun q => q < w2.heap.size ∨ some q = (Value.slice A8 (lst.length + 1) c8).ownBlock) (fun q h => h.elim (fun h => .inl (.inl h)) (fun h => .inr (Kd.R_base R8.out q h.symm)))).below HBw_z.out
                    case measure => have := HLT.out; rw [HW.out]; simp only [intOf]; omega
            · have hc2 : ((p : Int) < (lst.length : Int)) = False := eq_false (by omega)
              have hc2n : (p < lst.length) = False := eq_false hpn
              have HP : Aside0 (p = pos x ks ∧ p = lst.length) := ⟨by omega⟩
              have HT : Aside0 ((putL byt x (j : Int) lst).2 = false) := ⟨by rw [(put_keys x (j : Int) lst).1, ← HKS.out.1, ← HP.out.1, decide_eq_false hpn, Bool.false_and]⟩
              clear hp hpl hpn
              go_wp2_with fail
              repeat (go_quiet (fail); try go_wp2_with fail)
              refine (GroveSI.Put_calls 19 ent1 byt All cmpX ordr_byt w2.heap.size _ lst x (j : Int) trivial _ (HG.out.below (pw_below_drewN HB2.out _)) (fun q h => Nat.lt_of_lt_of_le (HAV.out q h) (pw_below_drewN HB2.out _).size) (by have := HJ.out.1; have := HLT.out; have := HL.out; omega)).mono ?_
              rintro e wp ⟨rfl, hg, ho⟩
              rw [HT.out]
              have hlen := putL_len (cmp := byt) x (j : Int) lst
              rw [HT.out] at hlen
              have HR9 := Aside0.mk (str_keep (Kd.R_below HR.out (pw_below_drewN HB2.out _)) ho (fun q h hn => hn (.inr h)))
              have G9 := Aside0.mk hg
              have O9 : Aside0 (On (fun q => ¬ q < w2.heap.size) w3 wp) := ⟨(HO.out.trans (On.of_below (pw_below_drewN HB2.out _))).trans (ho.mono (fun q h hv => h (.inl hv)))⟩
              have HLEN : Aside0 ((putL byt x (j : Int) lst).1.length = lst.length + 1) := ⟨hlen⟩
              have HMAP : Aside0 ((putL byt x (j : Int) lst).1.map (·.1) = ks.take p ++ x :: ks.drop p) := ⟨by rw [(put_keys x (j : Int) lst).2.2 HT.out, ← HKS.out.1, ← HP.out.1]⟩
              clear hg ho hlen
              go_wp2_with fail
              have PLE : Aside0 (p ≤ lst.length) := ⟨by have := HP.out; omega⟩
              have SB : Aside0 (w3.heap.size ≤ wp.heap.size) := ⟨O9.out.size⟩
              have HLN : Aside0 ((([] : List ByteArray).length + p) * 16 ≤ 140737488355328 ∧ (([] ++ ks.take p).length + 1) * 16 ≤ 140737488355328 ∧ ((([] ++ ks.take p) ++ [x]).length + (lst.length - p)) * 16 ≤ 140737488355328) := ⟨by
                have := PLE.out; have := HJ.out.1; have := HLT.out; have := HL.out; have := HKS.out.2
                simp only [List.length_append, List.length_take, List.length_nil, List.length_cons]
                omega⟩
              obtain ⟨i9, hi9, _, hsz9, _⟩ := info_parts info_str
              have HCT0 := cut_to (P := Try.prog) 41 9 .i64 Try.underlying41 hi9 A lst.length c (p : Int) (by omega) (by have := PLE.out; omega) HJ.out.2
              have HCF0 := cut_from (P := Try.prog) 41 9 .i64 Try.underlying41 hi9 1 hsz9 A lst.length c (p : Int) (by omega) (by have := PLE.out; omega)
              rw [Int.toNat_natCast] at HCT0 HCF0
              obtain ⟨A97, hA97⟩ : ∃ A' : Option Addr, A' = (if c = p then A else (A : Option Addr).map (·.add (p * 1))) := ⟨_, rfl⟩
              obtain ⟨n97, hn97⟩ : ∃ n : Nat, n = lst.length - p := ⟨_, rfl⟩
              obtain ⟨m97, hm97⟩ : ∃ n : Nat, n = c - p := ⟨_, rfl⟩
              have HO5 : Aside0 (Kd.R Kd.string 9 wp w3.heap.size (fun _ => True) (.slice A lst.length c) ks) := ⟨Kd.R_mono HR9.out (fun _ _ => trivial)⟩
              have HCD : Aside0 (∀ wx, Kd.R Kd.string 9 wx w3.heap.size (fun _ => True) (.slice A lst.length c) ks → Kd.C Kd.string wx A97 n97 (ks.drop p)) := ⟨fun wx hr => by have := Kd.C_drop (m := p) (c := c) (Kd.R_reads' hr).2.2 (by have := PLE.out; have := HKS.out.2; omega) (by rw [HKS.out.2]; exact HJ.out.2); rw [List.length_drop, HKS.out.2] at this; rw [hA97, hn97]; exact this⟩
              have HCK : Aside0 (∀ wx, Kd.R Kd.string 9 wx w3.heap.size (fun _ => True) (.slice A lst.length c) ks → Kd.C Kd.string wx A p (ks.take p)) := ⟨fun wx hr => by have := Kd.C_take (m := p) (Kd.R_reads' hr).2.2 (by have := PLE.out; have := HKS.out.2; omega); rw [List.length_take, Nat.min_eq_left (by have := PLE.out; have := HKS.out.2; omega)] at this; exact this⟩
              rw [← hn97] at HLN
              rw [← hA97, ← hn97, ← hm97] at HCF0
              have HCT := Aside0.mk HCT0
              have HCF := Aside0.mk HCF0
              have C0 : Aside0 (wp.cell? (ad.add j) = some (.string x)) := ⟨by
                obtain ⟨ad', he, ce'⟩ := Kd.at_string (Kd.C_below HR0.out (((On.of_below B3.out).trans O9.out).to_below (Nat.le_refl _) (fun k (h : ¬ k < w2.heap.size) => by have := Z3.out; omega))) (j : Int) (by omega) (by have := HLT.out; omega)
                obtain rfl := Option.some.inj he
                rw [← HX0.out, Int.toNat_natCast] at ce'
                exact ce'⟩
              have r16 : ((0 : Int) ≤ (j : Int)) = True := eq_true (by omega)
              have r17 : ((j : Int) < (l0.length : Int)) = True := eq_true (by have := HLT.out; omega)
              clear HCT0 HCF0 hA97 hn97 hm97 hi9 hsz9
              refine wp_region_steps 16 rfl rfl (by kernel_rfl) (fun LL a wx => ∃ x84 : Value, ∃ x88 : Value, ∃ x94 : Value, ∃ x98 : Value, ∃ cur : Value, ∃ x5 : Value, ∃ g93 : Nat, ∃ z : Nat → Value, Aside0 (a = { tmps := List.toArray (.slice (some ad) l0.length c0 :: .string frm :: .int .u8 stop :: undef :: undef :: .pointer (some ⟨w.heap.size, 0, none⟩) :: u6 :: .pointer (some ⟨w2.heap.size, 0, none⟩) :: z 8 :: .int .i64 (j : Int) :: .int .i64 (p : Int) :: .bool false :: undef :: undef :: undef :: undef :: .bool true :: .bool false :: .slice (some ad) l0.length c0 :: .int .i64 (l0.length : Int) :: .bool false :: .bool false :: .string frm :: .int .i64 (frm.size : Int) :: .bool false :: .bool false :: .pointer (some ⟨w2.heap.size, 0, none⟩) :: .pointer (some ⟨w2.heap.size, 0, none⟩) :: .bool false :: .int .i64 (j : Int) :: .slice (some ad) l0.length c0 :: .int .i64 (l0.length : Int) :: .bool true :: u33 :: u34 :: .slice (some ad) l0.length c0 :: .int .i64 (j : Int) :: .pointer (some (ad.add j)) :: .string x :: .int .i64 (x.size : Int) :: .bool false :: .int .i64 (p : Int) :: .slice A lst.length c :: .int .i64 (lst.length : Int) :: .bool false :: .bool false :: undef :: undef :: undef :: undef :: undef :: undef :: undef :: undef :: undef :: .bool false :: u56 :: u57 :: .int .i64 (p : Int) :: .slice A lst.length c :: .int .i64 (lst.length : Int) :: .bool false :: .bool false :: undef :: undef :: undef :: undef :: undef :: undef :: undef :: undef :: undef :: .bool false :: .pointer (some ⟨w2.heap.size, 0, none⟩) :: .slice (some ad) l0.length c0 :: .int .i64 (j : Int) :: .pointer (some (ad.add j)) :: .string x :: .int .i64 (j : Int) :: .bool false :: .bool false :: .bool false :: .bool false :: .bool true :: z 84 :: z 85 :: z 86 :: z 87 :: z 88 :: z 89 :: z 90 :: z 91 :: z 92 :: z 93 :: z 94 :: z 95 :: z 96 :: z 97 :: z 98 :: undef :: undef :: undef :: undef :: undef :: undef :: undef :: undef :: undef :: undef :: undef :: undef :: undef :: undef :: undef :: undef :: undef :: undef :: undef :: undef :: undef :: undef :: undef :: undef :: undef :: undef :: undef :: undef :: undef :: undef :: undef :: undef :: undef :: undef :: undef :: undef :: undef :: undef :: undef :: undef :: undef :: undef :: undef :: undef :: undef :: undef :: undef :: undef :: undef :: undef :: undef :: undef :: undef :: undef :: undef :: undef :: []), defers := [] } ∧ Tab LL z [(0, 84, x84), (1, 85, .slice A lst.length c), (2, 86, .int .i64 (p : Int)), (3, 87, .slice A p c), (4, 88, x88), (5, 89, .slice (some ad) l0.length c0), (6, 90, .int .i64 (j : Int)), (7, 91, .pointer (some (ad.add j))), (8, 92, .string x), (9, 93, .slice (some ⟨g93, 0, none⟩) 1 1), (10, 94, x94), (11, 95, .slice A lst.length c), (12, 96, .int .i64 (p : Int)), (13, 97, .slice A97 n97 m97), (14, 98, x98), (15, 8, x5)] ∧ Aside0 (Below wp.heap.size wp wx) ∧ Aside0 (LL 15 = false → z 8 = .slice A lst.length c) ∧ Aside0 (LL 15 = true → LL 1 = true ∧ LL 11 = true) ∧ Aside0 (LL 4 = true → LL 0 = true) ∧ Aside0 (LL 10 = true → LL 4 = true) ∧ Aside0 (LL 14 = true → LL 10 = true) ∧ Aside0 (LL 10 = true → LL 9 = true) ∧ Aside0 (LL 0 = true → LL 4 = false → cur = x84 ∧ Kd.R Kd.string 9 wx wp.heap.size (fun _ => True) cur []) ∧ Aside0 (LL 4 = true → LL 10 = false → cur = x88 ∧ Kd.R Kd.string 9 wx wp.heap.size (fun _ => True) cur ([] ++ (ks.take p))) ∧ Aside0 (LL 10 = true → LL 14 = false → cur = x94 ∧ Kd.R Kd.string 9 wx wp.heap.size (fun _ => True) cur (([] ++ (ks.take p)) ++ [x])) ∧ Aside0 (LL 14 = true → cur = x98 ∧ Kd.R Kd.string 9 wx wp.heap.size (fun _ => True) cur ((([] ++ (ks.take p)) ++ [x]) ++ (ks.drop p))) ∧ Aside0 (LL 0 = true → ∀ k, cur.ownBlock = some k → k < wx.heap.size) ∧ Aside0 (LL 9 = true → wx.heap[g93]? = some (.cells #[.string x] 9 (0, 0)) ∧ (LL 0 = true → cur.ownBlock ≠ some g93)) ∧ Aside0 (LL 15 = true → LL 14 = true ∧ x5 = x98))) ?_ ?_ ?_
              · exact ⟨undef, undef, undef, undef, undef, undef, 0, (put1 (put1 (put1 (put1 (put1 (put1 (put1 (put1 (put1 (put1 (put1 (put1 (put1 (put1 (put1 (put1 (fun _ => undef) 8 (.slice A lst.length c)) 84 (u84)) 85 (u85)) 86 (u86)) 87 (u87)) 88 (u88)) 89 (u89)) 90 (u90)) 91 (u91)) 92 (u92)) 93 (u93)) 94 (u94)) 95 (u95)) 96 (u96)) 97 (u97)) 98 (u98)), ⟨rfl, Tab.start 16 rfl rfl, ⟨below_drew (Below.refl _ _)⟩, ⟨fun _ => rfl⟩, ⟨fun h => absurd h (by decide)⟩, ⟨fun h => absurd h (by decide)⟩, ⟨fun h => absurd h (by decide)⟩, ⟨fun h => absurd h (by decide)⟩, ⟨fun h => absurd h (by decide)⟩, ⟨fun h => absurd h (by decide)⟩, ⟨fun h => absurd h (by decide)⟩, ⟨fun h => absurd h (by decide)⟩, ⟨fun h => absurd h (by decide)⟩, ⟨fun h => absurd h (by decide)⟩, ⟨fun h => absurd h (by decide)⟩, ⟨fun h => absurd h (by decide)⟩⟩⟩
              · refine Steps.cons ?_ (Steps.cons ?_ (Steps.cons ?_ (Steps.cons ?_ (Steps.cons ?_ (Steps.cons ?_ (Steps.cons ?_ (Steps.cons ?_ (Steps.cons ?_ (Steps.cons ?_ (Steps.cons ?_ (Steps.cons ?_ (Steps.cons ?_ (Steps.cons ?_ (Steps.cons ?_ (Steps.cons ?_ (Steps.nil))))))))))))))))
                · intro LL a wx hI hLk hd K' hK
                  obtain ⟨x84, x88, x94, x98, cur, x5, g93, z, hI⟩ := hI
                  obtain rfl := hI.out.1
                  have hb := hI.out.2.2.1
                  have p4 := hI.out.2.2.2.2.2.1
                  have p10 := hI.out.2.2.2.2.2.2.1
                  have p14 := hI.out.2.2.2.2.2.2.2.1
                  have h93 := hI.out.2.2.2.2.2.2.2.2.2.2.2.2.2.2.1
                  have hb0 := hb.out
                  refine Kd.R_lit_step Kd.string (w0 := wx) wx.heap.size 9 (by rfl) (N := 84) rfl (xs := ([] : List ByteArray)) (inner := []) (ok := fun _ => True) (okp := fun _ => True) (by first | (go_simp; done) | (go_simp; rfl)) (Reps.none _ _) (fun _ hk => hk) trivial (Below.refl _ _) (Nat.le_refl _) (by simp) ?_
                  intro x' w3 ho hb1 hg1 hn1
                  exact hK.out _ _ ⟨x', x88, x94, x98, x', x5, g93, (put1 z 84 x'), ⟨rfl, hI.out.2.1.upd 0 rfl rfl rfl rfl, ⟨hb.out.grown hg1 hb.out.size (fun q e => by cases e)⟩, hI.out.2.2.2.1, hI.out.2.2.2.2.1, ⟨fun _ => rfl⟩, hI.out.2.2.2.2.2.2.1, hI.out.2.2.2.2.2.2.2.1, hI.out.2.2.2.2.2.2.2.2.1, ⟨fun _ _ => ⟨rfl, Kd.R_lower ho hb.out.size⟩⟩, ⟨fun a => absurd (p4.out a) (by rw [hLk]; decide)⟩, ⟨fun a => absurd (p4.out (p10.out a)) (by rw [hLk]; decide)⟩, ⟨fun a => absurd (p4.out (p10.out (p14.out a))) (by rw [hLk]; decide)⟩, ⟨fun _ => Kd.R_lt ho⟩, ⟨fun h9 => ⟨(hg1.block g93 (blk_lt (h93.out h9).1) (fun e => by cases e)).trans (h93.out h9).1, fun _ e => by have h1 := Kd.R_base ho g93 e; have h2 := blk_lt (h93.out h9).1; omega⟩⟩, hI.out.2.2.2.2.2.2.2.2.2.2.2.2.2.2.2⟩⟩
                · intro LL a wx hI hLk hd K' hK
                  obtain ⟨x84, x88, x94, x98, cur, x5, g93, z, hI⟩ := hI
                  obtain rfl := hI.out.1
                  have h5 := hI.out.2.2.2.1
                  have hz := hI.out.2.2.2.2.1
                  have hu : z 8 = .slice A lst.length c := h5.out (flag_off (fun h => (hz.out h).1) hLk)
                  rw [if_pos (by rfl)]
                  go_simp
                  exact hK.out _ _ ⟨x84, x88, x94, x98, cur, x5, g93, (put1 (put1 z 8 (.slice A lst.length c)) 85 (.slice A lst.length c)), ⟨rfl, (hI.out.2.1.same (s := 8) (v := .slice A lst.length c) hu).upd 1 rfl rfl rfl rfl, hI.out.2.2.1, ⟨fun _ => rfl⟩, ⟨fun h => ⟨rfl, upd_old (hz.out h).2⟩⟩, hI.out.2.2.2.2.2.1, hI.out.2.2.2.2.2.2.1, hI.out.2.2.2.2.2.2.2.1, hI.out.2.2.2.2.2.2.2.2.1, hI.out.2.2.2.2.2.2.2.2.2.1, hI.out.2.2.2.2.2.2.2.2.2.2.1, hI.out.2.2.2.2.2.2.2.2.2.2.2.1, hI.out.2.2.2.2.2.2.2.2.2.2.2.2.1, hI.out.2.2.2.2.2.2.2.2.2.2.2.2.2.1, hI.out.2.2.2.2.2.2.2.2.2.2.2.2.2.2.1, hI.out.2.2.2.2.2.2.2.2.2.2.2.2.2.2.2⟩⟩
                · intro LL a wx hI hLk hd K' hK
                  obtain ⟨x84, x88, x94, x98, cur, x5, g93, z, hI⟩ := hI
                  obtain rfl := hI.out.1
                  rw [if_pos (by rfl)]
                  go_simp
                  exact hK.out _ _ ⟨x84, x88, x94, x98, cur, x5, g93, (put1 z 86 (.int .i64 (p : Int))), ⟨rfl, hI.out.2.1.upd 2 rfl rfl rfl rfl, hI.out.2.2.1, hI.out.2.2.2.1, hI.out.2.2.2.2.1, hI.out.2.2.2.2.2.1, hI.out.2.2.2.2.2.2.1, hI.out.2.2.2.2.2.2.2.1, hI.out.2.2.2.2.2.2.2.2.1, hI.out.2.2.2.2.2.2.2.2.2.1, hI.out.2.2.2.2.2.2.2.2.2.2.1, hI.out.2.2.2.2.2.2.2.2.2.2.2.1, hI.out.2.2.2.2.2.2.2.2.2.2.2.2.1, hI.out.2.2.2.2.2.2.2.2.2.2.2.2.2.1, hI.out.2.2.2.2.2.2.2.2.2.2.2.2.2.2.1, hI.out.2.2.2.2.2.2.2.2.2.2.2.2.2.2.2⟩⟩
                · intro LL a wx hI hLk hd K' hK
                  obtain ⟨x84, x88, x94, x98, cur, x5, g93, z, hI⟩ := hI
                  obtain rfl := hI.out.1
                  have e1 := hI.out.2.1.at 1 rfl (hd 1 rfl)
                  have e2 := hI.out.2.1.at 2 rfl (hd 2 rfl)
                  have hcut := HCT.out
                  rw [if_pos (by rfl)]
                  go_simp
                  exact hK.out _ _ ⟨x84, x88, x94, x98, cur, x5, g93, (put1 (put1 (put1 z 85 (.slice A lst.length c)) 86 (.int .i64 (p : Int))) 87 (.slice A p c)), ⟨rfl, ((hI.out.2.1.same (s := 85) (v := .slice A lst.length c) e1).same (s := 86) (v := .int .i64 (p : Int)) e2).upd 3 rfl rfl rfl rfl, hI.out.2.2.1, hI.out.2.2.2.1, hI.out.2.2.2.2.1, hI.out.2.2.2.2.2.1, hI.out.2.2.2.2.2.2.1, hI.out.2.2.2.2.2.2.2.1, hI.out.2.2.2.2.2.2.2.2.1, hI.out.2.2.2.2.2.2.2.2.2.1, hI.out.2.2.2.2.2.2.2.2.2.2.1, hI.out.2.2.2.2.2.2.2.2.2.2.2.1, hI.out.2.2.2.2.2.2.2.2.2.2.2.2.1, hI.out.2.2.2.2.2.2.2.2.2.2.2.2.2.1, hI.out.2.2.2.2.2.2.2.2.2.2.2.2.2.2.1, hI.out.2.2.2.2.2.2.2.2.2.2.2.2.2.2.2⟩⟩
                · intro LL a wx hI hLk hd K' hK
                  obtain ⟨x84, x88, x94, x98, cur, x5, g93, z, hI⟩ := hI
                  obtain rfl := hI.out.1
                  have e0 := hI.out.2.1.at 0 rfl (hd 0 rfl)
                  have e3 := hI.out.2.1.at 3 rfl (hd 3 rfl)
                  have hb := hI.out.2.2.1
                  have h5 := hI.out.2.2.2.1
                  have p10 := hI.out.2.2.2.2.2.2.1
                  have p14 := hI.out.2.2.2.2.2.2.2.1
                  have h0 := hI.out.2.2.2.2.2.2.2.2.2.1
                  have h4 := hI.out.2.2.2.2.2.2.2.2.2.2.1
                  have hlt := hI.out.2.2.2.2.2.2.2.2.2.2.2.2.2.1
                  have h93 := hI.out.2.2.2.2.2.2.2.2.2.2.2.2.2.2.1
                  have hr0 := h0.out (hd 0 rfl) hLk
                  have hq := Kd.R_base hr0.2
                  have hcx := hlt.out (hd 0 rfl)
                  refine Kd.R_append_rows_step Kd.string (Rr := Kd.K Kd.string wx) (w0 := wx) wp.heap.size (by rfl) (.tmp 84) (.tmp 87) 41 9 (.string ⟨#[]⟩) 16 rfl Try.underlying41 info_str rfl (by decide) (by omega) cur [] (ks.take p) A p c (fun _ => True) (fun _ => False) (e0.trans hr0.1.symm) e3 (hr0.2) (HCK.out _ (Kd.R_below HO5.out hb.out)) (fun _ _ h => h) (fun _ h => h.elim) (fun _ _ => trivial) (Below.refl _ _) hb.out.size HLN.out.1 ?_
                  intro x' w3 ho hb1 hg1 hat1
                  exact hK.out _ _ ⟨x84, x', x94, x98, x', x5, g93, (put1 z 88 x'), ⟨rfl, hI.out.2.1.upd 4 rfl rfl rfl rfl, ⟨hb.out.grown hg1 hb.out.size (fun q e => hq q e)⟩, hI.out.2.2.2.1, hI.out.2.2.2.2.1, ⟨fun _ => hd 0 rfl⟩, ⟨fun _ => rfl⟩, hI.out.2.2.2.2.2.2.2.1, hI.out.2.2.2.2.2.2.2.2.1, ⟨fun _ b => Bool.noConfusion (show true = false from b)⟩, ⟨fun _ _ => ⟨rfl, ho⟩⟩, ⟨fun a => absurd (p10.out a) (by rw [hLk]; decide)⟩, ⟨fun a => absurd (p10.out (p14.out a)) (by rw [hLk]; decide)⟩, ⟨fun _ => Kd.R_lt ho⟩, ⟨fun h9 => ⟨(hg1.block g93 (blk_lt (h93.out h9).1) (fun e => (h93.out h9).2 (hd 0 rfl) e.symm)).trans (h93.out h9).1, fun _ e => by rcases hat1 with h2 | ⟨b, h2, h3⟩; exact (h93.out h9).2 (hd 0 rfl) (h2.symm.trans e); have h4 := h2.symm.trans e; injection h4 with h4; have h5 := blk_lt (h93.out h9).1; omega⟩⟩, hI.out.2.2.2.2.2.2.2.2.2.2.2.2.2.2.2⟩⟩
                · intro LL a wx hI hLk hd K' hK
                  obtain ⟨x84, x88, x94, x98, cur, x5, g93, z, hI⟩ := hI
                  obtain rfl := hI.out.1
                  rw [if_pos (by rfl)]
                  go_simp
                  exact hK.out _ _ ⟨x84, x88, x94, x98, cur, x5, g93, (put1 z 89 (.slice (some ad) l0.length c0)), ⟨rfl, hI.out.2.1.upd 5 rfl rfl rfl rfl, hI.out.2.2.1, hI.out.2.2.2.1, hI.out.2.2.2.2.1, hI.out.2.2.2.2.2.1, hI.out.2.2.2.2.2.2.1, hI.out.2.2.2.2.2.2.2.1, hI.out.2.2.2.2.2.2.2.2.1, hI.out.2.2.2.2.2.2.2.2.2.1, hI.out.2.2.2.2.2.2.2.2.2.2.1, hI.out.2.2.2.2.2.2.2.2.2.2.2.1, hI.out.2.2.2.2.2.2.2.2.2.2.2.2.1, hI.out.2.2.2.2.2.2.2.2.2.2.2.2.2.1, hI.out.2.2.2.2.2.2.2.2.2.2.2.2.2.2.1, hI.out.2.2.2.2.2.2.2.2.2.2.2.2.2.2.2⟩⟩
                · intro LL a wx hI hLk hd K' hK
                  obtain ⟨x84, x88, x94, x98, cur, x5, g93, z, hI⟩ := hI
                  obtain rfl := hI.out.1
                  rw [if_pos (by rfl)]
                  go_simp
                  exact hK.out _ _ ⟨x84, x88, x94, x98, cur, x5, g93, (put1 z 90 (.int .i64 (j : Int))), ⟨rfl, hI.out.2.1.upd 6 rfl rfl rfl rfl, hI.out.2.2.1, hI.out.2.2.2.1, hI.out.2.2.2.2.1, hI.out.2.2.2.2.2.1, hI.out.2.2.2.2.2.2.1, hI.out.2.2.2.2.2.2.2.1, hI.out.2.2.2.2.2.2.2.2.1, hI.out.2.2.2.2.2.2.2.2.2.1, hI.out.2.2.2.2.2.2.2.2.2.2.1, hI.out.2.2.2.2.2.2.2.2.2.2.2.1, hI.out.2.2.2.2.2.2.2.2.2.2.2.2.1, hI.out.2.2.2.2.2.2.2.2.2.2.2.2.2.1, hI.out.2.2.2.2.2.2.2.2.2.2.2.2.2.2.1, hI.out.2.2.2.2.2.2.2.2.2.2.2.2.2.2.2⟩⟩
                · intro LL a wx hI hLk hd K' hK
                  obtain ⟨x84, x88, x94, x98, cur, x5, g93, z, hI⟩ := hI
                  obtain rfl := hI.out.1
                  have e5 := hI.out.2.1.at 5 rfl (hd 5 rfl)
                  have e6 := hI.out.2.1.at 6 rfl (hd 6 rfl)
                  rw [if_pos (by rfl)]
                  go_simp
                  exact hK.out _ _ ⟨x84, x88, x94, x98, cur, x5, g93, (put1 (put1 (put1 z 89 (.slice (some ad) l0.length c0)) 90 (.int .i64 (j : Int))) 91 (.pointer (some (ad.add j)))), ⟨rfl, ((hI.out.2.1.same (s := 89) (v := .slice (some ad) l0.length c0) e5).same (s := 90) (v := .int .i64 (j : Int)) e6).upd 7 rfl rfl rfl rfl, hI.out.2.2.1, hI.out.2.2.2.1, hI.out.2.2.2.2.1, hI.out.2.2.2.2.2.1, hI.out.2.2.2.2.2.2.1, hI.out.2.2.2.2.2.2.2.1, hI.out.2.2.2.2.2.2.2.2.1, hI.out.2.2.2.2.2.2.2.2.2.1, hI.out.2.2.2.2.2.2.2.2.2.2.1, hI.out.2.2.2.2.2.2.2.2.2.2.2.1, hI.out.2.2.2.2.2.2.2.2.2.2.2.2.1, hI.out.2.2.2.2.2.2.2.2.2.2.2.2.2.1, hI.out.2.2.2.2.2.2.2.2.2.2.2.2.2.2.1, hI.out.2.2.2.2.2.2.2.2.2.2.2.2.2.2.2⟩⟩
                · intro LL a wx hI hLk hd K' hK
                  obtain ⟨x84, x88, x94, x98, cur, x5, g93, z, hI⟩ := hI
                  obtain rfl := hI.out.1
                  have e7 := hI.out.2.1.at 7 rfl (hd 7 rfl)
                  have hb := hI.out.2.2.1
                  have h0c := cell_keep hb.out C0.out
                  rw [if_pos (by rfl)]
                  go_simp
                  exact hK.out _ _ ⟨x84, x88, x94, x98, cur, x5, g93, (put1 (put1 z 91 (.pointer (some (ad.add j)))) 92 (.string x)), ⟨rfl, (hI.out.2.1.same (s := 91) (v := .pointer (some (ad.add j))) e7).upd 8 rfl rfl rfl rfl, hI.out.2.2.1, hI.out.2.2.2.1, hI.out.2.2.2.2.1, hI.out.2.2.2.2.2.1, hI.out.2.2.2.2.2.2.1, hI.out.2.2.2.2.2.2.2.1, hI.out.2.2.2.2.2.2.2.2.1, hI.out.2.2.2.2.2.2.2.2.2.1, hI.out.2.2.2.2.2.2.2.2.2.2.1, hI.out.2.2.2.2.2.2.2.2.2.2.2.1, hI.out.2.2.2.2.2.2.2.2.2.2.2.2.1, hI.out.2.2.2.2.2.2.2.2.2.2.2.2.2.1, hI.out.2.2.2.2.2.2.2.2.2.2.2.2.2.2.1, hI.out.2.2.2.2.2.2.2.2.2.2.2.2.2.2.2⟩⟩
                · intro LL a wx hI hLk hd K' hK
                  obtain ⟨x84, x88, x94, x98, cur, x5, g93, z, hI⟩ := hI
                  obtain rfl := hI.out.1
                  have e8 := hI.out.2.1.at 8 rfl (hd 8 rfl)
                  have hb := hI.out.2.2.1
                  have p14 := hI.out.2.2.2.2.2.2.2.1
                  have q10 := hI.out.2.2.2.2.2.2.2.2.1
                  have h0 := hI.out.2.2.2.2.2.2.2.2.2.1
                  have h4 := hI.out.2.2.2.2.2.2.2.2.2.2.1
                  have hlt := hI.out.2.2.2.2.2.2.2.2.2.2.2.2.2.1
                  rw [if_pos (by rfl)]
                  go_simp
                  exact hK.out _ _ ⟨x84, x88, x94, x98, cur, x5, wx.heap.size, (put1 (put1 z 92 (.string x)) 93 (.slice (some ⟨wx.heap.size, 0, none⟩) 1 1)), ⟨rfl, (hI.out.2.1.same (s := 92) (v := .string x) e8).upd 9 rfl rfl rfl rfl, ⟨below_alloc hb.out _⟩, hI.out.2.2.2.1, hI.out.2.2.2.2.1, hI.out.2.2.2.2.2.1, hI.out.2.2.2.2.2.2.1, hI.out.2.2.2.2.2.2.2.1, ⟨fun _ => rfl⟩, ⟨fun a b => ⟨(h0.out a b).1, Kd.R_alloc (h0.out a b).2 _⟩⟩, ⟨fun a b => ⟨(h4.out a b).1, Kd.R_alloc (h4.out a b).2 _⟩⟩, ⟨fun a => absurd (q10.out a) (by rw [hLk]; decide)⟩, ⟨fun a => absurd (q10.out (p14.out a)) (by rw [hLk]; decide)⟩, ⟨fun a k e => Nat.lt_of_lt_of_le (hlt.out a k e) (below_alloc (Below.refl wx.heap.size wx) _).size⟩, ⟨fun _ => ⟨by simpa using heap_alloc_new wx _, fun a e => Nat.lt_irrefl _ (hlt.out a _ e)⟩⟩, hI.out.2.2.2.2.2.2.2.2.2.2.2.2.2.2.2⟩⟩
                · intro LL a wx hI hLk hd K' hK
                  obtain ⟨x84, x88, x94, x98, cur, x5, g93, z, hI⟩ := hI
                  obtain rfl := hI.out.1
                  have e4 := hI.out.2.1.at 4 rfl (hd 4 rfl)
                  have e9 := hI.out.2.1.at 9 rfl (hd 9 rfl)
                  have hb := hI.out.2.2.1
                  have h5 := hI.out.2.2.2.1
                  have p4 := hI.out.2.2.2.2.2.1
                  have p14 := hI.out.2.2.2.2.2.2.2.1
                  have h4 := hI.out.2.2.2.2.2.2.2.2.2.2.1
                  have hlt := hI.out.2.2.2.2.2.2.2.2.2.2.2.2.2.1
                  have h93 := hI.out.2.2.2.2.2.2.2.2.2.2.2.2.2.2.1
                  have hr0 := h4.out (hd 4 rfl) hLk
                  have hq := Kd.R_base hr0.2
                  have hcx := hlt.out (p4.out (hd 4 rfl))
                  refine Kd.R_append_rows_step Kd.string (Rr := Kd.K Kd.string wx) (w0 := wx) wp.heap.size (by rfl) (.tmp 88) (.tmp 93) 41 9 (.string ⟨#[]⟩) 16 rfl Try.underlying41 info_str rfl (by decide) (by omega) cur ([] ++ (ks.take p)) [x] (some ⟨g93, 0, none⟩) 1 1 (fun _ => True) (fun _ => False) (e4.trans hr0.1.symm) e9 (hr0.2) (row1 (h93.out (hd 9 rfl)).1) (fun _ _ h => h) (fun _ h => h.elim) (fun _ _ => trivial) (Below.refl _ _) hb.out.size HLN.out.2.1 ?_
                  intro x' w3 ho hb1 hg1 hat1
                  exact hK.out _ _ ⟨x84, x88, x', x98, x', x5, g93, (put1 z 94 x'), ⟨rfl, hI.out.2.1.upd 10 rfl rfl rfl rfl, ⟨hb.out.grown hg1 hb.out.size (fun q e => hq q e)⟩, hI.out.2.2.2.1, hI.out.2.2.2.2.1, hI.out.2.2.2.2.2.1, ⟨fun _ => hd 4 rfl⟩, ⟨fun _ => rfl⟩, ⟨fun _ => hd 9 rfl⟩, ⟨fun _ b => absurd (hd 4 rfl) (by rw [show LL 4 = false from b]; decide)⟩, ⟨fun _ b => Bool.noConfusion (show true = false from b)⟩, ⟨fun _ _ => ⟨rfl, ho⟩⟩, ⟨fun a => absurd (p14.out a) (by rw [hLk]; decide)⟩, ⟨fun _ => Kd.R_lt ho⟩, ⟨fun h9 => ⟨(hg1.block g93 (blk_lt (h93.out h9).1) (fun e => (h93.out h9).2 (p4.out (hd 4 rfl)) e.symm)).trans (h93.out h9).1, fun _ e => by rcases hat1 with h2 | ⟨b, h2, h3⟩; exact (h93.out h9).2 (p4.out (hd 4 rfl)) (h2.symm.trans e); have h4 := h2.symm.trans e; injection h4 with h4; have h5 := blk_lt (h93.out h9).1; omega⟩⟩, hI.out.2.2.2.2.2.2.2.2.2.2.2.2.2.2.2⟩⟩
                · intro LL a wx hI hLk hd K' hK
                  obtain ⟨x84, x88, x94, x98, cur, x5, g93, z, hI⟩ := hI
                  obtain rfl := hI.out.1
                  have h5 := hI.out.2.2.2.1
                  have hz := hI.out.2.2.2.2.1
                  have hu : z 8 = .slice A lst.length c := h5.out (flag_off (fun h => (hz.out h).2) hLk)
                  rw [if_pos (by rfl)]
                  go_simp
                  exact hK.out _ _ ⟨x84, x88, x94, x98, cur, x5, g93, (put1 (put1 z 8 (.slice A lst.length c)) 95 (.slice A lst.length c)), ⟨rfl, (hI.out.2.1.same (s := 8) (v := .slice A lst.length c) hu).upd 11 rfl rfl rfl rfl, hI.out.2.2.1, ⟨fun _ => rfl⟩, ⟨fun h => ⟨upd_old (hz.out h).1, rfl⟩⟩, hI.out.2.2.2.2.2.1, hI.out.2.2.2.2.2.2.1, hI.out.2.2.2.2.2.2.2.1, hI.out.2.2.2.2.2.2.2.2.1, hI.out.2.2.2.2.2.2.2.2.2.1, hI.out.2.2.2.2.2.2.2.2.2.2.1, hI.out.2.2.2.2.2.2.2.2.2.2.2.1, hI.out.2.2.2.2.2.2.2.2.2.2.2.2.1, hI.out.2.2.2.2.2.2.2.2.2.2.2.2.2.1, hI.out.2.2.2.2.2.2.2.2.2.2.2.2.2.2.1, hI.out.2.2.2.2.2.2.2.2.2.2.2.2.2.2.2⟩⟩
                · intro LL a wx hI hLk hd K' hK
                  obtain ⟨x84, x88, x94, x98, cur, x5, g93, z, hI⟩ := hI
                  obtain rfl := hI.out.1
                  rw [if_pos (by rfl)]
                  go_simp
                  exact hK.out _ _ ⟨x84, x88, x94, x98, cur, x5, g93, (put1 z 96 (.int .i64 (p : Int))), ⟨rfl, hI.out.2.1.upd 12 rfl rfl rfl rfl, hI.out.2.2.1, hI.out.2.2.2.1, hI.out.2.2.2.2.1, hI.out.2.2.2.2.2.1, hI.out.2.2.2.2.2.2.1, hI.out.2.2.2.2.2.2.2.1, hI.out.2.2.2.2.2.2.2.2.1, hI.out.2.2.2.2.2.2.2.2.2.1, hI.out.2.2.2.2.2.2.2.2.2.2.1, hI.out.2.2.2.2.2.2.2.2.2.2.2.1, hI.out.2.2.2.2.2.2.2.2.2.2.2.2.1, hI.out.2.2.2.2.2.2.2.2.2.2.2.2.2.1, hI.out.2.2.2.2.2.2.2.2.2.2.2.2.2.2.1, hI.out.2.2.2.2.2.2.2.2.2.2.2.2.2.2.2⟩⟩
                · intro LL a wx hI hLk hd K' hK
                  obtain ⟨x84, x88, x94, x98, cur, x5, g93, z, hI⟩ := hI
                  obtain rfl := hI.out.1
                  have e11 := hI.out.2.1.at 11 rfl (hd 11 rfl)
                  have e12 := hI.out.2.1.at 12 rfl (hd 12 rfl)
                  have hcut := HCF.out
                  rw [if_pos (by rfl)]
                  go_simp
                  exact hK.out _ _ ⟨x84, x88, x94, x98, cur, x5, g93, (put1 (put1 (put1 z 95 (.slice A lst.length c)) 96 (.int .i64 (p : Int))) 97 (.slice A97 n97 m97)), ⟨rfl, ((hI.out.2.1.same (s := 95) (v := .slice A lst.length c) e11).same (s := 96) (v := .int .i64 (p : Int)) e12).upd 13 rfl rfl rfl rfl, hI.out.2.2.1, hI.out.2.2.2.1, hI.out.2.2.2.2.1, hI.out.2.2.2.2.2.1, hI.out.2.2.2.2.2.2.1, hI.out.2.2.2.2.2.2.2.1, hI.out.2.2.2.2.2.2.2.2.1, hI.out.2.2.2.2.2.2.2.2.2.1, hI.out.2.2.2.2.2.2.2.2.2.2.1, hI.out.2.2.2.2.2.2.2.2.2.2.2.1, hI.out.2.2.2.2.2.2.2.2.2.2.2.2.1, hI.out.2.2.2.2.2.2.2.2.2.2.2.2.2.1, hI.out.2.2.2.2.2.2.2.2.2.2.2.2.2.2.1, hI.out.2.2.2.2.2.2.2.2.2.2.2.2.2.2.2⟩⟩
                · intro LL a wx hI hLk hd K' hK
                  obtain ⟨x84, x88, x94, x98, cur, x5, g93, z, hI⟩ := hI
                  obtain rfl := hI.out.1
                  have e10 := hI.out.2.1.at 10 rfl (hd 10 rfl)
                  have e13 := hI.out.2.1.at 13 rfl (hd 13 rfl)
                  have hb := hI.out.2.2.1
                  have h5 := hI.out.2.2.2.1
                  have p4 := hI.out.2.2.2.2.2.1
                  have p10 := hI.out.2.2.2.2.2.2.1
                  have h4 := hI.out.2.2.2.2.2.2.2.2.2.2.1
                  have h10 := hI.out.2.2.2.2.2.2.2.2.2.2.2.1
                  have hlt := hI.out.2.2.2.2.2.2.2.2.2.2.2.2.2.1
                  have h93 := hI.out.2.2.2.2.2.2.2.2.2.2.2.2.2.2.1
                  have h15 := hI.out.2.2.2.2.2.2.2.2.2.2.2.2.2.2.2
                  have hr0 := h10.out (hd 10 rfl) hLk
                  have hq := Kd.R_base hr0.2
                  have hcx := hlt.out (p4.out (p10.out (hd 10 rfl)))
                  refine Kd.R_append_rows_step Kd.string (Rr := Kd.K Kd.string wx) (w0 := wx) wp.heap.size (by rfl) (.tmp 94) (.tmp 97) 41 9 (.string ⟨#[]⟩) 16 rfl Try.underlying41 info_str rfl (by decide) (by omega) cur (([] ++ (ks.take p)) ++ [x]) (ks.drop p) A97 n97 m97 (fun _ => True) (fun _ => False) (e10.trans hr0.1.symm) e13 (hr0.2) (HCD.out _ (Kd.R_below HO5.out hb.out)) (fun _ _ h => h) (fun _ h => h.elim) (fun _ _ => trivial) (Below.refl _ _) hb.out.size HLN.out.2.2 ?_
                  intro x' w3 ho hb1 hg1 hat1
                  exact hK.out _ _ ⟨x84, x88, x94, x', x', x5, g93, (put1 z 98 x'), ⟨rfl, hI.out.2.1.upd 14 rfl rfl rfl rfl, ⟨hb.out.grown hg1 hb.out.size (fun q e => hq q e)⟩, hI.out.2.2.2.1, hI.out.2.2.2.2.1, hI.out.2.2.2.2.2.1, hI.out.2.2.2.2.2.2.1, ⟨fun _ => hd 10 rfl⟩, hI.out.2.2.2.2.2.2.2.2.1, ⟨fun _ b => absurd (p10.out (hd 10 rfl)) (by rw [show LL 4 = false from b]; decide)⟩, ⟨fun _ b => absurd (hd 10 rfl) (by rw [show LL 10 = false from b]; decide)⟩, ⟨fun _ b => Bool.noConfusion (show true = false from b)⟩, ⟨fun _ => ⟨rfl, ho⟩⟩, ⟨fun _ => Kd.R_lt ho⟩, ⟨fun h9 => ⟨(hg1.block g93 (blk_lt (h93.out h9).1) (fun e => (h93.out h9).2 (p4.out (p10.out (hd 10 rfl))) e.symm)).trans (h93.out h9).1, fun _ e => by rcases hat1 with h2 | ⟨b, h2, h3⟩; exact (h93.out h9).2 (p4.out (p10.out (hd 10 rfl))) (h2.symm.trans e); have h4 := h2.symm.trans e; injection h4 with h4; have h5 := blk_lt (h93.out h9).1; omega⟩⟩, ⟨fun a => absurd (h15.out a).1 (by rw [hLk]; decide)⟩⟩⟩
                · intro LL a wx hI hLk hd K' hK
                  obtain ⟨x84, x88, x94, x98, cur, x5, g93, z, hI⟩ := hI
                  obtain rfl := hI.out.1
                  have e14 := hI.out.2.1.at 14 rfl (hd 14 rfl)
                  rw [if_pos (by rfl)]
                  go_simp
                  exact hK.out _ _ ⟨x84, x88, x94, x98, cur, x98, g93, (put1 (put1 z 98 (x98)) 8 (x98)), ⟨rfl, (hI.out.2.1.same (s := 98) (v := x98) e14).upd 15 rfl rfl rfl rfl, hI.out.2.2.1, ⟨fun b => Bool.noConfusion (show true = false from b)⟩, ⟨fun _ => ⟨hd 1 rfl, hd 11 rfl⟩⟩, hI.out.2.2.2.2.2.1, hI.out.2.2.2.2.2.2.1, hI.out.2.2.2.2.2.2.2.1, hI.out.2.2.2.2.2.2.2.2.1, hI.out.2.2.2.2.2.2.2.2.2.1, hI.out.2.2.2.2.2.2.2.2.2.2.1, hI.out.2.2.2.2.2.2.2.2.2.2.2.1, hI.out.2.2.2.2.2.2.2.2.2.2.2.2.1, hI.out.2.2.2.2.2.2.2.2.2.2.2.2.2.1, hI.out.2.2.2.2.2.2.2.2.2.2.2.2.2.2.1, ⟨fun _ => ⟨hd 14 rfl, rfl⟩⟩⟩⟩
              · intro LL a wz hall hI
                obtain ⟨x84, x88, x94, x98, cur, x5, g93, z, hI⟩ := hI
                obtain rfl := hI.out.1
                have hb := hI.out.2.2.1
                have h5 := hI.out.2.2.2.1
                have hz := hI.out.2.2.2.2.1
                have p4 := hI.out.2.2.2.2.2.1
                have p10 := hI.out.2.2.2.2.2.2.1
                have p14 := hI.out.2.2.2.2.2.2.2.1
                have q10 := hI.out.2.2.2.2.2.2.2.2.1
                have h0 := hI.out.2.2.2.2.2.2.2.2.2.1
                have h4 := hI.out.2.2.2.2.2.2.2.2.2.2.1
                have h10 := hI.out.2.2.2.2.2.2.2.2.2.2.2.1
                have h14 := hI.out.2.2.2.2.2.2.2.2.2.2.2.2.1
                have hlt := hI.out.2.2.2.2.2.2.2.2.2.2.2.2.2.1
                have h93 := hI.out.2.2.2.2.2.2.2.2.2.2.2.2.2.2.1
                have h15 := hI.out.2.2.2.2.2.2.2.2.2.2.2.2.2.2.2
                have e15 := hI.out.2.1.at 15 rfl (hall 15 (by decide))
                rw [e15]
                have HO6 : Aside0 (Kd.R Kd.string 9 wz wp.heap.size (fun _ => True) x5 ((([] ++ (ks.take p)) ++ [x]) ++ (ks.drop p))) := ⟨by rw [(h15.out (hall 15 (by decide))).2, ← (h14.out (hall 14 (by decide))).1]; exact (h14.out (hall 14 (by decide))).2⟩
                have HBw_z := Aside0.mk hb.out
                clear hI e15 hb h5 hz p4 p10 p14 q10 h0 h4 h10 h14 hlt h93 h15
                have R8 : Aside0 (Kd.R Kd.string 9 wz wp.heap.size (fun _ => True) x5 (ks.take p ++ x :: ks.drop p)) := ⟨by have := HO6.out; simpa using this⟩
                obtain ⟨A8, c8, rfl, hc8, _⟩ := Kd.R_reads R8.out
                rw [show (ks.take p ++ x :: ks.drop p).length = lst.length + 1 by simp; have := HKS.out.2; have := PLE.out; omega] at R8 hc8 ⊢
                have HC8 := Aside0.mk hc8
                clear hc8
                go_wp2_with fail
                go_roundw
                case rel =>
                  refine ⟨j + 1, (putL byt x (j : Int) lst).1, A8, c8, HLT.out, by rw [HW.out], by rw [HLEN.out], by rw [HLEN.out]; have := HJ.out.1; omega, by rw [HLEN.out]; exact HC8.out, ⟨?_⟩, ⟨?_⟩, ⟨O9.out.trans (On.of_below HBw_z.out)⟩⟩
                  · rw [HLEN.out, HMAP.out]
                    exact Kd.R_tight rfl (Kd.R_lower R8.out SB.out)
                  · rw [HLEN.out]
                    exact (G9.out.more (av' := fun q => q < w2.heap.size ∨ some q = (Value.slice A8 (lst.length + 1) c8).ownBlock) (fun q h => h.elim (fun h => .inl (.inl h)) (fun h => .inr (Kd.R_base R8.out q h.symm)))).below HBw_z.out
                case measure => have := HLT.out; rw [HW.out]; simp only [intOf]; omega
      · have hc1 : ((l0.length : Int) < (l0.length : Int)) = False := eq_false (by omega)
        have hc1n : (l0.length < l0.length) = False := eq_false (by omega)
        obtain rfl : l0.length = j := by omega
        obtain ⟨st, hst⟩ : ∃ st : Nat, (st : Int) = stop := ⟨stop.toNat, by have := H5.out; omega⟩
        have HST : Aside0 ((st : Int) = stop ∧ st ≤ 255) := ⟨by have := H5.out; omega⟩
        have HJ := Aside0.mk (And.intro hlj hlc)
        have S5 : Aside0 (wa.heap[w.heap.size]? = some (.cells #[.int .u8 stop] 5 (0, 0))) := ⟨HO.out.blk S3.out (fun h => h Z3.out.1)⟩
        have HAV : Aside0 (∀ q, (q < w2.heap.size ∨ some q = (Value.slice A lst.length c).ownBlock) → q < wa.heap.size) := ⟨fun q h => h.elim (fun h => by have := Z3.out; have := HO.out.size; omega) (fun h => (Kd.R_bound HR.out).1 q h.symm |>.2.2.1)⟩
        have HC := Aside0.mk (Kd.R_reads' HR.out).2.2
        have HW0 : Aside0 (Below w.heap.size w wa) := ⟨((On.of_below B3.out).trans HO.out).to_below (Nat.le_refl _) (fun k (h : ¬ k < w2.heap.size) => by have := Z3.out; omega)⟩
        clear hst hlj hlc hlt hj
        go_wp2_with fail
        clear hc1 hc1n
        go_loopw [12, 13] (fun wt i wr => ∃ (q : Nat) (A2 : Option Addr) (c2 : Nat), q ≤ lst.length ∧ i = .int .i64 (q : Int) ∧ wt = .slice A2 (wnt frm (1 + st) ks q).length c2 ∧ (wnt frm (1 + st) ks q).length ≤ c2 ∧
          Aside0 (Kd.string.R 9 wr wa.heap.size (fun _ => True) (.slice A2 (wnt frm (1 + st) ks q).length c2) (wnt frm (1 + st) ks q)) ∧ Aside0 (Below wa.heap.size wa wr)) (fun _ i _ => lst.length - (intOf i).toNat)
        case atStart => exact ⟨0, none, 0, Nat.zero_le _, rfl, by simp [wnt], by simp [wnt], by simp only [wnt, List.take_zero, List.filter_nil, List.take_nil]; exact ⟨Kd.R_nil _ _ _ _ _⟩, ⟨Below.refl _ _⟩⟩
        case round =>
          obtain ⟨q, A2, c2, hq, rfl, rfl, hwc, HRW, HBW⟩ := hrel
          generalize hwb : wr = wb at *
          clear hwb
          by_cases hqn : q < lst.length
          · have hc2 : ((q : Int) < (lst.length : Int)) = True := eq_true (by omega)
            have hc2n : (q < lst.length) = True := eq_true hqn
            have p0 : 0 ≤ (q : Int) := by omega
            have p1 : (q : Int) < (ks.length : Int) := by rw [HKS.out.2]; omega
            obtain ⟨ak, rfl, ck⟩ := Kd.at_string (Kd.C_below HC.out HBW.out) (q : Int) p0 p1
            obtain ⟨y, hy⟩ : ∃ y, y = ks.getD q ByteArray.empty := ⟨_, rfl⟩
            rw [show rdOf ByteArray.empty ks (q : Int) = y from hy.symm, Int.toNat_natCast] at ck
            rw [HKS.out.2] at p1
            replace p0 := eq_true p0
            replace p1 := eq_true p1
            have ck5 : wb.cell? ⟨w.heap.size, 0, none⟩ = some (.int .u8 stop) := (blk_cell (blk_below S5.out HBW.out) 0).trans rfl
            have HWN := Aside0.mk (wnt_next frm (1 + st) ks q (by rw [HKS.out.2]; exact hqn))
            rw [← hy] at HWN
            have HWL := Aside0.mk (wnt_len frm (1 + st) ks q)
            have HQ : Aside0 (q < lst.length ∧ q ≤ 100) := ⟨hqn, by have := HJ.out.1; have := HL.out; omega⟩
            have hwq : wrap64 ((q : Int) + 1) = ((q + 1 : Nat) : Int) := by have := HQ.out.2; unfold wrap64; omega
            have HWQ := Aside0.mk hwq
            have HWC := Aside0.mk hwc
            obtain ⟨wl, hwl⟩ : ∃ wl, wl = wnt frm (1 + st) ks q := ⟨_, rfl⟩
            rw [← hwl] at HRW HWN HWL HWC ⊢
            clear hq hqn hy hwq hwc hwl
            have hws : wrap64 stop = stop := stop_w stop H5.out
            have hws2 : wrap64 (1 + stop) = 1 + stop := stop_w2 stop H5.out
            cases hyf : Op.bytesLess y.toList frm.toList with
            | true =>
              have HE : Aside0 (wnt frm (1 + st) ks (q + 1) = wl) := ⟨by rw [HWN.out, if_neg (by rw [show lt y frm = true from hyf]; simp)]⟩
              go_wp2_with fail
              go_roundw
              case rel => exact ⟨q + 1, A2, c2, HQ.out.1, by rw [HWQ.out], by rw [HE.out], by rw [HE.out]; exact HWC.out, by rw [HE.out]; exact HRW, HBW⟩
              case measure => have := HQ.out; rw [HWQ.out]; simp only [intOf]; omega
            | false =>
              by_cases hcn : (wl.length : Int) < 1 + stop
              · have hcn1 : ((wl.length : Int) < 1 + stop) = True := eq_true hcn
                have HE : Aside0 (wnt frm (1 + st) ks (q + 1) = wl ++ [y]) := ⟨by rw [HWN.out, if_pos ⟨hyf, by have := HST.out; omega⟩]⟩
                have HO1 : Aside0 (Kd.string.R 9 (wb.alloc (.cells #[.string y] 9 (0, 0))) wa.heap.size (fun _ => True) (.slice A2 wl.length c2) wl) := ⟨Kd.R_alloc HRW.out _⟩
                have HK1 := Aside0.mk (one_row wb y)
                clear hcn
                go_wp2_with (first | ((with_reducible refine gate_builtin (b := .append) (xs := #[.tmp 119, .tmp 124]) rfl ?_); at_builtin; refine Kd.R_append_row Value.string ByteArray.empty (h1 := fun _ => rfl) (w0 := wb.alloc (.cells #[.string y] 9 (0, 0))) wa.heap.size rfl (.tmp 119) (.tmp 124) 41 9 (.string ⟨#[]⟩) 16 rfl Try.underlying41 info_str rfl (by omega) (.slice A2 wl.length c2) wl [y] (some ⟨wb.heap.size, 0, none⟩) 1 1 (fun _ => True) rfl rfl (fun _ _ => trivial) HO1.out HK1.out (Below.refl _ _) ?aS ?aL ?_; (case aS => have := HBW.out.size; show wa.heap.size ≤ (wb.heap.push _).size; rw [Array.size_push]; omega); (case aL => have := HWL.out; have := HQ.out; omega); intro v1 w9 ho1 hb1 hg1 hn1; have R9 := Aside0.mk (And.intro ho1 hb1); clear ho1 hb1 hg1 hn1))
                obtain ⟨A9, c9, rfl, hlc9, _⟩ := Kd.R_reads R9.out.1
                go_roundw
                case rel =>
                  refine ⟨q + 1, A9, c9, HQ.out.1, by rw [HWQ.out], by rw [HE.out], by rw [HE.out]; exact hlc9, by rw [HE.out]; exact ⟨R9.out.1⟩, ⟨?_⟩⟩
                  exact (HBW.out.alloc HBW.out.size _).trans R9.out.2
                case measure => have := HQ.out; rw [HWQ.out]; simp only [intOf]; omega
              · have hcn1 : ((wl.length : Int) < 1 + stop) = False := eq_false hcn
                have HE : Aside0 (wnt frm (1 + st) ks (q + 1) = wl) := ⟨by rw [HWN.out, if_neg (fun h => hcn (by have := HST.out; have := h.2; omega))]⟩
                clear hcn
                go_wp2_with fail
                go_roundw
                case rel => exact ⟨q + 1, A2, c2, HQ.out.1, by rw [HWQ.out], by rw [HE.out], by rw [HE.out]; exact HWC.out, by rw [HE.out]; exact HRW, HBW⟩
                case measure => have := HQ.out; rw [HWQ.out]; simp only [intOf]; omega
          · have hc2 : ((lst.length : Int) < (lst.length : Int)) = False := eq_false (by omega)
            have hc2n : (lst.length < lst.length) = False := eq_false (by omega)
            obtain rfl : lst.length = q := by omega
            rw [← HKS.out.2] at hwc HRW ⊢
            obtain ⟨wl, hwl⟩ : ∃ wl, wl = wnt frm (1 + st) ks ks.length := ⟨_, rfl⟩
            have HSE : Aside0 ((goL (seeX stop) (lst.filter (fun p => !decide (byt p.1 frm < 0))) []).1 = wl) := ⟨by rw [hwl, ← HST.out.1]; exact seen_eq frm st lst ks HKS.out.1⟩
            have HWL : Aside0 (wl.length ≤ 100) := ⟨by rw [hwl]; have := wnt_len frm (1 + st) ks ks.length; have := HKS.out.2; have := HJ.out.1; have := HL.out; omega⟩
            rw [← hwl] at hwc HRW ⊢
            have HWC := Aside0.mk hwc
            rw [HKS.out.2]
            clear hwl hq hqn hwc
            go_wp2_with fail
            obtain ⟨w8, hw8⟩ : ∃ W, W = wb.alloc (Obj.cells #[.slice none 0 0] 41) := ⟨_, rfl⟩
            have h8 : w8.heap[wb.heap.size]? = some (.cells #[.slice none 0 0] 41 (0, 0)) := by rw [hw8]; exact blk_new _ _
            have hb8 : Below wb.heap.size wb w8 := by rw [hw8]; exact below_alloc (Below.refl _ _) _
            rw [← hw8]
            have GB := Aside0.mk (HG.out.below HBW.out)
            have G8 := Aside0.mk ((GB.out.more (av' := fun q => (q < w2.heap.size ∨ some q = (Value.slice A lst.length c).ownBlock) ∨ wb.heap.size ≤ q) (fun q h => h)).below hb8)
            have RW8 := Aside0.mk (Kd.R_below HRW.out hb8)
            have B8 := Aside0.mk (HBW.out.trans (hb8.mono HBW.out.size))
            have Z8 : Aside0 (wb.heap.size < w8.heap.size ∧ wa.heap.size ≤ wb.heap.size ∧ w.heap.size < wa.heap.size) := ⟨blk_lt h8, HBW.out.size, blk_lt S5.out⟩
            have T8 : Aside0 (Told wb.heap.size w.heap.size w8.heap.size stop [] w8) := ⟨⟨⟨.slice none 0 0, h8, Kd.R_nil _ _ _ _ _⟩, blk_below S5.out (HBW.out.trans (hb8.mono HBW.out.size))⟩⟩
            have OWN : Aside0 (∀ k, (Value.slice A2 wl.length c2).ownBlock = some k → wa.heap.size ≤ k ∧ k < wb.heap.size) := ⟨fun k h => ⟨Kd.R_base HRW.out k h, (Kd.R_bound HRW.out).1 k h |>.2.2.1⟩⟩
            clear hw8 h8 hb8 HRW
            refine (GroveSI.Walk_calls 19 ent1 byt All cmpX ordr_byt w2.heap.size (fun q => (q < w2.heap.size ∨ some q = (Value.slice A lst.length c).ownBlock) ∨ wb.heap.size ≤ q) (fun q => q = wb.heap.size ∨ w8.heap.size ≤ q) (fun q h => .inr (by have := Z8.out; omega)) lst frm trivial 22 ent2 #[.pointer (some ⟨wb.heap.size, 0, none⟩), .pointer (some ⟨w.heap.size, 0, none⟩)]
              (fun σ W => Told wb.heap.size w.heap.size w8.heap.size stop σ W ∧ w8.heap.size ≤ W.heap.size) (seeX stop) (fun _ _ => True) (fun σ => σ.length) 1000 (fun s k v _ => by simp [seeX])
              (fun σ W W' h hb => ⟨h.1.below hb, Nat.le_trans h.2 hb.size⟩)
              (fun σ k v W _ hm h => (see_calls wb.heap.size w.heap.size w8.heap.size stop H5.out (by have := Z8.out; omega) σ hm k v W h.2 h.1).mono (fun e w' h' => ⟨h'.1, ⟨h'.2.1, Nat.le_trans h.2 h'.2.2.size⟩, h'.2.2⟩))
              (fun _ _ => trivial) [] (by have := HJ.out.1; have := HL.out; simp only [List.length_nil]; omega) w8 G8.out ⟨T8.out, Nat.le_refl _⟩).mono ?_
            rintro e w9 ⟨rfl, ⟨h9, _⟩, hg9, ho9⟩
            rw [HSE.out] at h9
            have G9 := Aside0.mk hg9
            have O9 := Aside0.mk ho9
            have RW9 : Aside0 (Kd.string.R 9 w9 wa.heap.size (fun _ => True) (.slice A2 wl.length c2) wl) := ⟨Kd.R_mono (Kd.R_step (Kd.R_tight rfl RW8.out) (fun k hk hlt => ho9.block k hlt (fun h => by have h1 := (OWN.out k hk.symm).2; have h2 := Z8.out.1; rcases h with h | h <;> omega))) (fun _ _ => trivial)⟩
            have BW9 : Aside0 (Below w.heap.size w w9) := ⟨HW0.out.trans ((B8.out.mono (by have := Z8.out; omega)).trans (ho9.to_below (by have := Z8.out; have := B8.out.size; omega) (fun k h => by have := Z8.out; have := B8.out.size; omega)))⟩
            obtain ⟨⟨v9, hv9, hr9⟩, _⟩ := h9
            obtain ⟨AG, cg, rfl, _, _⟩ := Kd.R_reads hr9
            have CG : Aside0 (w9.cell? ⟨wb.heap.size, 0, none⟩ = some (.slice AG wl.length cg)) := ⟨(blk_cell hv9 0).trans rfl⟩
            have CR := Aside0.mk (Kd.R_reads' hr9).2.2
            have CW := Aside0.mk (Kd.R_reads' RW9.out).2.2
            have ckg := CG.out
            clear hg9 ho9 hv9 hr9
            go_wp2_with fail
            clear ckg
            go_loopw [15] (fun i wr => ∃ q : Nat, q ≤ wl.length ∧ i = .int .i64 (q : Int) ∧ Aside0 (Below w9.heap.size w9 wr)) (fun i _ => wl.length - (intOf i).toNat)
            case atStart => exact ⟨0, Nat.zero_le _, rfl, ⟨Below.refl _ _⟩⟩
            case round =>
              obtain ⟨q, hq, rfl, HBC⟩ := hrel
              have ckg := cell_keep HBC.out CG.out
              by_cases hqn : q < wl.length
              · have hc2 : ((q : Int) < (wl.length : Int)) = True := eq_true (by omega)
                have hc2n : (q < wl.length) = True := eq_true hqn
                have p0 : 0 ≤ (q : Int) := by omega
                have p1 : (q : Int) < (wl.length : Int) := by omega
                obtain ⟨ag, rfl, cg1⟩ := Kd.at_string (Kd.C_below CR.out HBC.out) (q : Int) p0 p1
                obtain ⟨aw, rfl, cw1⟩ := Kd.at_string (Kd.C_below CW.out HBC.out) (q : Int) p0 p1
                obtain ⟨y, hy⟩ : ∃ y, y = rdOf ByteArray.empty wl (q : Int) := ⟨_, rfl⟩
                rw [← hy, Int.toNat_natCast] at cg1 cw1
                replace p0 := eq_true p0
                replace p1 := eq_true p1
                have HQ : Aside0 (q < wl.length ∧ q ≤ 100) := ⟨hqn, by have := HWL.out; omega⟩
                have hwq : wrap64 ((q : Int) + 1) = ((q + 1 : Nat) : Int) := by have := HQ.out.2; unfold wrap64; omega
                have HWQ := Aside0.mk hwq
                clear hq hqn hwq hy
                go_wp2_with fail
                repeat (go_quiet (fail); try go_wp2_with fail)
                refine ⟨⟨q + 1, HQ.out.1, by rw [HWQ.out], ⟨pw_below_drewN HBC.out _⟩⟩, ?_⟩
                rw [HWQ.out]
                simp only [intOf]
                have := HQ.out
                omega
              · have hc2 : ((wl.length : Int) < (wl.length : Int)) = False := eq_false (by omega)
                have hc2n : (wl.length < wl.length) = False := eq_false (by omega)
                obtain rfl : wl.length = q := by omega
                have GC := Aside0.mk (G9.out.below HBC.out)
                obtain ⟨pv, hcell⟩ := GC.out.cell
                have HCL := Aside0.mk hcell
                clear hq hqn hcell
                go_wp2_with fail
                refine (GroveSI.Len_calls w2.heap.size _ pv _ _ HCL.out).mono ?_
                rintro e w12 ⟨rfl, rfl⟩
                go_wp2
                go_ret
                exact ⟨rfl, BW9.out.trans (HBC.out.mono BW9.out.size)⟩
end Go.Proofs.YtbajekndbamcmaaW.GroveX

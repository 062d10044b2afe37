/- Rows of last answers joined: Grow, Concat, Merge. No condition. -/
import Derived.Test.YtdeepnpbibhfiaaWOnce9
import Derived.Shelf.Spec.SlicesGrow
namespace Go.Proofs
open Go.RowKit Go.Maps Go.Sort Go.Shelf
def Try.growA_ren : Go.Shelf.Ren := ⟨fun | 4 => 30 | n => n, fun | 22 => 36 | 25 => 39 | n => n, fun | n => n⟩
theorem Try.growA : Go.Proofs.Lays8.n4 Try.prog Try.growA_ren := {
  mixed := by kernel_rfl
  f4 := ⟨"slices.Grow[[]gazetteer/once.Last,gazetteer/once.Last]", by decide, Try.func30.trans (congrArg some (by kernel_rfl))⟩
  t0 := Try.underlying0
  a0 := Try.isAgg0
  z0 := Try.sizeOf0
  v0 := Try.zeroValue0
  t3 := Try.underlying3
  a3 := Try.isAgg3
  z3 := Try.sizeOf3
  v3 := Try.zeroValue3
  t4 := Try.underlying4
  a4 := Try.isAgg4
  z4 := Try.sizeOf4
  v4 := Try.zeroValue4
  t9 := Try.underlying9
  a9 := Try.isAgg9
  z9 := Try.sizeOf9
  v9 := Try.zeroValue9
  t20 := Try.underlying20
  a20 := Try.isAgg20
  z20 := Try.sizeOf20
  v20 := Try.zeroValue20
  t22 := Try.underlying36
  a22 := Try.isAgg36
  z22 := Try.sizeOf36
  v22 := Try.zeroValue36 }
end Go.Proofs
namespace Go.Proofs.YtdeepnpbibhfiaaW.PrintOnce
open Go Go.RowKit Go.Maps Go.Proofs.YtdeepnpbibhfiaaW.PrintWords Go.Proofs.YtdeepnpbibhfiaaW.PrintLast Go.Proofs.YtdeepnpbibhfiaaW.PrintMore Go.Proofs.YtdeepnpbibhfiaaW.PrintReg Go.Proofs.YtdeepnpbibhfiaaW.PrintTree
set_option linter.unusedVariables false
set_option linter.unusedSimpArgs false
/-- A row of last answers whose elements are told by the world w0 and its blocks of P. -/
def kF (w0 : World) (P : Nat → Prop) : Kd S39 where
  sz := 9
  E := []
  K := fun _ x cs => Kd.FK k39 w0 P x cs
  M := fun _ _ _ x cs => Kd.FK k39 w0 P x cs
  K_below := fun _ h => h
  M_mono := fun _ h => h
  M_move := fun _ h => h
  M_bound := fun h => h
  K_of_M := fun h => h
  K_len := fun h => k39.K_len (Kd.FK_now h)
  K_one := fun h => k39.K_one (Kd.FK_now h)
  M_lower := fun _ h => h
theorem kF_V {w0 wr : World} {P ok : Nat → Prop} {base base' : Nat} {v : Value} {xs : List S39} (h : (kF w0 P).R 39 wr base ok v xs) (hm : ∀ k, P k → k < w0.heap.size → wr.heap[k]? = w0.heap[k]?) : Kd.V k39 39 wr base' (fun k => (P k ∧ k < w0.heap.size) ∨ some k = v.ownBlock) v xs := by
  have h2 := Kd.R_tight rfl h
  obtain ⟨A, c, rfl⟩ := Kd.R_slice h2
  have h3 := Kd.R_F h2
  refine ⟨A, c, rfl, (Kd.R_reads' h2).2.1, fun W' hW => ?_⟩
  obtain ⟨e1, e2, e3⟩ := h3 W' (fun k hk hlt => hW k (.inr hk) hlt)
  refine ⟨e1, e2, fun hp => ?_⟩
  obtain ⟨ad, ea, hx⟩ := e3 hp
  refine ⟨ad, ea, fun j p hj => ?_⟩
  obtain ⟨cs, q1, q2, q3⟩ := hx j p hj
  exact ⟨cs, q1, q2 W' (fun k hk hlt => (hW k (.inl ⟨hk, hlt⟩) (heap_lt (hm k hk hlt) hlt)).trans (hm k hk hlt)), q3⟩
theorem grow30 (w0 : World) (P : Nat → Prop) (n : Nat) (w : World) (hn : n ≤ 10000000) :
    Calls Try.prog 30 #[.slice none 0 0, .int .i64 (n : Int)] w fun e w' => ∃ v, e = .returned v ∧ (kF w0 P).R 39 w' w.heap.size (fun _ => True) v [] ∧ Below w.heap.size w w' := by
  obtain ⟨i0, hi0, hz, hs, hbt⟩ := info_parts info39
  by_cases h0 : n = 0
  · subst h0
    refine (Any8.slices_Grow_room Try.growA none 0 0 0 w (Nat.le_refl _) (by omega) (by omega) (by omega)).mono ?_
    rintro e w' ⟨rfl, rfl⟩
    exact ⟨_, rfl, Kd.R_nil _ _ _ _ _, Below.refl _ _⟩
  · refine (Any8.slices_Grow_grow Try.growA i0 (.agg #[(.int .i64 0), (.int .i64 0), (.int .i64 0), (.int .i64 0), (.bool false), (.string ⟨#[]⟩), (.slice none 0 0), (.string ⟨#[]⟩), (.bool false)]) hi0 hz (by rw [hs]; decide) none 0 0 n [] w (Nat.le_refl _) (by omega) (by rw [hbt]; omega) (by omega) (by simp) (fun _ => rfl) (fun a h => by cases h)).mono ?_
    rintro e w' ⟨rfl, rfl⟩
    have hb : Below w.heap.size w (w.drew.alloc (.cells (([] : List Value).toArray ++ Builtin.zeroCells ((.agg #[(.int .i64 0), (.int .i64 0), (.int .i64 0), (.int .i64 0), (.bool false), (.string ⟨#[]⟩), (.slice none 0 0), (.string ⟨#[]⟩), (.bool false)]) : Value).cells (0 + n - 0) ++ Builtin.zeroCells ((.agg #[(.int .i64 0), (.int .i64 0), (.int .i64 0), (.int .i64 0), (.bool false), (.string ⟨#[]⟩), (.slice none 0 0), (.string ⟨#[]⟩), (.bool false)]) : Value).cells (grownCap w (0 + n) 0 39 - (0 + n))) 39)) := below_alloc (below_drew (Below.refl _ _)) _
    refine ⟨_, rfl, ⟨fun _ _ => trivial, [], ⟨rfl, .inr ⟨w.heap.size, _, _, rfl, Nat.le_refl _, blk_new w.drew _, Nat.zero_le _, grownCap_le_maxLen w (0 + n) 0 _ (by unfold maxLen; omega), ?_, rfl⟩⟩, Reps.none _ _⟩, hb⟩
    have hge := grownCap_ge w (0 + n) 0 39
    rw [show (Value.cells (.agg #[(.int .i64 0), (.int .i64 0), (.int .i64 0), (.int .i64 0), (.bool false), (.string ⟨#[]⟩), (.slice none 0 0), (.string ⟨#[]⟩), (.bool false)])) = _ from rfl]
    simp only [Array.size_append, size_zeroCells, List.size_toArray, List.length_nil]
    show 0 + (0 + n - 0) * 9 + (grownCap w (0 + n) 0 39 - (0 + n)) * 9 = grownCap w (0 + n) 0 39 * 9
    omega
set_option maxHeartbeats 4000000 in
set_option maxRecDepth 100000 in
theorem concat25 (P : Nat → Prop) (g : Nat) (A1 A2 : Option Addr) (n1 n2 c1 c2 : Nat) (l1 l2 : List S39) (w : World) (hg : w.heap[g]? = some (.cells #[.slice A1 n1 c1, .slice A2 n2 c2] 36 (0, 0)))
    (h1 : Kd.V k39 39 w 0 P (.slice A1 n1 c1) l1) (h2 : Kd.V k39 39 w 0 P (.slice A2 n2 c2) l2) (hl1 : l1.length ≤ 1000000) (hl2 : l2.length ≤ 1000000) :
    Calls Try.prog 25 #[.slice (some ⟨g, 0, none⟩) 2 2] w fun e w' => ∃ v, e = .returned v ∧ Kd.V k39 39 w' 0 (fun k => P k ∨ w.heap.size ≤ k) v (l1 ++ l2) ∧ Below w.heap.size w w' := by
  obtain ⟨e1, -, f1⟩ := Kd.V_at h1
  obtain ⟨e2, -, f2⟩ := Kd.V_at h2
  have HL : Aside0 ((n1 = l1.length ∧ n2 = l2.length) ∧ l1.length ≤ 1000000 ∧ l2.length ≤ 1000000) := ⟨⟨⟨e1, e2⟩, hl1, hl2⟩⟩
  have HG := Aside0.mk hg
  rw [← e1] at f1
  rw [← e2] at f2
  have HF := Aside0.mk (And.intro (Kd.F_rows f1) (Kd.F_rows f2))
  have q0 : w.cell? ⟨g, 0, none⟩ = some (.slice A1 n1 c1) := (blk_cell hg 0).trans rfl
  have q1 : w.cell? ⟨g, 1, none⟩ = some (.slice A2 n2 c2) := (blk_cell hg 1).trans rfl
  have s1 : wrap64 (n1 : Int) = (n1 : Int) := by unfold wrap64; omega
  have s2 : wrap64 ((n1 : Int) + (n2 : Int)) = ((n1 + n2 : Nat) : Int) := by unfold wrap64; omega
  have s3 : (wrap64 (n1 : Int) < 0) = False := eq_false (by rw [s1]; omega)
  have s4 : (wrap64 ((n1 : Int) + (n2 : Int)) < 0) = False := eq_false (by rw [s2]; omega)
  have HS := Aside0.mk (And.intro s1 s2)
  clear s1 s2
  clear h1 h2 hl1 hl2 hg e1 e2 f1 f2
  go_enter Try.func25, Try.ntmps25
  go_wp2_with fail
  go_loopw [3, 11] (fun v3 v11 wr => Aside0 (wr = w) ∧ ((v11 = .int .i64 0 ∧ v3 = .int .i64 0) ∨ (v11 = .int .i64 1 ∧ v3 = .int .i64 (n1 : Int)) ∨ (v11 = .int .i64 2 ∧ v3 = .int .i64 ((n1 + n2 : Nat) : Int)))) (fun _ v11 _ => 2 - (intOf v11).toNat)
  case atStart => exact ⟨⟨rfl⟩, .inl ⟨rfl, rfl⟩⟩
  case round =>
    obtain ⟨HW, ⟨rfl, rfl⟩ | ⟨rfl, rfl⟩ | ⟨rfl, rfl⟩⟩ := hrel
    · obtain rfl := HW.out
      go_wp2_with fail
      go_roundw
      case rel => exact ⟨⟨by first | rfl | trivial⟩, .inr (.inl ⟨rfl, by rw [HS.out.1]⟩)⟩
      case measure => decide
    · obtain rfl := HW.out
      go_wp2_with fail
      go_roundw
      case rel => exact ⟨⟨by first | rfl | trivial⟩, .inr (.inr ⟨rfl, by rw [HS.out.2]⟩)⟩
      case measure => decide
    · obtain rfl := HW.out
      clear HW q0 q1
      go_wp2_with fail
      refine (grow30 wr P (n1 + n2) wr (by have := HL.out; omega)).mono ?_
      rintro e w1 ⟨v, rfl, hR, hb⟩
      have HR := Aside0.mk hR
      have HB := Aside0.mk hb
      clear hR hb
      go_wp2_with fail
      go_loopw [6, 27] (fun v6 v27 ws => ((v27 = .int .i64 0 ∧ Aside0 ((kF wr P).R 39 ws wr.heap.size (fun _ => True) v6 [])) ∨ (v27 = .int .i64 1 ∧ Aside0 ((kF wr P).R 39 ws wr.heap.size (fun _ => True) v6 l1)) ∨ (v27 = .int .i64 2 ∧ Aside0 ((kF wr P).R 39 ws wr.heap.size (fun _ => True) v6 (l1 ++ l2)))) ∧ Aside0 (Below wr.heap.size wr ws)) (fun _ v27 _ => 2 - (intOf v27).toNat)
      case atStart => exact ⟨.inl ⟨rfl, HR⟩, HB⟩
      case round =>
        rename World => ws
        clear HR HB
        obtain ⟨⟨rfl, HR⟩ | ⟨rfl, HR⟩ | ⟨rfl, HR⟩, HB⟩ := hrel
        · have q0 : ws.cell? ⟨g, 0, none⟩ = some (.slice A1 n1 c1) := (blk_cell (blk_below HG.out HB.out) 0).trans rfl
          go_wp2_with ((with_reducible refine gate_builtin (b := .append) (xs := #[.tmp 31, .tmp 32]) rfl ?_); at_builtin; refine Kd.R_append_rows (kF wr P) (Rr := fun x c => Kd.FK k39 wr P x c) (w0 := wr) wr.heap.size rfl (.tmp 31) (.tmp 32) 36 39 (.agg #[(.int .i64 0), (.int .i64 0), (.int .i64 0), (.int .i64 0), (.bool false), (.string ⟨#[]⟩), (.slice none 0 0), (.string ⟨#[]⟩), (.bool false)]) 104 rfl Try.underlying36 info39 rfl (show 0 < 9 by decide) (by omega) u6 [] l1 A1 n1 c1 (fun _ => True) (fun _ => False) rfl rfl HR.out (ReadsRow.imp_ HF.out.1 HB.out (fun _ _ h => h)) (fun _ _ h => h) (fun _ h => h.elim) (fun _ _ => trivial) HB.out HB.out.size ?aL ?_; (case aL => have h9 := HL.out; rw [List.length_nil]; omega); intro v2 w2 ho2 hb2 hg2 hat2; have HR2 := Aside0.mk ho2; have HB2 := Aside0.mk hb2; clear ho2 hb2 hg2 hat2)
          go_roundw
          case rel => exact ⟨.inr (.inl ⟨rfl, HR2⟩), HB2⟩
          case measure => decide
        · have q1 : ws.cell? ⟨g, 1, none⟩ = some (.slice A2 n2 c2) := (blk_cell (blk_below HG.out HB.out) 1).trans rfl
          go_wp2_with ((with_reducible refine gate_builtin (b := .append) (xs := #[.tmp 31, .tmp 32]) rfl ?_); at_builtin; refine Kd.R_append_rows (kF wr P) (Rr := fun x c => Kd.FK k39 wr P x c) (w0 := wr) wr.heap.size rfl (.tmp 31) (.tmp 32) 36 39 (.agg #[(.int .i64 0), (.int .i64 0), (.int .i64 0), (.int .i64 0), (.bool false), (.string ⟨#[]⟩), (.slice none 0 0), (.string ⟨#[]⟩), (.bool false)]) 104 rfl Try.underlying36 info39 rfl (show 0 < 9 by decide) (by omega) u6 l1 l2 A2 n2 c2 (fun _ => True) (fun _ => False) rfl rfl HR.out (ReadsRow.imp_ HF.out.2 HB.out (fun _ _ h => h)) (fun _ _ h => h) (fun _ h => h.elim) (fun _ _ => trivial) HB.out HB.out.size ?aL ?_; (case aL => have h9 := HL.out; omega); intro v2 w2 ho2 hb2 hg2 hat2; have HR2 := Aside0.mk ho2; have HB2 := Aside0.mk hb2; clear ho2 hb2 hg2 hat2)
          go_roundw
          case rel => exact ⟨.inr (.inr ⟨rfl, HR2⟩), HB2⟩
          case measure => decide
        · go_wp2_with fail
          go_ret
          exact ⟨_, rfl, Kd.V_mono (kF_V HR.out (fun k hk hlt => HB.out.block k hlt)) (fun k hk => by
            rcases hk with hk | hk
            · exact .inl hk.1
            · obtain ⟨inn, ho⟩ := Kd.R_own HR.out
              exact .inr (own_base ho k hk.symm)), HB.out⟩
set_option maxHeartbeats 4000000 in
set_option maxRecDepth 100000 in
theorem merge17 (P : Nat → Prop) (A1 A2 : Option Addr) (n1 n2 c1 c2 : Nat) (l1 l2 : List S33) (w : World) (h1 : Kd.V k39 39 w 0 P (.slice A1 n1 c1) (l1.map mkL)) (h2 : Kd.V k39 39 w 0 P (.slice A2 n2 c2) (l2.map mkL))
    (hwf : ∀ x ∈ l1 ++ l2, (Lit.int .i64 x.f0).wf = true ∧ x.f5.length ≤ 1000000) (hl1 : l1.length ≤ 400000) (hl2 : l2.length ≤ 400000) :
    Calls Try.prog 17 #[.slice A1 n1 c1, .slice A2 n2 c2] w fun e w' => ∃ v, e = .returned v ∧ Kd.V k39 39 w' 0 (fun _ => True) v (((l1 ++ l2).foldl noteT []).map mkL) ∧ Below w.heap.size w w' := by
  have HV := Aside0.mk (And.intro (Kd.V_bound h1) (Kd.V_bound h2))
  have HWF := Aside0.mk hwf
  have HLL := Aside0.mk (And.intro hl1 hl2)
  clear h1 h2 hwf hl1 hl2
  go_enter Try.func17, Try.ntmps17
  go_wp2_with fail
  refine (new7 w).mono ?_
  rintro e w1 ⟨rfl, hT, hb⟩
  obtain ⟨g, hg⟩ : ∃ g, g = w.heap.size + 1 := ⟨_, rfl⟩
  obtain ⟨bm, hbm⟩ : ∃ bm, bm = w.heap.size := ⟨_, rfl⟩
  rw [← hg, ← hbm] at hT
  rw [← hg]
  obtain ⟨W2, hW2⟩ : ∃ W2, W2 = w1.alloc (.cells #[.slice A1 n1 c1, .slice A2 n2 c2] 36) := ⟨_, rfl⟩
  obtain ⟨gs, hgs⟩ : ∃ gs, gs = w1.heap.size := ⟨_, rfl⟩
  have HB2 : Aside0 (Below w.heap.size w W2) := ⟨by rw [hW2]; exact below_alloc hb _⟩
  have HG2 : Aside0 (W2.heap[gs]? = some (.cells #[.slice A1 n1 c1, .slice A2 n2 c2] 36 (0, 0))) := ⟨by rw [hW2, hgs]; exact blk_new w1 _⟩
  have HG : Aside0 (W2.heap[g]? = some (.cells #[.map (some bm)] 56 (0, 0)) ∧ w.heap.size ≤ g) := ⟨by
    obtain ⟨ms, m1, _⟩ := hT
    rw [hW2]
    exact ⟨blk_below m1 (below_alloc (Below.refl _ _) _), by omega⟩⟩
  clear hT hb hg hbm
  go_wp2_with fail
  try rw [← hW2]
  try rw [← hgs]
  clear hW2 hgs
  refine (concat25 (fun k => P k ∧ k < w.heap.size) gs A1 A2 n1 n2 c1 c2 (l1.map mkL) (l2.map mkL) W2 HG2.out (Kd.V_below HV.out.1 HB2.out) (Kd.V_below HV.out.2 HB2.out) (by rw [List.length_map]; have := HLL.out; omega) (by rw [List.length_map]; have := HLL.out; omega)).mono ?_
  rintro e w3 ⟨v, rfl, hV, hb3⟩
  rw [← List.map_append] at hV
  obtain ⟨A, c, rfl⟩ := Kd.V_slice hV
  obtain ⟨n, hn⟩ : ∃ n, n = ((l1 ++ l2).map mkL).length := ⟨_, rfl⟩
  rw [← hn] at hV ⊢
  have HV3 := Aside0.mk hV
  have HB3 := Aside0.mk hb3
  clear hn hV hb3
  go_wp2_with fail
  refine (set13 g (.map (some bm)) (l1 ++ l2) A n c _ w3 (blk_below HG.out.1 HB3.out) HV3.out (fun k hk => by
    have h1 := HG.out.2; have h2 := blk_lt HG.out.1
    rcases hk with hk | hk
    · have := hk.2; omega
    · omega) HWF.out (by rw [List.length_append]; have := HLL.out; omega)).mono ?_
  rintro e w4 ⟨rfl, hT4, ho4⟩
  have HB4 : Aside0 (Below w.heap.size w w4) := ⟨(below_step HB2.out HB3.out).trans (ho4.to_below (below_step HB2.out HB3.out).size (fun k hk => by rw [hk]; exact HG.out.2))⟩
  have HT4 := Aside0.mk hT4
  clear hT4 ho4
  go_wp2_with fail
  refine (all10 0 g _ _ w4 HT4.out (by have := fold_len (l1 ++ l2) []; rw [List.length_append, List.length_nil] at this; have := HLL.out; omega) (fun x hx => by rcases fold_mem _ hx with h | h; exact (HWF.out x h).1; cases h)).mono ?_
  rintro e w5 ⟨v, rfl, hR, hb5⟩
  have HV5 := Aside0.mk (Kd.R_V (base' := 0) hR)
  have HB5 := Aside0.mk (below_step HB4.out hb5)
  clear hR hb5
  go_wp2_with fail
  go_ret
  exact ⟨_, rfl, HV5.out, HB5.out⟩
/-! ### a row of last answers, merged with itself -/
theorem note_old {T : List S33} {x : S33} (hr : RisT T) (hx : x ∈ T) : noteT T x = T := by
  obtain ⟨i, hi, rfl⟩ := List.getElem_of_mem hx
  unfold noteT seqT
  rw [lkT_at hr hi]
  simp
theorem fold_old {T : List S33} (hr : RisT T) : ∀ {l : List S33}, (∀ x ∈ l, x ∈ T) → l.foldl noteT T = T
  | [], _ => rfl
  | x :: r, h => by rw [List.foldl_cons, note_old hr (h x (by simp))]; exact fold_old hr (fun y hy => h y (by simp [hy]))
theorem note_last {T : List S33} {x : S33} (hlt : ∀ y ∈ T, y.f0 < x.f0) (hx : 0 ≤ x.f1) : noteT T x = T ++ [x] := by
  have h1 : lkT T x.f0 = none := by
    unfold lkT
    rw [List.find?_eq_none]
    intro y hy; have := hlt y hy
    simp; omega
  have h2 : ∀ {T : List S33}, (∀ y ∈ T, y.f0 < x.f0) → insT x T = T ++ [x] := by
    intro T
    induction T with
    | nil => intro _; rfl
    | cons y r ih => intro h; unfold insT; rw [if_neg (by have := h y (by simp); omega), ih (fun z hz => h z (by simp [hz]))]; rfl
  unfold noteT seqT putT
  rw [h1, if_pos (by show (-1 : Int) < x.f1; omega), List.filter_eq_self.2 (fun y hy => by have := hlt y hy; simp; omega)]
  exact h2 hlt
theorem fold_self {T : List S33} (hr : RisT T) (hq : ∀ x ∈ T, 0 ≤ x.f1) : T.foldl noteT [] = T := by
  have h : ∀ (r p : List S33), p ++ r = T → r.foldl noteT p = T := by
    intro r
    induction r with
    | nil => intro p h; rw [List.append_nil] at h; exact h
    | cons x r ih =>
      intro p h
      have hr2 := hr
      rw [← h] at hr2
      have h3 := List.pairwise_append.1 hr2
      rw [List.foldl_cons, note_last (fun y hy => h3.2.2 y hy x (by simp)) (hq x (by rw [← h]; simp))]
      exact ih (p ++ [x]) (by rw [← h]; simp)
  exact h T [] rfl
theorem fold_twice {T : List S33} (hr : RisT T) (hq : ∀ x ∈ T, 0 ≤ x.f1) : (T ++ T).foldl noteT [] = T := by
  rw [List.foldl_append, fold_self hr hq]
  exact fold_old hr (fun _ h => h)
/-- An element of the reference's row, whole. -/
theorem at_M9 {w w0 : World} {base : Nat} {ok : Nat → Prop} {A : Option Addr} {n c : Nat} {T : List S33} (h : (kW w0).R 47 w base ok (.slice A n c) T) (i : Nat) (hi : i < T.length) : ∃ ad A6 c6, A = some ad ∧ (w.cell? ⟨(ad.add (i * 9)).block, (ad.add (i * 9)).off + 1, none⟩ = some (.int .i64 T[i].f0) ∧ w.cell? ⟨(ad.add (i * 9)).block, (ad.add (i * 9)).off + 2, none⟩ = some (.int .i64 T[i].f1) ∧ w.cell? ⟨(ad.add (i * 9)).block, (ad.add (i * 9)).off + 3, none⟩ = some (.int .i64 T[i].f2) ∧ w.cell? ⟨(ad.add (i * 9)).block, (ad.add (i * 9)).off + 4, none⟩ = some (.bool T[i].f3) ∧ w.cell? ⟨(ad.add (i * 9)).block, (ad.add (i * 9)).off + 5, none⟩ = some (.string T[i].f4) ∧ w.cell? ⟨(ad.add (i * 9)).block, (ad.add (i * 9)).off + 6, none⟩ = some (.slice A6 T[i].f5.length c6) ∧ w.cell? ⟨(ad.add (i * 9)).block, (ad.add (i * 9)).off + 7, none⟩ = some (.string T[i].f6) ∧ w.cell? ⟨(ad.add (i * 9)).block, (ad.add (i * 9)).off + 8, none⟩ = some (.bool T[i].f7)) ∧ T[i].f5.length ≤ c6 ∧ k71.C w0 A6 T[i].f5.length T[i].f5 := by
  obtain ⟨h1, h2, h3⟩ := Kd.R_reads' h
  obtain ⟨ad, cs, e, _, hK, hc0⟩ := Kd.C_get h3 z33 (i : Int) (by omega) (by omega)
  have hc : ∀ j u, cs[j]? = some u → w.cell? (ad.add (i * 9 + j)) = some u := hc0
  have e1 : T.getD (i : Int).toNat z33 = T[i] := by rw [Int.toNat_natCast, List.getD_eq_getElem?_getD, List.getElem?_eq_getElem hi]; rfl
  rw [e1] at hK
  obtain ⟨A6, c6, rfl, l6, g6⟩ := k47_open (x := mkM T[i]) hK
  exact ⟨ad, A6, c6, e, ⟨by rw [← add_field _ _ 1 (by omega)]; exact hc 1 _ rfl, by rw [← add_field _ _ 2 (by omega)]; exact hc 2 _ rfl, by rw [← add_field _ _ 3 (by omega)]; exact hc 3 _ rfl, by rw [← add_field _ _ 4 (by omega)]; exact hc 4 _ rfl, by rw [← add_field _ _ 5 (by omega)]; exact hc 5 _ rfl, by rw [← add_field _ _ 6 (by omega)]; exact hc 6 _ rfl, by rw [← add_field _ _ 7 (by omega)]; exact hc 7 _ rfl, by rw [← add_field _ _ 8 (by omega)]; exact hc 8 _ rfl⟩, l6, g6⟩
end Go.Proofs.YtdeepnpbibhfiaaW.PrintOnce

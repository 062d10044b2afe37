-- printed by a program of this session (wip/tools), a turned form of the kit's print
import Derived.Test.YtbajekndbamcmaaWPeel
import Derived.Test.YtbajekndbamcmaaPAtlasBackx0
namespace Go.Proofs.Ytbajekndbamcmaa.PAtlasBack
open Go.RowKit Go.Proofs.YtbajekndbamcmaaW.PrintWords Go.Proofs.YtbajekndbamcmaaW.PrintLast Go.Proofs.YtbajekndbamcmaaW.PrintMore
attribute [local go_sem] max2_int min2_int max_two min_two max_three min_three max_four min_four max2_str min2_str str_geq str_leq str_gtr   -- for this text's walks alone
set_option linter.unusedVariables false
set_option linter.unusedSimpArgs false

/-! ### atlas_of: function 53 -/
def atlas_of.f (a0_0 : ByteArray) (a0_1 : ByteArray) (a0_2 : Int) (a0_3 : Int) : Option (ByteArray × ByteArray) := some (a0_0, a0_1)
set_option maxHeartbeats 8000000 in
set_option maxRecDepth 100000 in
theorem atlas_of.calls (a0_0 : ByteArray) (a0_1 : ByteArray) (a0_2 : Int) (a0_3 : Int) (r1 : ByteArray) (r2 : ByteArray) (w : World) (h : atlas_of.f a0_0 a0_1 a0_2 a0_3 = some (r1, r2)) :
    Calls Try.prog 53 #[.agg #[.string a0_0, .string a0_1, .int .i64 a0_2, .int .i64 a0_3]] w fun e w' => e = .returned (.agg #[.string r1, .string r2]) ∧ Below w.heap.size w w' := by
  have hu30 := Try.underlying30
  have hu28 := Try.underlying28
  have HB := Aside0.mk (Below.refl w.heap.size w)
  have H : (some (a0_0, a0_1)) = some (r1, r2) := h
  clear h
  simp only [Option.some.injEq, Prod.mk.injEq] at H
  obtain ⟨rfl, rfl⟩ := H
  go_enter Try.func53, Try.ntmps53
  go_wp2_with (first | ((with_reducible refine gate_dst (N := 1) rfl ?_); refine box_event ?hg (N := 1) ?hd (cs := #[.string a0_0, .string a0_1, .int .i64 a0_2, .int .i64 a0_3]) (t := 30) ?hr ?_; (case hd => rfl); (case hg => rfl); (case hr => first | (go_simp; done) | (go_simp; rfl)); intro gb101 hg w2 hbox hb; have BK101 := Aside0.mk (hbox); have GW101 := geL hg HB.out; have GE101 := geL hg HB.out; replace HB := Aside0.mk (below_step (pB HB.out) hb); clear hb hbox hg) | ((with_reducible refine gate_dst (N := 2) rfl ?_); refine box_event ?hg (N := 2) ?hd (cs := #[.string (⟨#[]⟩ : ByteArray), .string (⟨#[]⟩ : ByteArray)]) (t := 28) ?hr ?_; (case hd => rfl); (case hg => rfl); (case hr => first | (go_simp; done) | (go_simp; rfl)); intro gb102 hg w3 hbox hb; have BK102 := Aside0.mk (hbox); have GW102 := geL hg HB.out; have GE102 := geL hg HB.out; have NB101_102 := neL hg BK101.out; have NB102_101 := neG hg BK101.out; replace BK101 := Aside0.mk (blk_below BK101.out hb); replace HB := Aside0.mk (below_step (pB HB.out) hb); clear hb hbox hg; have hnb4 := NB101_102.out; have hnc4 := NB102_101.out; have hcz5_0 : w3.cell? ⟨gb101, 0, none⟩ = some (.string a0_0) := blk_cell BK101.out 0; have hcz5_1 : w3.cell? ⟨gb101, 1, none⟩ = some (.string a0_1) := blk_cell BK101.out 1; have hcz5_2 : w3.cell? ⟨gb101, 2, none⟩ = some (.int .i64 a0_2) := blk_cell BK101.out 2; have hcz5_3 : w3.cell? ⟨gb101, 3, none⟩ = some (.int .i64 a0_3) := blk_cell BK101.out 3; have hfz5_0 := blk_frozen BK101.out 0; have hfz5_1 := blk_frozen BK101.out 1; have hfz5_2 := blk_frozen BK101.out 2; have hfz5_3 := blk_frozen BK101.out 3; have hcz6_0 : w3.cell? ⟨gb102, 0, none⟩ = some (.string (⟨#[]⟩ : ByteArray)) := blk_cell BK102.out 0; have hcz6_1 : w3.cell? ⟨gb102, 1, none⟩ = some (.string (⟨#[]⟩ : ByteArray)) := blk_cell BK102.out 1; have hfz6_0 := blk_frozen BK102.out 0; have hfz6_1 := blk_frozen BK102.out 1))
  refine bodyPost_ret (results_cell_row rfl _ _ gb102 28 #[.string a0_0, .string a0_1] (0, 0) _ rfl (by (with_reducible repeat (first | refine blk_drewN ?_ _ | refine blk_drew ?_ | refine blk_alloc ?_ _)); refine blk_put (cs := #[.string a0_0, .string (⟨#[]⟩ : ByteArray)]) ?_ 1 _ rfl; (with_reducible repeat (first | refine blk_drewN ?_ _ | refine blk_drew ?_ | refine blk_alloc ?_ _)); refine blk_put (cs := #[.string (⟨#[]⟩ : ByteArray), .string (⟨#[]⟩ : ByteArray)]) ?_ 0 _ rfl; (with_reducible repeat (first | refine blk_drewN ?_ _ | refine blk_drew ?_ | refine blk_alloc ?_ _)); exact BK102.out) Try.underlying28 rfl (by kernel_rfl)) rfl ?_
  exact ⟨by first | rfl | (simp [errW_none, errW_some] <;> rfl) | (simp [*, errW_none, errW_some] <;> rfl), by repeat (first | (with_reducible first | exact HB.out | apply below_alloc | apply pw_below_drewN | apply below_drew1 | refine below_set ?_ GE101.out | refine below_set ?_ GE102.out) | exact HB.out)⟩
/-! ### span_Has: function 82 -/
def span_Has.f (a0_0 : ByteArray) (a0_1 : ByteArray) (a1 : ByteArray) : Option (Bool) := if ((Op.bytesLess a1.toList a0_0.toList) = true) then (some false) else (if a0_1.toList = ([] : List UInt8) then (some true) else (some (Op.bytesLess a1.toList a0_1.toList)))
set_option maxHeartbeats 8000000 in
set_option maxRecDepth 100000 in
theorem span_Has.calls (a0_0 : ByteArray) (a0_1 : ByteArray) (a1 : ByteArray) (r : Bool) (w : World) (h : span_Has.f a0_0 a0_1 a1 = some r) :
    Calls Try.prog 82 #[.agg #[.string a0_0, .string a0_1], .string a1] w fun e w' => e = .returned (.bool r) ∧ Below w.heap.size w w' := by
  have hu28 := Try.underlying28
  have HB := Aside0.mk (Below.refl w.heap.size w)
  have H : (if ((Op.bytesLess a1.toList a0_0.toList) = true) then (some false) else (if a0_1.toList = ([] : List UInt8) then (some true) else (some (Op.bytesLess a1.toList a0_1.toList)))) = some r := h
  clear h
  by_cases c3 : ((Op.bytesLess a1.toList a0_0.toList) = true)
  ·
   rw [if_pos c3] at H
   have c3b0 : (Op.bytesLess a1.toList a0_0.toList) = true := c3
   clear c3
   obtain rfl := Option.some.inj H
   go_enter Try.func82, Try.ntmps82
   go_wp2_with (first | ((with_reducible refine gate_dst (N := 2) rfl ?_); refine box_event ?hg (N := 2) ?hd (cs := #[.string a0_0, .string a0_1]) (t := 28) ?hr ?_; (case hd => rfl); (case hg => rfl); (case hr => first | (go_simp; done) | (go_simp; rfl)); intro gb103 hg w4 hbox hb; have BK103 := Aside0.mk (hbox); have GW103 := geL hg HB.out; have GE103 := geL hg HB.out; replace HB := Aside0.mk (below_step (pB HB.out) hb); clear hb hbox hg; have hcz5_0 : w4.cell? ⟨gb103, 0, none⟩ = some (.string a0_0) := blk_cell BK103.out 0; have hcz5_1 : w4.cell? ⟨gb103, 1, none⟩ = some (.string a0_1) := blk_cell BK103.out 1; have hfz5_0 := blk_frozen BK103.out 0; have hfz5_1 := blk_frozen BK103.out 1))
   go_ret
   exact ⟨by first | rfl | (simp [errW_none, errW_some] <;> rfl) | (simp [*, errW_none, errW_some] <;> rfl), by repeat (first | (with_reducible first | exact HB.out | apply below_alloc | apply pw_below_drewN | apply below_drew1 | refine below_set ?_ GE103.out) | exact HB.out)⟩
  rw [if_neg c3] at H
  have c3b0 : (Op.bytesLess a1.toList a0_0.toList) = false := by simpa using c3
  clear c3
  by_cases c6 : a0_1.toList = ([] : List UInt8)
  rotate_left
  ·
   rw [if_neg c6] at H
   have c6b0 : (a0_1.toList == ([] : List UInt8)) = false := beq_eq_false_iff_ne.mpr c6
   have c6b1 : (a0_1.toList != ([] : List UInt8)) = true := bne_iff_ne.mpr c6
   obtain rfl := Option.some.inj H
   go_enter Try.func82, Try.ntmps82
   go_wp2_with (first | ((with_reducible refine gate_dst (N := 2) rfl ?_); refine box_event ?hg (N := 2) ?hd (cs := #[.string a0_0, .string a0_1]) (t := 28) ?hr ?_; (case hd => rfl); (case hg => rfl); (case hr => first | (go_simp; done) | (go_simp; rfl)); intro gb103 hg w9 hbox hb; have BK103 := Aside0.mk (hbox); have GW103 := geL hg HB.out; have GE103 := geL hg HB.out; replace HB := Aside0.mk (below_step (pB HB.out) hb); clear hb hbox hg; have hcz10_0 : w9.cell? ⟨gb103, 0, none⟩ = some (.string a0_0) := blk_cell BK103.out 0; have hcz10_1 : w9.cell? ⟨gb103, 1, none⟩ = some (.string a0_1) := blk_cell BK103.out 1; have hfz10_0 := blk_frozen BK103.out 0; have hfz10_1 := blk_frozen BK103.out 1))
   go_ret
   exact ⟨by first | rfl | (simp [errW_none, errW_some] <;> rfl) | (simp [*, errW_none, errW_some] <;> rfl), by repeat (first | (with_reducible first | exact HB.out | apply below_alloc | apply pw_below_drewN | apply below_drew1 | refine below_set ?_ GE103.out) | exact HB.out)⟩
  rw [if_pos c6] at H
  have c6b0 : (a0_1.toList == ([] : List UInt8)) = true := beq_iff_eq.mpr c6
  have c6b1 : (a0_1.toList != ([] : List UInt8)) = false := bne_eq_false_iff_eq.mpr c6
  clear c6
  obtain rfl := Option.some.inj H
  go_enter Try.func82, Try.ntmps82
  go_wp2_with (first | ((with_reducible refine gate_dst (N := 2) rfl ?_); refine box_event ?hg (N := 2) ?hd (cs := #[.string a0_0, .string a0_1]) (t := 28) ?hr ?_; (case hd => rfl); (case hg => rfl); (case hr => first | (go_simp; done) | (go_simp; rfl)); intro gb103 hg w7 hbox hb; have BK103 := Aside0.mk (hbox); have GW103 := geL hg HB.out; have GE103 := geL hg HB.out; replace HB := Aside0.mk (below_step (pB HB.out) hb); clear hb hbox hg; have hcz8_0 : w7.cell? ⟨gb103, 0, none⟩ = some (.string a0_0) := blk_cell BK103.out 0; have hcz8_1 : w7.cell? ⟨gb103, 1, none⟩ = some (.string a0_1) := blk_cell BK103.out 1; have hfz8_0 := blk_frozen BK103.out 0; have hfz8_1 := blk_frozen BK103.out 1))
  go_ret
  exact ⟨by first | rfl | (simp [errW_none, errW_some] <;> rfl) | (simp [*, errW_none, errW_some] <;> rfl), by repeat (first | (with_reducible first | exact HB.out | apply below_alloc | apply pw_below_drewN | apply below_drew1 | refine below_set ?_ GE103.out) | exact HB.out)⟩
/-! ### atlas_Shard_52: function 52 -/
/-- span.Has, as one answer. -/
def hasB (x y k : ByteArray) : Bool := !Op.bytesLess k.toList x.toList && (y.toList == ([] : List UInt8) || Op.bytesLess k.toList y.toList)
def atlas_Shard_52.f (l0 : List S30) (a1 : ByteArray) : Option Int := if (l0.length : Int) ≤ 9223372036854775806 then some (firstAt (fun s => hasB s.f0.f0 s.f0.f1 a1) l0) else none
theorem hasB_f (x y k : ByteArray) : span_Has.f x y k = some (hasB x y k) := by
  unfold span_Has.f hasB
  by_cases h1 : Op.bytesLess k.toList x.toList = true
  · simp [h1]
  · rw [if_neg h1]
    replace h1 := Bool.eq_false_iff.mpr h1
    by_cases h2 : y.toList = ([] : List UInt8) <;> simp [h1, h2]
theorem of_any (x y : ByteArray) (n e : Int) (w : World) : Calls Try.prog 53 #[.agg #[.string x, .string y, .int .i64 n, .int .i64 e]] w fun r w' => r = .returned (.agg #[.string x, .string y]) ∧ Below w.heap.size w w' :=
  atlas_of.calls x y n e _ _ w rfl
theorem has_any (x y k : ByteArray) (w : World) : Calls Try.prog 82 #[.agg #[.string x, .string y], .string k] w fun r w' => r = .returned (.bool (hasB x y k)) ∧ Below w.heap.size w w' :=
  span_Has.calls x y k _ w (hasB_f x y k)
set_option maxHeartbeats 2000000 in
set_option maxRecDepth 100000 in
theorem find1_any (x y : ByteArray) (n e : Int) (g g' : Nat) (key : ByteArray) (w : World) (h0 : w.cell? ⟨g, 0, none⟩ = some (.func (.func 53) #[] #[])) (h1 : w.cell? ⟨g', 0, none⟩ = some (.string key)) :
    Calls Try.prog 81 #[.agg #[.string x, .string y, .int .i64 n, .int .i64 e], .pointer (some ⟨g, 0, none⟩), .pointer (some ⟨g', 0, none⟩)] w
      fun r w' => r = .returned (.bool (hasB x y key)) ∧ Below w.heap.size w w' := by
  have hg := World.block_lt_of_cell? w _ h0
  have hg' := World.block_lt_of_cell? w _ h1
  go_enter Try.func81, Try.ntmps81
  go_wp2_with fail
  obtain ⟨W, hW⟩ : ∃ W, W = w.alloc (.cells #[.string x, .string y, .int .i64 n, .int .i64 e] 30) := ⟨_, rfl⟩
  try rw [← hW]
  have hB : Below w.heap.size w W := by subst hW; exact below_alloc (Below.refl _ _) _
  have b0 : W.heap[w.heap.size]? = some (.cells #[.string x, .string y, .int .i64 n, .int .i64 e] 30 (0, 0)) := by subst hW; simpa using heap_alloc_new w _
  have g0 : W.cell? ⟨g, 0, none⟩ = some (.func (.func 53) #[] #[]) := (hB.cell (p := ⟨g, 0, none⟩) hg).trans h0
  have g1 : W.cell? ⟨g', 0, none⟩ = some (.string key) := (hB.cell (p := ⟨g', 0, none⟩) hg').trans h1
  have c0 : W.cell? ⟨w.heap.size, 0, none⟩ = some (.string x) := (blk_cell b0 0).trans rfl
  have c1 : W.cell? ⟨w.heap.size, 1, none⟩ = some (.string y) := (blk_cell b0 1).trans rfl
  have c2 : W.cell? ⟨w.heap.size, 2, none⟩ = some (.int .i64 n) := (blk_cell b0 2).trans rfl
  have c3 : W.cell? ⟨w.heap.size, 3, none⟩ = some (.int .i64 e) := (blk_cell b0 3).trans rfl
  have HB := Aside0.mk hB
  clear hW h0 h1 b0 hB
  go_region_held3 (fun w' => w'.cell? ⟨w.heap.size, 0, none⟩ = some (.string x) ∧ w'.cell? ⟨w.heap.size, 1, none⟩ = some (.string y) ∧ w'.cell? ⟨w.heap.size, 2, none⟩ = some (.int .i64 n) ∧ w'.cell? ⟨w.heap.size, 3, none⟩ = some (.int .i64 e) ∧
      w'.cell? ⟨g, 0, none⟩ = some (.func (.func 53) #[] #[]) ∧ w'.cell? ⟨g', 0, none⟩ = some (.string key) ∧ Aside0 (Below w.heap.size w w'))
    (((try dsimp only); (repeat' apply And.intro) <;> (first | go_keep | assumption | (go_split_ands; assumption) | (go_split_ands; apply aside_drew; assumption) | (go_split_ands; apply aside_step; assumption; assumption) | (go_split_ands; apply cell_keep; assumption; assumption))))
    (first
      | (go_at_call 53; refine (of_any _ _ _ _ _).mono ?_; rintro x w' ⟨rfl, hb⟩)
      | (go_at_call 82; refine (has_any _ _ _ _).mono ?_; rintro x w' ⟨rfl, hb⟩))
  go_wp2
  go_split_ands
  go_ret
  exact ⟨rfl, Aside0.out (by assumption)⟩
set_option maxHeartbeats 2000000 in
set_option maxRecDepth 100000 in
theorem indexFunc_any (A0 : Option Addr) (c0 : Nat) (l0 : List S30) (g g' : Nat) (key : ByteArray) (w : World) (hr : Kd.C k30 w A0 l0.length l0) (hl : (l0.length : Int) ≤ 9223372036854775806)
    (h0 : w.cell? ⟨g, 0, none⟩ = some (.func (.func 53) #[] #[])) (h1 : w.cell? ⟨g', 0, none⟩ = some (.string key)) :
    Calls Try.prog 80 #[.slice A0 l0.length c0, .func (.func 81) #[] #[.pointer (some ⟨g, 0, none⟩), .pointer (some ⟨g', 0, none⟩)]] w
      fun r w' => r = .returned (.int .i64 (firstAt (fun s => hasB s.f0.f0 s.f0.f1 key) l0)) ∧ Below w.heap.size w w' := by
  have HR := Aside0.mk hr
  have G0 := Aside0.mk h0
  have G1 := Aside0.mk h1
  have HL := Aside0.mk hl
  clear hr h0 h1 hl
  go_enter Try.func80, Try.ntmps80
  go_wp2
  go_loopw [8] (fun i wr => ∃ k : Nat, i = .int .i64 k ∧ Aside0 (k ≤ l0.length) ∧ Aside0 (Below w.heap.size w wr) ∧ Aside0 (∀ j < k, (fun s : S30 => hasB s.f0.f0 s.f0.f1 key) (l0.getD j z30) = false)) (fun i _ => l0.length - (intOf i).toNat)
  case atStart => exact ⟨0, rfl, ⟨by omega⟩, ⟨Below.refl _ _⟩, ⟨by omega⟩⟩
  case round =>
    obtain ⟨k, rfl, HK, HB, HA⟩ := hrel
    by_cases hlt : (k : Int) < (l0.length : Int)
    · have hb0 : decide ((k : Int) < (l0.length : Int)) = true := decide_eq_true hlt
      have KL := Aside0.mk (show k < l0.length by omega)
      obtain ⟨ad, e, hx0, hx1, hx2, hx3⟩ := at_T30 HR.out k (by omega) hlt
      cases e
      simp only [Int.toNat_natCast] at hx0 hx1 hx2 hx3
      replace hx0 := cell_keep HB.out hx0
      replace hx1 := cell_keep HB.out hx1
      replace hx2 := cell_keep HB.out hx2
      replace hx3 := cell_keep HB.out hx3
      have HW := Aside0.mk (show wrap64 ((k : Int) + 1) = ((k + 1 : Nat) : Int) by have := HL.out; unfold wrap64; omega)
      have p1 := eq_true (show 0 ≤ (k : Int) by omega)
      have q1 := eq_true hlt
      clear hlt
      have F := Aside0.mk (fun wx (hb : Below w.heap.size w wx) => find1_any (rd_T30 l0 k).f0.f0 (rd_T30 l0 k).f0.f1 (rd_T30 l0 k).f1 (rd_T30 l0 k).f2 g g' key wx (cell_keep hb G0.out) (cell_keep hb G1.out))
      cases hh : hasB (rd_T30 l0 k).f0.f0 (rd_T30 l0 k).f0.f1 key
      · rw [hh] at F
        have HH := Aside0.mk hh
        clear hh
        go_wp2_with (go_at_call 81; refine (F.out _ HB.out).mono ?_; rintro z w1 ⟨rfl, hb⟩; have HB1 := aside_step hb HB; clear hb)
        go_roundw
        case rel =>
          refine ⟨k + 1, by rw [HW.out], ⟨by have := KL.out; omega⟩, HB1, ⟨fun j hj => ?_⟩⟩
          rcases Nat.lt_succ_iff_lt_or_eq.1 hj with h | rfl
          · exact HA.out j h
          · exact HH.out
        case measure => have := KL.out; rw [HW.out]; simp [intOf]; omega
      · rw [hh] at F
        have HH := Aside0.mk hh
        clear hh
        go_wp2_with (go_at_call 81; refine (F.out _ HB.out).mono ?_; rintro z w1 ⟨rfl, hb⟩; have HB1 := aside_step hb HB; clear hb)
        go_ret
        exact ⟨ret_int (firstAt_at (d := z30) KL.out HH.out HA.out).symm, HB1.out⟩
    · obtain rfl : k = l0.length := by have := HK.out; omega
      clear hlt
      go_wp2
      go_ret
      exact ⟨ret_int (firstAt_none (d := z30) (fun j hj => HA.out j hj)).symm, HB.out⟩
set_option maxHeartbeats 8000000 in
set_option maxRecDepth 100000 in
theorem atlas_Shard_52.calls (A0 : Option Addr) (c0 : Nat) (l0 : List (S30)) (a1 : ByteArray) (r : Int) (w : World) (hr0 : Kd.C k30 w A0 l0.length l0) (hc0 : l0.length ≤ c0) (h : atlas_Shard_52.f l0 a1 = some r) :
    Calls Try.prog 52 #[.slice A0 l0.length c0, .func (.func 53) #[] #[], .string a1] w fun e w' => e = .returned (.int .i64 r) ∧ Below w.heap.size w w' := by
  unfold atlas_Shard_52.f at h
  split at h
  case isFalse => cases h
  case isTrue hl =>
  obtain rfl := Option.some.inj h
  have HR := Aside0.mk hr0
  have HL := Aside0.mk hl
  clear hr0 hc0 h hl
  have he := fun wx => run_eql_func_nil (P := Try.prog) wx 86 (.func 53) #[] #[] Try.underlying86
  have hmf := run_mf (P := Try.prog)
  go_enter Try.func52, Try.ntmps52
  have F := Aside0.mk (fun wx g g' (hb : Below w.heap.size w wx) h0 h1 => indexFunc_any A0 c0 l0 g g' a1 wx (Kd.C_below HR.out hb) HL.out h0 h1)
  obtain ⟨W, hW⟩ : ∃ W, W = ((w.alloc (.cells #[.func (.func 53) #[] #[]] 86)).alloc (.cells #[.string a1] 9)) := ⟨_, rfl⟩
  have hB : Below w.heap.size w W := by subst hW; exact below_alloc (below_alloc (Below.refl _ _) _) _
  have g0 : W.cell? ⟨w.heap.size, 0, none⟩ = some (.func (.func 53) #[] #[]) := by subst hW; exact (blk_cell (blk_alloc (by simpa using heap_alloc_new w _) _) 0).trans rfl
  have g1 : W.cell? ⟨w.heap.size + 1, 0, none⟩ = some (.string a1) := by subst hW; exact (blk_cell (g := w.heap.size + 1) (by simpa using heap_alloc_new (w.alloc _) _) 0).trans rfl
  have F := F.out W _ _ hB g0 g1
  have FF := Aside0.mk F
  have HB := Aside0.mk hB
  clear F g0 g1 hB
  subst hW
  go_wp2_with (go_at_call 80; refine FF.out.mono ?_; rintro z w1 ⟨rfl, hb⟩)
  go_ret
  exact ⟨rfl, below_step HB.out hb⟩
-- slices.Clone at shards: the same shards, in a row of the call's own (nil: nil).

/-! ### atlas_Owner: function 13 -/
def atlas_Owner.f (a0_0 : Int) (l0_1 : List (S30)) (a1 : ByteArray) : Option (ByteArray × ByteArray × Int × Int × Bool) := (atlas_Shard_52.f l0_1 a1).bind fun t106 => (if t106 < 0 then (some ((⟨#[]⟩ : ByteArray), (⟨#[]⟩ : ByteArray), 0, 0, false)) else (if 0 ≤ t106 then (if t106 < (l0_1.length : Int) then (some ((rd_T30 l0_1 t106).f0.f0, (rd_T30 l0_1 t106).f0.f1, (rd_T30 l0_1 t106).f1, (rd_T30 l0_1 t106).f2, true)) else (none)) else (none)))
set_option maxHeartbeats 8000000 in
set_option maxRecDepth 100000 in
theorem atlas_Owner.calls (a0_0 : Int) (A0_1 : Option Addr) (c0_1 : Nat) (l0_1 : List (S30)) (a1 : ByteArray) (r1 : ByteArray) (r2 : ByteArray) (r3 : Int) (r4 : Int) (r5 : Bool) (w : World) (hr0_1 : Kd.C k30 w A0_1 l0_1.length l0_1) (hc0_1 : l0_1.length ≤ c0_1) (h : atlas_Owner.f a0_0 l0_1 a1 = some (r1, r2, r3, r4, r5)) :
    Calls Try.prog 13 #[.agg #[.int .i64 a0_0, .slice A0_1 l0_1.length c0_1], .string a1] w fun e w' => e = .returned (.tuple #[.agg #[.string r1, .string r2, .int .i64 r3, .int .i64 r4], .bool r5]) ∧ Below w.heap.size w w' := by
  have hu35 := Try.underlying35
  have hu30 := Try.underlying30
  have HR0_1 := Aside0.mk hr0_1
  have HC0_1 := Aside0.mk hc0_1
  clear hr0_1 hc0_1
  have HB := Aside0.mk (Below.refl w.heap.size w)
  have H : ((atlas_Shard_52.f l0_1 a1).bind fun t106 => (if t106 < 0 then (some ((⟨#[]⟩ : ByteArray), (⟨#[]⟩ : ByteArray), 0, 0, false)) else (if 0 ≤ t106 then (if t106 < (l0_1.length : Int) then (some ((rd_T30 l0_1 t106).f0.f0, (rd_T30 l0_1 t106).f0.f1, (rd_T30 l0_1 t106).f1, (rd_T30 l0_1 t106).f2, true)) else (none)) else (none)))) = some (r1, r2, r3, r4, r5) := h
  clear h
  replace H := Option.bind_eq_some_iff.mp H
  obtain ⟨t106, A30, H⟩ := H
  replace H : (if t106 < 0 then (some ((⟨#[]⟩ : ByteArray), (⟨#[]⟩ : ByteArray), 0, 0, false)) else (if 0 ≤ t106 then (if t106 < (l0_1.length : Int) then (some ((rd_T30 l0_1 t106).f0.f0, (rd_T30 l0_1 t106).f0.f1, (rd_T30 l0_1 t106).f1, (rd_T30 l0_1 t106).f2, true)) else (none)) else (none))) = some (r1, r2, r3, r4, r5) := H
  have A3 := Aside0.mk A30
  clear A30
  by_cases c4 : t106 < 0
  ·
   rw [if_pos c4] at H
   have c4b0 : decide (t106 < 0) = true := decide_eq_true c4
   clear c4
   simp only [Option.some.injEq, Prod.mk.injEq] at H
   obtain ⟨rfl, rfl, rfl, rfl, rfl⟩ := H
   go_enter Try.func13, Try.ntmps13
   go_wp2_with (first | ((with_reducible refine gate_dst (N := 2) rfl ?_); refine box_event ?hg (N := 2) ?hd (cs := #[.int .i64 a0_0, .slice A0_1 l0_1.length c0_1]) (t := 35) ?hr ?_; (case hd => rfl); (case hg => rfl); (case hr => first | (go_simp; done) | (go_simp; rfl)); intro gb104 hg w5 hbox hb; have BK104 := Aside0.mk (hbox); have GW104 := geL hg HB.out; have GE104 := geL hg HB.out; replace HB := Aside0.mk (below_step (pB HB.out) hb); clear hb hbox hg) | ((with_reducible refine gate_dst (N := 4) rfl ?_); refine box_event ?hg (N := 4) ?hd (cs := #[.string (⟨#[]⟩ : ByteArray), .string (⟨#[]⟩ : ByteArray), .int .i64 0, .int .i64 0]) (t := 30) ?hr ?_; (case hd => rfl); (case hg => rfl); (case hr => first | (go_simp; done) | (go_simp; rfl)); intro gb105 hg w6 hbox hb; have BK105 := Aside0.mk (hbox); have GW105 := geL hg HB.out; have GE105 := geL hg HB.out; have NB104_105 := neL hg BK104.out; have NB105_104 := neG hg BK104.out; replace BK104 := Aside0.mk (blk_below BK104.out hb); replace HB := Aside0.mk (below_step (pB HB.out) hb); clear hb hbox hg; have hnb7 := NB104_105.out; have hnc7 := NB105_104.out; have hcz8_0 : w6.cell? ⟨gb104, 0, none⟩ = some (.int .i64 a0_0) := blk_cell BK104.out 0; have hcz8_1 : w6.cell? ⟨gb104, 1, none⟩ = some (.slice A0_1 l0_1.length c0_1) := blk_cell BK104.out 1; have hfz8_0 := blk_frozen BK104.out 0; have hfz8_1 := blk_frozen BK104.out 1) | ((with_reducible refine gate_callee (f := 52) rfl ?_); refine goesL_ (some 10) rfl rfl Try.func52 (by kernel_rfl) rfl #[.slice A0_1 l0_1.length c0_1, .func (.func 53) #[] #[], .string a1] rfl (by (try simp only [List.map_toArray, List.map_cons, List.map_nil]); first | done | rfl | (simp only [List.length_drop, List.length_take]; done) | (simp only [List.length_drop, List.length_take]; rfl)) ?_; (with_reducible refine (atlas_Shard_52.calls _ _ l0_1 a1 t106 _ ?side1 ?side2 A3.out).mono ?_); (case side1 => repeat (first | exact (Kd.C_below HR0_1.out HB.out) | (with_reducible refine Kd.C_alloc ?_ _) | (with_reducible refine Kd.C_drewN ?_ _) | (with_reducible refine Kd.C_drew ?_))); (case side2 => exact HC0_1.out); rintro e w9 ⟨rfl, hb⟩; refine ⟨_, rfl, ?_⟩; replace BK104 := Aside0.mk (blk_below BK104.out hb); replace BK105 := Aside0.mk (blk_below BK105.out hb); replace HB := Aside0.mk (below_step (pB HB.out) hb); (try clear hb); (try clear hb2); (try clear hk); (try clear hi); have hcz10_0 : w9.cell? ⟨gb105, 0, none⟩ = some (.string (⟨#[]⟩ : ByteArray)) := blk_cell BK105.out 0; have hcz10_1 : w9.cell? ⟨gb105, 1, none⟩ = some (.string (⟨#[]⟩ : ByteArray)) := blk_cell BK105.out 1; have hcz10_2 : w9.cell? ⟨gb105, 2, none⟩ = some (.int .i64 0) := blk_cell BK105.out 2; have hcz10_3 : w9.cell? ⟨gb105, 3, none⟩ = some (.int .i64 0) := blk_cell BK105.out 3; have hfz10_0 := blk_frozen BK105.out 0; have hfz10_1 := blk_frozen BK105.out 1; have hfz10_2 := blk_frozen BK105.out 2; have hfz10_3 := blk_frozen BK105.out 3))
   refine bodyPost_ret (results_ct rfl _ _ gb105 30 #[.string (⟨#[]⟩ : ByteArray), .string (⟨#[]⟩ : ByteArray), .int .i64 0, .int .i64 0] (0, 0) _ rfl (by (with_reducible repeat (first | refine blk_drewN ?_ _ | refine blk_drew ?_ | refine blk_alloc ?_ _)); refine blk_put (cs := #[.string (⟨#[]⟩ : ByteArray), .string (⟨#[]⟩ : ByteArray), .int .i64 0, .int .i64 0]) ?_ 3 _ rfl; (with_reducible repeat (first | refine blk_drewN ?_ _ | refine blk_drew ?_ | refine blk_alloc ?_ _)); refine blk_put (cs := #[.string (⟨#[]⟩ : ByteArray), .string (⟨#[]⟩ : ByteArray), .int .i64 0, .int .i64 0]) ?_ 2 _ rfl; (with_reducible repeat (first | refine blk_drewN ?_ _ | refine blk_drew ?_ | refine blk_alloc ?_ _)); refine blk_put (cs := #[.string (⟨#[]⟩ : ByteArray), .string (⟨#[]⟩ : ByteArray), .int .i64 0, .int .i64 0]) ?_ 1 _ rfl; (with_reducible repeat (first | refine blk_drewN ?_ _ | refine blk_drew ?_ | refine blk_alloc ?_ _)); refine blk_put (cs := #[.string (⟨#[]⟩ : ByteArray), .string (⟨#[]⟩ : ByteArray), .int .i64 0, .int .i64 0]) ?_ 0 _ rfl; (with_reducible repeat (first | refine blk_drewN ?_ _ | refine blk_drew ?_ | refine blk_alloc ?_ _)); exact BK105.out) Try.underlying30 rfl (by kernel_rfl)) rfl ?_
   exact ⟨by first | rfl | (simp [errW_none, errW_some] <;> rfl) | (simp [*, errW_none, errW_some] <;> rfl), by repeat (first | (with_reducible first | exact HB.out | apply below_alloc | apply pw_below_drewN | apply below_drew1 | refine below_set ?_ GE104.out | refine below_set ?_ GE105.out) | exact HB.out)⟩
  rw [if_neg c4] at H
  have c4b0 : decide (t106 < 0) = false := decide_eq_false c4
  clear c4
  by_cases c11 : 0 ≤ t106
  rotate_left
  · rw [if_neg c11] at H
    exact absurd H (by simp)
  rw [if_pos c11] at H
  have c11b0 : decide (0 ≤ t106) = true := decide_eq_true c11
  clear c11
  by_cases c12 : t106 < (l0_1.length : Int)
  rotate_left
  · rw [if_neg c12] at H
    exact absurd H (by simp)
  rw [if_pos c12] at H
  have c12b0 : decide (t106 < (l0_1.length : Int)) = true := decide_eq_true c12
  clear c12
  simp only [Option.some.injEq, Prod.mk.injEq] at H
  obtain ⟨rfl, rfl, rfl, rfl, rfl⟩ := H
  go_enter Try.func13, Try.ntmps13
  go_wp2_with (first | ((with_reducible refine gate_dst (N := 2) rfl ?_); refine box_event ?hg (N := 2) ?hd (cs := #[.int .i64 a0_0, .slice A0_1 l0_1.length c0_1]) (t := 35) ?hr ?_; (case hd => rfl); (case hg => rfl); (case hr => first | (go_simp; done) | (go_simp; rfl)); intro gb104 hg w13 hbox hb; have BK104 := Aside0.mk (hbox); have GW104 := geL hg HB.out; have GE104 := geL hg HB.out; replace HB := Aside0.mk (below_step (pB HB.out) hb); clear hb hbox hg) | ((with_reducible refine gate_dst (N := 4) rfl ?_); refine box_event ?hg (N := 4) ?hd (cs := #[.string (⟨#[]⟩ : ByteArray), .string (⟨#[]⟩ : ByteArray), .int .i64 0, .int .i64 0]) (t := 30) ?hr ?_; (case hd => rfl); (case hg => rfl); (case hr => first | (go_simp; done) | (go_simp; rfl)); intro gb105 hg w14 hbox hb; have BK105 := Aside0.mk (hbox); have GW105 := geL hg HB.out; have GE105 := geL hg HB.out; have NB104_105 := neL hg BK104.out; have NB105_104 := neG hg BK104.out; replace BK104 := Aside0.mk (blk_below BK104.out hb); replace HB := Aside0.mk (below_step (pB HB.out) hb); clear hb hbox hg; have hnb15 := NB104_105.out; have hnc15 := NB105_104.out; have hcz16_0 : w14.cell? ⟨gb104, 0, none⟩ = some (.int .i64 a0_0) := blk_cell BK104.out 0; have hcz16_1 : w14.cell? ⟨gb104, 1, none⟩ = some (.slice A0_1 l0_1.length c0_1) := blk_cell BK104.out 1; have hfz16_0 := blk_frozen BK104.out 0; have hfz16_1 := blk_frozen BK104.out 1) | ((with_reducible refine gate_callee (f := 52) rfl ?_); refine goesL_ (some 10) rfl rfl Try.func52 (by kernel_rfl) rfl #[.slice A0_1 l0_1.length c0_1, .func (.func 53) #[] #[], .string a1] rfl (by (try simp only [List.map_toArray, List.map_cons, List.map_nil]); first | done | rfl | (simp only [List.length_drop, List.length_take]; done) | (simp only [List.length_drop, List.length_take]; rfl)) ?_; (with_reducible refine (atlas_Shard_52.calls _ _ l0_1 a1 t106 _ ?side1 ?side2 A3.out).mono ?_); (case side1 => repeat (first | exact (Kd.C_below HR0_1.out HB.out) | (with_reducible refine Kd.C_alloc ?_ _) | (with_reducible refine Kd.C_drewN ?_ _) | (with_reducible refine Kd.C_drew ?_))); (case side2 => exact HC0_1.out); rintro e w17 ⟨rfl, hb⟩; refine ⟨_, rfl, ?_⟩; replace BK104 := Aside0.mk (blk_below BK104.out hb); replace BK105 := Aside0.mk (blk_below BK105.out hb); replace HB := Aside0.mk (below_step (pB HB.out) hb); (try clear hb); (try clear hb2); (try clear hk); (try clear hi); have hcz18_0 : w17.cell? ⟨gb104, 0, none⟩ = some (.int .i64 a0_0) := blk_cell BK104.out 0; have hcz18_1 : w17.cell? ⟨gb104, 1, none⟩ = some (.slice A0_1 l0_1.length c0_1) := blk_cell BK104.out 1; have hfz18_0 := blk_frozen BK104.out 0; have hfz18_1 := blk_frozen BK104.out 1; have p107 : 0 ≤ (t106 : Int) := of_decide_eq_true (by first | (with_reducible assumption) | assumption); have q107 : t106 < (l0_1.length : Int) := of_decide_eq_true (by first | (with_reducible assumption) | assumption); obtain ⟨ad107, e107, hx107_0, hx107_1, hx107_2, hx107_3⟩ := at_T30 HR0_1.out t106 p107 q107; cases e107; replace hx107_0 := (HB.out.cell (World.block_lt_of_cell? w _ hx107_0)).trans hx107_0; replace hx107_1 := (HB.out.cell (World.block_lt_of_cell? w _ hx107_1)).trans hx107_1; replace hx107_2 := (HB.out.cell (World.block_lt_of_cell? w _ hx107_2)).trans hx107_2; replace hx107_3 := (HB.out.cell (World.block_lt_of_cell? w _ hx107_3)).trans hx107_3; replace p107 := eq_true p107; replace q107 := eq_true q107; have hcz19_0 : w17.cell? ⟨gb105, 0, none⟩ = some (.string (⟨#[]⟩ : ByteArray)) := blk_cell BK105.out 0; have hcz19_1 : w17.cell? ⟨gb105, 1, none⟩ = some (.string (⟨#[]⟩ : ByteArray)) := blk_cell BK105.out 1; have hcz19_2 : w17.cell? ⟨gb105, 2, none⟩ = some (.int .i64 0) := blk_cell BK105.out 2; have hcz19_3 : w17.cell? ⟨gb105, 3, none⟩ = some (.int .i64 0) := blk_cell BK105.out 3; have hfz19_0 := blk_frozen BK105.out 0; have hfz19_1 := blk_frozen BK105.out 1; have hfz19_2 := blk_frozen BK105.out 2; have hfz19_3 := blk_frozen BK105.out 3))
  refine bodyPost_ret (results_ct rfl _ _ gb105 30 #[.string ((rd_T30 l0_1 t106).f0.f0), .string ((rd_T30 l0_1 t106).f0.f1), .int .i64 ((rd_T30 l0_1 t106).f1), .int .i64 ((rd_T30 l0_1 t106).f2)] (0, 0) _ rfl (by (with_reducible repeat (first | refine blk_drewN ?_ _ | refine blk_drew ?_ | refine blk_alloc ?_ _)); refine blk_put (cs := #[.string ((rd_T30 l0_1 t106).f0.f0), .string ((rd_T30 l0_1 t106).f0.f1), .int .i64 ((rd_T30 l0_1 t106).f1), .int .i64 0]) ?_ 3 _ rfl; (with_reducible repeat (first | refine blk_drewN ?_ _ | refine blk_drew ?_ | refine blk_alloc ?_ _)); refine blk_put (cs := #[.string ((rd_T30 l0_1 t106).f0.f0), .string ((rd_T30 l0_1 t106).f0.f1), .int .i64 0, .int .i64 0]) ?_ 2 _ rfl; (with_reducible repeat (first | refine blk_drewN ?_ _ | refine blk_drew ?_ | refine blk_alloc ?_ _)); refine blk_put (cs := #[.string ((rd_T30 l0_1 t106).f0.f0), .string (⟨#[]⟩ : ByteArray), .int .i64 0, .int .i64 0]) ?_ 1 _ rfl; (with_reducible repeat (first | refine blk_drewN ?_ _ | refine blk_drew ?_ | refine blk_alloc ?_ _)); refine blk_put (cs := #[.string (⟨#[]⟩ : ByteArray), .string (⟨#[]⟩ : ByteArray), .int .i64 0, .int .i64 0]) ?_ 0 _ rfl; (with_reducible repeat (first | refine blk_drewN ?_ _ | refine blk_drew ?_ | refine blk_alloc ?_ _)); exact BK105.out) Try.underlying30 rfl (by kernel_rfl)) rfl ?_
  exact ⟨by first | rfl | (simp [errW_none, errW_some] <;> rfl) | (simp [*, errW_none, errW_some] <;> rfl), by repeat (first | (with_reducible first | exact HB.out | apply below_alloc | apply pw_below_drewN | apply below_drew1 | refine below_set ?_ GE104.out | refine below_set ?_ GE105.out) | exact HB.out)⟩
/-! ### atlas_First: function 24 -/
def atlas_First.f (a0 : Int) : Option (Int × (List (S30))) := some (1, (([(⟨(⟨(⟨#[]⟩ : ByteArray), (⟨#[]⟩ : ByteArray)⟩ : S28), a0, 1⟩ : S30)] : List (S30))))
set_option maxHeartbeats 8000000 in
set_option maxRecDepth 100000 in
theorem atlas_First.calls (a0 : Int) (r1 : Int) (r2 : List (S30)) (w : World) (h : atlas_First.f a0 = some (r1, r2)) :
    Calls Try.prog 24 #[.int .i64 a0] w fun e w' => ∃ v1_ : Value, e = .returned (.agg #[.int .i64 r1, v1_]) ∧ Kd.R k30 30 w' w.heap.size (fun _ => True) v1_ r2 ∧ Below w.heap.size w w' := by
  have hu35 := Try.underlying35
  have hu28 := Try.underlying28
  have hu30 := Try.underlying30
  have HB := Aside0.mk (Below.refl w.heap.size w)
  have H : (some (1, (([(⟨(⟨(⟨#[]⟩ : ByteArray), (⟨#[]⟩ : ByteArray)⟩ : S28), a0, 1⟩ : S30)] : List (S30))))) = some (r1, r2) := h
  clear h
  obtain ⟨y109, hy109⟩ : ∃ y_ : List (S30), y_ = (([(⟨(⟨(⟨#[]⟩ : ByteArray), (⟨#[]⟩ : ByteArray)⟩ : S28), a0, 1⟩ : S30)] : List (S30))) := ⟨_, rfl⟩
  replace H : (some (1, y109)) = some (r1, r2) := by first | (rw [hy109]; with_reducible exact H) | (have H2_ := (Option.bind_some _ _).symm.trans H; rw [hy109]; with_reducible exact H2_) | (have H2_ := (Option.bind_some _ _).symm.trans H; with_reducible exact H2_) | with_reducible exact H | (rw [hy109]; exact H) | exact H
  have Ny109 := Aside0.mk hy109
  clear hy109
  simp only [Option.some.injEq, Prod.mk.injEq] at H
  obtain ⟨rfl, rfl⟩ := H
  go_enter Try.func24, Try.ntmps24
  go_wp2_with (first | ((with_reducible refine gate_dst (N := 2) rfl ?_); refine box_event ?hg (N := 2) ?hd (cs := #[.int .i64 0, .slice none 0 0]) (t := 35) ?hr ?_; (case hd => rfl); (case hg => rfl); (case hr => first | (go_simp; done) | (go_simp; rfl)); intro gb108 hg w2 hbox hb; have BK108 := Aside0.mk (hbox); have GW108 := geL hg HB.out; have GE108 := geL hg HB.out; replace HB := Aside0.mk (below_step (pB HB.out) hb); clear hb hbox hg) | ((with_reducible refine gate_dst (N := 6) rfl ?_); refine Kd.R_lit k30 _ 30 ?hg (N := 6) ?hd (xs := ([(⟨(⟨(⟨#[]⟩ : ByteArray), (⟨#[]⟩ : ByteArray)⟩ : S28), a0, 1⟩ : S30)] : List (S30))) (inner := [.string (⟨#[]⟩ : ByteArray), .string (⟨#[]⟩ : ByteArray), .int .i64 a0, .int .i64 1]) (ok := fun _ => True) (okp := fun _ => True) ?hr ?hp (fun _ hk => hk) trivial (Below.refl _ _) (Nat.le_refl _) (by simp) ?_; (case hd => rfl); (case hg => rfl); (case hr => first | (go_simp; done) | (go_simp; rfl)); (case hp => exact (Reps.c4 (show Kd.M k30 _ _ _ (⟨(⟨(⟨#[]⟩ : ByteArray), (⟨#[]⟩ : ByteArray)⟩ : S28), a0, 1⟩ : S30) [.string (⟨#[]⟩ : ByteArray), .string (⟨#[]⟩ : ByteArray), .int .i64 a0, .int .i64 1] from (k30_mkM _ _ _ (⟨(⟨(⟨#[]⟩ : ByteArray), (⟨#[]⟩ : ByteArray)⟩ : S28), a0, 1⟩ : S30) )) (Reps.none _ _))); intro v110 w3 ho4 hb hg_ hnew_; clear hg_ hnew_; (first | rw [← Ny109.out] at ho4 | (simp only [Int.reduceToNat] at ho4; rw [← Ny109.out] at ho4)); have HO111 := Aside0.mk (Kd.R_lower ho4 (below_size (pB HB.out))); replace BK108 := Aside0.mk (blk_below BK108.out hb); replace HB := Aside0.mk (below_step (pB HB.out) hb); clear hb ho4; obtain ⟨Ao5, co5, eo5⟩ := Kd.R_slice HO111.out; subst eo5; have hcz6_0 : w3.cell? ⟨gb108, 0, none⟩ = some (.int .i64 0) := blk_cell BK108.out 0; have hcz6_1 : w3.cell? ⟨gb108, 1, none⟩ = some (.slice none 0 0) := blk_cell BK108.out 1; have hfz6_0 := blk_frozen BK108.out 0; have hfz6_1 := blk_frozen BK108.out 1))
  refine bodyPost_ret (results_cell_row rfl _ _ gb108 35 #[.int .i64 1, .slice Ao5 y109.length co5] (0, 0) _ rfl (by (with_reducible repeat (first | refine blk_drewN ?_ _ | refine blk_drew ?_ | refine blk_alloc ?_ _)); refine blk_put (cs := #[.int .i64 1, .slice none 0 0]) ?_ 1 _ rfl; (with_reducible repeat (first | refine blk_drewN ?_ _ | refine blk_drew ?_ | refine blk_alloc ?_ _)); refine blk_put (cs := #[.int .i64 0, .slice none 0 0]) ?_ 0 _ rfl; (with_reducible repeat (first | refine blk_drewN ?_ _ | refine blk_drew ?_ | refine blk_alloc ?_ _)); exact BK108.out) Try.underlying35 rfl (by kernel_rfl)) rfl ?_
  exact ⟨_, by first | rfl | (simp [errW_none, errW_some] <;> rfl) | (simp [*, errW_none, errW_some] <;> rfl), by (with_reducible repeat (first | apply Kd.R_alloc | apply Kd.R_drewN | apply Kd.R_drew)); exact Kd.R_mono (Kd.R_far (p := ⟨gb108, 1, none⟩) (Kd.R_far (p := ⟨gb108, 0, none⟩) (Kd.R_types HO111.out BK108.out (by decide)) (fun _ hk => hk.2) (.int .i64 1)) (fun _ hk => hk.2) (.slice Ao5 y109.length co5)) (fun _ hk => trivial), by repeat (first | (with_reducible first | exact HB.out | apply below_alloc | apply pw_below_drewN | apply below_drew1 | refine below_set ?_ GE108.out) | exact HB.out)⟩
/-! ### span_Empty: function 90 -/
def span_Empty.f (a0_0 : ByteArray) (a0_1 : ByteArray) : Option (Bool) := if a0_1.toList = ([] : List UInt8) then (some false) else (some (!(Op.bytesLess a0_0.toList a0_1.toList)))
set_option maxHeartbeats 8000000 in
set_option maxRecDepth 100000 in
theorem span_Empty.calls (a0_0 : ByteArray) (a0_1 : ByteArray) (r : Bool) (w : World) (h : span_Empty.f a0_0 a0_1 = some r) :
    Calls Try.prog 90 #[.agg #[.string a0_0, .string a0_1]] w fun e w' => e = .returned (.bool r) ∧ Below w.heap.size w w' := by
  have hu28 := Try.underlying28
  have HB := Aside0.mk (Below.refl w.heap.size w)
  have H : (if a0_1.toList = ([] : List UInt8) then (some false) else (some (!(Op.bytesLess a0_0.toList a0_1.toList)))) = some r := h
  clear h
  by_cases c2 : a0_1.toList = ([] : List UInt8)
  rotate_left
  ·
   rw [if_neg c2] at H
   have c2b0 : (a0_1.toList == ([] : List UInt8)) = false := beq_eq_false_iff_ne.mpr c2
   have c2b1 : (a0_1.toList != ([] : List UInt8)) = true := bne_iff_ne.mpr c2
   obtain rfl := Option.some.inj H
   go_enter Try.func90, Try.ntmps90
   go_wp2_with (first | ((with_reducible refine gate_dst (N := 1) rfl ?_); refine box_event ?hg (N := 1) ?hd (cs := #[.string a0_0, .string a0_1]) (t := 28) ?hr ?_; (case hd => rfl); (case hg => rfl); (case hr => first | (go_simp; done) | (go_simp; rfl)); intro gb112 hg w5 hbox hb; have BK112 := Aside0.mk (hbox); have GW112 := geL hg HB.out; have GE112 := geL hg HB.out; replace HB := Aside0.mk (below_step (pB HB.out) hb); clear hb hbox hg; have hcz6_0 : w5.cell? ⟨gb112, 0, none⟩ = some (.string a0_0) := blk_cell BK112.out 0; have hcz6_1 : w5.cell? ⟨gb112, 1, none⟩ = some (.string a0_1) := blk_cell BK112.out 1; have hfz6_0 := blk_frozen BK112.out 0; have hfz6_1 := blk_frozen BK112.out 1))
   go_ret
   exact ⟨by first | rfl | (simp [errW_none, errW_some] <;> rfl) | (simp [*, errW_none, errW_some] <;> rfl), by repeat (first | (with_reducible first | exact HB.out | apply below_alloc | apply pw_below_drewN | apply below_drew1 | refine below_set ?_ GE112.out) | exact HB.out)⟩
  rw [if_pos c2] at H
  have c2b0 : (a0_1.toList == ([] : List UInt8)) = true := beq_iff_eq.mpr c2
  have c2b1 : (a0_1.toList != ([] : List UInt8)) = false := bne_eq_false_iff_eq.mpr c2
  clear c2
  obtain rfl := Option.some.inj H
  go_enter Try.func90, Try.ntmps90
  go_wp2_with (first | ((with_reducible refine gate_dst (N := 1) rfl ?_); refine box_event ?hg (N := 1) ?hd (cs := #[.string a0_0, .string a0_1]) (t := 28) ?hr ?_; (case hd => rfl); (case hg => rfl); (case hr => first | (go_simp; done) | (go_simp; rfl)); intro gb112 hg w3 hbox hb; have BK112 := Aside0.mk (hbox); have GW112 := geL hg HB.out; have GE112 := geL hg HB.out; replace HB := Aside0.mk (below_step (pB HB.out) hb); clear hb hbox hg; have hcz4_0 : w3.cell? ⟨gb112, 0, none⟩ = some (.string a0_0) := blk_cell BK112.out 0; have hcz4_1 : w3.cell? ⟨gb112, 1, none⟩ = some (.string a0_1) := blk_cell BK112.out 1; have hfz4_0 := blk_frozen BK112.out 0; have hfz4_1 := blk_frozen BK112.out 1))
  go_ret
  exact ⟨by first | rfl | (simp [errW_none, errW_some] <;> rfl) | (simp [*, errW_none, errW_some] <;> rfl), by repeat (first | (with_reducible first | exact HB.out | apply below_alloc | apply pw_below_drewN | apply below_drew1 | refine below_set ?_ GE112.out) | exact HB.out)⟩
/-! ### span_Whole: function 67 -/
def span_Whole.l0 : Nat → List (S28) → ByteArray → List (S28) → Int → Int → Option (Bool)
  | 0, _, _, _, _, _ => none
  | k + 1, x0, x3, x6, x7, x8 => if x8 < x7 then (if 0 ≤ x8 then (if x8 < (x6.length : Int) then ((span_Empty.f ((rd_T28 x6 x8).f0) ((rd_T28 x6 x8).f1)).bind fun t115 => (if t115 = true then (some false) else (if ((rd_T28 x6 x8).f0).toList = x3.toList then (if x8 > 0 then (if x3.toList = ([] : List UInt8) then (some false) else (span_Whole.l0 k x0 ((rd_T28 x6 x8).f1) x6 x7 (wrap64 (x8 + 1)))) else (span_Whole.l0 k x0 ((rd_T28 x6 x8).f1) x6 x7 (wrap64 (x8 + 1)))) else (some false)))) else (none)) else (none)) else (if (x0.length : Int) > 0 then (some (x3.toList == ([] : List UInt8))) else (some false))
def span_Whole.f (k : Nat) (l0 : List (S28)) : Option (Bool) := span_Whole.l0 k l0 (⟨#[]⟩ : ByteArray) l0 (l0.length : Int) 0
theorem span_Whole.mono_l : ∀ k, (∀ y0 y1 y2 y3 y4, LeO (span_Whole.l0 k y0 y1 y2 y3 y4) (span_Whole.l0 (k + 1) y0 y1 y2 y3 y4))
  | 0 => fun _ _ _ _ _ r h => by simp [span_Whole.l0] at h
  | k + 1 => by
    have ih0 := span_Whole.mono_l k
    · intro y0 y1 y2 y3 y4
      unfold span_Whole.l0
      repeat' first
      | (with_reducible exact ih0 _ _ _ _ _)
      | (with_reducible exact LeO.refl _)
      | (with_reducible exact LeO.none _)
      | (with_reducible refine LeO.ite ?_ ?_)
      | (with_reducible refine LeO.bind ?_ (fun _ => ?_))
      | exact ih0 _ _ _ _ _
      | exact LeO.none _
      | refine LeO.ite ?_ ?_
      | refine LeO.bind ?_ (fun _ => ?_)
theorem span_Whole.mono : ∀ a0 k, LeO (span_Whole.f k a0) (span_Whole.f (k + 1) a0) := by
  intro a0 k
  have ih0 := span_Whole.mono_l k
  unfold span_Whole.f
  repeat' first
      | (with_reducible exact ih0 _ _ _ _ _)
      | (with_reducible exact LeO.refl _)
      | (with_reducible exact LeO.none _)
      | (with_reducible refine LeO.ite ?_ ?_)
      | (with_reducible refine LeO.bind ?_ (fun _ => ?_))
      | exact ih0 _ _ _ _ _
      | exact LeO.none _
      | refine LeO.ite ?_ ?_
      | refine LeO.bind ?_ (fun _ => ?_)
set_option maxHeartbeats 8000000 in
set_option maxRecDepth 100000 in
theorem span_Whole.calls (k : Nat) (A0 : Option Addr) (c0 : Nat) (l0 : List (S28)) (r : Bool) (w : World) (hr0 : Kd.C k28 w A0 l0.length l0) (hc0 : l0.length ≤ c0) (h : span_Whole.f k l0 = some r) :
    Calls Try.prog 67 #[.slice A0 l0.length c0] w fun e w' => e = .returned (.bool r) ∧ Below w.heap.size w w' := by
  have hu28 := Try.underlying28
  have HR0 := Aside0.mk hr0
  have HC0 := Aside0.mk hc0
  clear hr0 hc0
  have HB := Aside0.mk (Below.refl w.heap.size w)
  have H : (span_Whole.l0 k l0 (⟨#[]⟩ : ByteArray) l0 (l0.length : Int) 0) = some r := h
  clear h
  have H' := Aside0.mk H
  clear H
  go_enter Try.func67, Try.ntmps67
  go_wp2
  go_loopg [3, 8] k (fun kq v3 v8 w' => ∃ (x3_1 : ByteArray) (x8_1 : Int), v3 = .string x3_1 ∧ v8 = .int .i64 x8_1 ∧ Aside0 (span_Whole.l0 kq l0 x3_1 l0 (l0.length : Int) x8_1 = some r) ∧ Aside0 (kq ≤ k) ∧ Aside0 (Below w.heap.size w w'))
  case atStart => exact ⟨((⟨#[]⟩ : ByteArray)), (0), (by first | rfl | (simp; done) | (simp [*]; done)), (by first | rfl | (simp; done) | (simp [*]; done)), H', ⟨Nat.le_refl _⟩, ⟨by repeat (first | (with_reducible first | exact HB.out | apply below_alloc | apply pw_below_drewN | apply below_drew1) | exact HB.out)⟩⟩
  case round =>
   clear H'
   obtain ⟨x3_1, x8_1, rfl, rfl, HA, HK1, HB⟩ := hrel
   cases gk with
   | zero => exact absurd HA.out (by simp [span_Whole.l0])
   | succ k1 =>
    have H := HA.out
    clear HA
    simp only [span_Whole.l0] at H
    by_cases c2 : x8_1 < (l0.length : Int)
    rotate_left
    ·
     rw [if_neg c2] at H
     have c2b0 : decide (x8_1 < (l0.length : Int)) = false := decide_eq_false c2
     clear c2
     by_cases c29 : (l0.length : Int) > 0
     ·
      rw [if_pos c29] at H
      have c29b0 : decide (0 < (l0.length : Int)) = true := decide_eq_true c29
      have c29b1 : decide (0 < l0.length) = true := decide_eq_true (by omega)
      clear c29
      obtain rfl := Option.some.inj H
      go_wp2
      go_ret
      exact ⟨by first | rfl | (simp [errW_none, errW_some] <;> rfl) | (simp [*, errW_none, errW_some] <;> rfl), by repeat (first | (with_reducible first | exact HB.out | apply below_alloc | apply pw_below_drewN | apply below_drew1) | exact HB.out)⟩
     rw [if_neg c29] at H
     have c29b0 : decide (0 < (l0.length : Int)) = false := decide_eq_false c29
     have c29b1 : decide (0 < l0.length) = false := decide_eq_false (by omega)
     clear c29
     obtain rfl := Option.some.inj H
     go_wp2
     go_ret
     exact ⟨by first | rfl | (simp [errW_none, errW_some] <;> rfl) | (simp [*, errW_none, errW_some] <;> rfl), by repeat (first | (with_reducible first | exact HB.out | apply below_alloc | apply pw_below_drewN | apply below_drew1) | exact HB.out)⟩
    rw [if_pos c2] at H
    have c2b0 : decide (x8_1 < (l0.length : Int)) = true := decide_eq_true c2
    clear c2
    by_cases c3 : 0 ≤ x8_1
    rotate_left
    · rw [if_neg c3] at H
      exact absurd H (by simp)
    rw [if_pos c3] at H
    have c3b0 : decide (0 ≤ x8_1) = true := decide_eq_true c3
    clear c3
    by_cases c4 : x8_1 < (l0.length : Int)
    rotate_left
    · rw [if_neg c4] at H
      exact absurd H (by simp)
    rw [if_pos c4] at H
    have c4b0 : decide (x8_1 < (l0.length : Int)) = true := decide_eq_true c4
    clear c4
    replace H := Option.bind_eq_some_iff.mp H
    obtain ⟨t115, A50, H⟩ := H
    replace H : (if t115 = true then (some false) else (if ((rd_T28 l0 x8_1).f0).toList = x3_1.toList then (if x8_1 > 0 then (if x3_1.toList = ([] : List UInt8) then (some false) else (span_Whole.l0 k1 l0 ((rd_T28 l0 x8_1).f1) l0 (l0.length : Int) (wrap64 (x8_1 + 1)))) else (span_Whole.l0 k1 l0 ((rd_T28 l0 x8_1).f1) l0 (l0.length : Int) (wrap64 (x8_1 + 1)))) else (some false))) = some r := H
    have A5 := Aside0.mk A50
    clear A50
    by_cases c6 : t115 = true
    ·
     subst c6
     have H1 : (some false) = some r := by rw [if_pos rfl] at H; exact H
     clear H
     have H := H1
     clear H1
     obtain rfl := Option.some.inj H
     have p113 : 0 ≤ (x8_1 : Int) := of_decide_eq_true (by first | (with_reducible assumption) | assumption)
     have q113 : x8_1 < (l0.length : Int) := of_decide_eq_true (by first | (with_reducible assumption) | assumption)
     obtain ⟨ad113, e113, hx113_0, hx113_1⟩ := at_T28 HR0.out x8_1 p113 q113
     cases e113
     replace hx113_0 := (HB.out.cell (World.block_lt_of_cell? w _ hx113_0)).trans hx113_0
     replace hx113_1 := (HB.out.cell (World.block_lt_of_cell? w _ hx113_1)).trans hx113_1
     replace p113 := eq_true p113
     replace q113 := eq_true q113
     go_wp2_with (first | ((with_reducible refine gate_dst (N := 5) rfl ?_); refine box_event ?hg (N := 5) ?hd (cs := #[.string (⟨#[]⟩ : ByteArray), .string (⟨#[]⟩ : ByteArray)]) (t := 28) ?hr ?_; (case hd => rfl); (case hg => rfl); (case hr => first | (go_simp; done) | (go_simp; rfl)); intro gb114 hg w7 hbox hb; have BK114 := Aside0.mk (hbox); have GW114 := Aside0.mk ((by rw [hg]; exact (below_size (by repeat (first | (with_reducible first | exact HB.out | apply below_alloc | apply pw_below_drewN | apply below_drew1) | exact HB.out))) : w.heap.size ≤ gb114)); have GE114 := Aside0.mk ((by rw [hg]; exact (below_size (by repeat (first | (with_reducible first | exact HB.out | apply below_alloc | apply pw_below_drewN | apply below_drew1) | exact HB.out))) : w.heap.size ≤ gb114)); replace HB := Aside0.mk (below_step (by repeat (first | (with_reducible first | exact HB.out | apply below_alloc | apply pw_below_drewN | apply below_drew1) | exact HB.out)) hb); clear hb hbox hg; have hcz8_0 : w7.cell? ⟨gb114, 0, none⟩ = some (.string (⟨#[]⟩ : ByteArray)) := blk_cell BK114.out 0; have hcz8_1 : w7.cell? ⟨gb114, 1, none⟩ = some (.string (⟨#[]⟩ : ByteArray)) := blk_cell BK114.out 1; have hfz8_0 := blk_frozen BK114.out 0; have hfz8_1 := blk_frozen BK114.out 1) | ((with_reducible refine gate_callee (f := 90) rfl ?_); refine goesL_ (some 14) rfl rfl Try.func90 (by kernel_rfl) rfl #[.agg #[.string ((rd_T28 l0 x8_1).f0), .string ((rd_T28 l0 x8_1).f1)]] rfl (by (try simp only [List.map_toArray, List.map_cons, List.map_nil]); first | done | rfl | (simp only [List.length_drop, List.length_take]; done) | (simp only [List.length_drop, List.length_take]; rfl)) ?_; (with_reducible refine (span_Empty.calls ((rd_T28 l0 x8_1).f0) ((rd_T28 l0 x8_1).f1) true _ A5.out).mono ?_); rintro e w9 ⟨rfl, hb⟩; refine ⟨_, rfl, ?_⟩; replace BK114 := Aside0.mk (blk_below (g := gb114) (o := .cells #[.string ((rd_T28 l0 x8_1).f0), .string ((rd_T28 l0 x8_1).f1)] 28 (0, 0)) (by (with_reducible repeat (first | refine blk_drewN ?_ _ | refine blk_drew ?_ | refine blk_alloc ?_ _)); refine blk_put (cs := #[.string ((rd_T28 l0 x8_1).f0), .string (⟨#[]⟩ : ByteArray)]) ?_ 1 _ rfl; (with_reducible repeat (first | refine blk_drewN ?_ _ | refine blk_drew ?_ | refine blk_alloc ?_ _)); refine blk_put (cs := #[.string (⟨#[]⟩ : ByteArray), .string (⟨#[]⟩ : ByteArray)]) ?_ 0 _ rfl; (with_reducible repeat (first | refine blk_drewN ?_ _ | refine blk_drew ?_ | refine blk_alloc ?_ _)); exact BK114.out) hb); replace HB := Aside0.mk (below_step (by repeat (first | (with_reducible first | exact HB.out | apply below_alloc | apply pw_below_drewN | apply below_drew1 | refine below_set ?_ GE114.out) | exact HB.out)) hb); (try clear hb); (try clear hb2); (try clear hk); (try clear hi)))
     go_ret
     exact ⟨by first | rfl | (simp [errW_none, errW_some] <;> rfl) | (simp [*, errW_none, errW_some] <;> rfl), by repeat (first | (with_reducible first | exact HB.out | apply below_alloc | apply pw_below_drewN | apply below_drew1 | refine below_set ?_ GE114.out) | exact HB.out)⟩
    replace c6 := Bool.eq_false_iff.mpr c6
    subst c6
    have H1 : (if ((rd_T28 l0 x8_1).f0).toList = x3_1.toList then (if x8_1 > 0 then (if x3_1.toList = ([] : List UInt8) then (some false) else (span_Whole.l0 k1 l0 ((rd_T28 l0 x8_1).f1) l0 (l0.length : Int) (wrap64 (x8_1 + 1)))) else (span_Whole.l0 k1 l0 ((rd_T28 l0 x8_1).f1) l0 (l0.length : Int) (wrap64 (x8_1 + 1)))) else (some false)) = some r := by rw [if_neg (show ¬ (false = true) by decide)] at H; exact H
    clear H
    have H := H1
    clear H1
    by_cases c10 : ((rd_T28 l0 x8_1).f0).toList = x3_1.toList
    rotate_left
    ·
     rw [if_neg c10] at H
     have c10b0 : (((rd_T28 l0 x8_1).f0).toList == x3_1.toList) = false := beq_eq_false_iff_ne.mpr c10
     have c10b1 : (((rd_T28 l0 x8_1).f0).toList != x3_1.toList) = true := bne_iff_ne.mpr c10
     obtain rfl := Option.some.inj H
     have p113 : 0 ≤ (x8_1 : Int) := of_decide_eq_true (by first | (with_reducible assumption) | assumption)
     have q113 : x8_1 < (l0.length : Int) := of_decide_eq_true (by first | (with_reducible assumption) | assumption)
     obtain ⟨ad113, e113, hx113_0, hx113_1⟩ := at_T28 HR0.out x8_1 p113 q113
     cases e113
     replace hx113_0 := (HB.out.cell (World.block_lt_of_cell? w _ hx113_0)).trans hx113_0
     replace hx113_1 := (HB.out.cell (World.block_lt_of_cell? w _ hx113_1)).trans hx113_1
     replace p113 := eq_true p113
     replace q113 := eq_true q113
     go_wp2_with (first | ((with_reducible refine gate_dst (N := 5) rfl ?_); refine box_event ?hg (N := 5) ?hd (cs := #[.string (⟨#[]⟩ : ByteArray), .string (⟨#[]⟩ : ByteArray)]) (t := 28) ?hr ?_; (case hd => rfl); (case hg => rfl); (case hr => first | (go_simp; done) | (go_simp; rfl)); intro gb114 hg w25 hbox hb; have BK114 := Aside0.mk (hbox); have GW114 := Aside0.mk ((by rw [hg]; exact (below_size (by repeat (first | (with_reducible first | exact HB.out | apply below_alloc | apply pw_below_drewN | apply below_drew1) | exact HB.out))) : w.heap.size ≤ gb114)); have GE114 := Aside0.mk ((by rw [hg]; exact (below_size (by repeat (first | (with_reducible first | exact HB.out | apply below_alloc | apply pw_below_drewN | apply below_drew1) | exact HB.out))) : w.heap.size ≤ gb114)); replace HB := Aside0.mk (below_step (by repeat (first | (with_reducible first | exact HB.out | apply below_alloc | apply pw_below_drewN | apply below_drew1) | exact HB.out)) hb); clear hb hbox hg; have hcz26_0 : w25.cell? ⟨gb114, 0, none⟩ = some (.string (⟨#[]⟩ : ByteArray)) := blk_cell BK114.out 0; have hcz26_1 : w25.cell? ⟨gb114, 1, none⟩ = some (.string (⟨#[]⟩ : ByteArray)) := blk_cell BK114.out 1; have hfz26_0 := blk_frozen BK114.out 0; have hfz26_1 := blk_frozen BK114.out 1) | ((with_reducible refine gate_callee (f := 90) rfl ?_); refine goesL_ (some 14) rfl rfl Try.func90 (by kernel_rfl) rfl #[.agg #[.string ((rd_T28 l0 x8_1).f0), .string ((rd_T28 l0 x8_1).f1)]] rfl (by (try simp only [List.map_toArray, List.map_cons, List.map_nil]); first | done | rfl | (simp only [List.length_drop, List.length_take]; done) | (simp only [List.length_drop, List.length_take]; rfl)) ?_; (with_reducible refine (span_Empty.calls ((rd_T28 l0 x8_1).f0) ((rd_T28 l0 x8_1).f1) false _ A5.out).mono ?_); rintro e w27 ⟨rfl, hb⟩; refine ⟨_, rfl, ?_⟩; replace BK114 := Aside0.mk (blk_below (g := gb114) (o := .cells #[.string ((rd_T28 l0 x8_1).f0), .string ((rd_T28 l0 x8_1).f1)] 28 (0, 0)) (by (with_reducible repeat (first | refine blk_drewN ?_ _ | refine blk_drew ?_ | refine blk_alloc ?_ _)); refine blk_put (cs := #[.string ((rd_T28 l0 x8_1).f0), .string (⟨#[]⟩ : ByteArray)]) ?_ 1 _ rfl; (with_reducible repeat (first | refine blk_drewN ?_ _ | refine blk_drew ?_ | refine blk_alloc ?_ _)); refine blk_put (cs := #[.string (⟨#[]⟩ : ByteArray), .string (⟨#[]⟩ : ByteArray)]) ?_ 0 _ rfl; (with_reducible repeat (first | refine blk_drewN ?_ _ | refine blk_drew ?_ | refine blk_alloc ?_ _)); exact BK114.out) hb); replace HB := Aside0.mk (below_step (by repeat (first | (with_reducible first | exact HB.out | apply below_alloc | apply pw_below_drewN | apply below_drew1 | refine below_set ?_ GE114.out) | exact HB.out)) hb); (try clear hb); (try clear hb2); (try clear hk); (try clear hi); have hcz28_0 : w27.cell? ⟨gb114, 0, none⟩ = some (.string ((rd_T28 l0 x8_1).f0)) := blk_cell BK114.out 0; have hcz28_1 : w27.cell? ⟨gb114, 1, none⟩ = some (.string ((rd_T28 l0 x8_1).f1)) := blk_cell BK114.out 1; have hfz28_0 := blk_frozen BK114.out 0; have hfz28_1 := blk_frozen BK114.out 1))
     go_ret
     exact ⟨by first | rfl | (simp [errW_none, errW_some] <;> rfl) | (simp [*, errW_none, errW_some] <;> rfl), by repeat (first | (with_reducible first | exact HB.out | apply below_alloc | apply pw_below_drewN | apply below_drew1 | refine below_set ?_ GE114.out) | exact HB.out)⟩
    rw [if_pos c10] at H
    have c10b0 : (((rd_T28 l0 x8_1).f0).toList == x3_1.toList) = true := beq_iff_eq.mpr c10
    have c10b1 : (((rd_T28 l0 x8_1).f0).toList != x3_1.toList) = false := bne_eq_false_iff_eq.mpr c10
    clear c10
    by_cases c11 : x8_1 > 0
    rotate_left
    ·
     rw [if_neg c11] at H
     have c11b0 : decide (0 < x8_1) = false := decide_eq_false c11
     clear c11
     have H' := Aside0.mk H
     clear H
     have p113 : 0 ≤ (x8_1 : Int) := of_decide_eq_true (by first | (with_reducible assumption) | assumption)
     have q113 : x8_1 < (l0.length : Int) := of_decide_eq_true (by first | (with_reducible assumption) | assumption)
     obtain ⟨ad113, e113, hx113_0, hx113_1⟩ := at_T28 HR0.out x8_1 p113 q113
     cases e113
     replace hx113_0 := (HB.out.cell (World.block_lt_of_cell? w _ hx113_0)).trans hx113_0
     replace hx113_1 := (HB.out.cell (World.block_lt_of_cell? w _ hx113_1)).trans hx113_1
     replace p113 := eq_true p113
     replace q113 := eq_true q113
     go_wp2_with (first | ((with_reducible refine gate_dst (N := 5) rfl ?_); refine box_event ?hg (N := 5) ?hd (cs := #[.string (⟨#[]⟩ : ByteArray), .string (⟨#[]⟩ : ByteArray)]) (t := 28) ?hr ?_; (case hd => rfl); (case hg => rfl); (case hr => first | (go_simp; done) | (go_simp; rfl)); intro gb114 hg w21 hbox hb; have BK114 := Aside0.mk (hbox); have GW114 := Aside0.mk ((by rw [hg]; exact (below_size (by repeat (first | (with_reducible first | exact HB.out | apply below_alloc | apply pw_below_drewN | apply below_drew1) | exact HB.out))) : w.heap.size ≤ gb114)); have GE114 := Aside0.mk ((by rw [hg]; exact (below_size (by repeat (first | (with_reducible first | exact HB.out | apply below_alloc | apply pw_below_drewN | apply below_drew1) | exact HB.out))) : w.heap.size ≤ gb114)); replace HB := Aside0.mk (below_step (by repeat (first | (with_reducible first | exact HB.out | apply below_alloc | apply pw_below_drewN | apply below_drew1) | exact HB.out)) hb); clear hb hbox hg; have hcz22_0 : w21.cell? ⟨gb114, 0, none⟩ = some (.string (⟨#[]⟩ : ByteArray)) := blk_cell BK114.out 0; have hcz22_1 : w21.cell? ⟨gb114, 1, none⟩ = some (.string (⟨#[]⟩ : ByteArray)) := blk_cell BK114.out 1; have hfz22_0 := blk_frozen BK114.out 0; have hfz22_1 := blk_frozen BK114.out 1) | ((with_reducible refine gate_callee (f := 90) rfl ?_); refine goesL_ (some 14) rfl rfl Try.func90 (by kernel_rfl) rfl #[.agg #[.string ((rd_T28 l0 x8_1).f0), .string ((rd_T28 l0 x8_1).f1)]] rfl (by (try simp only [List.map_toArray, List.map_cons, List.map_nil]); first | done | rfl | (simp only [List.length_drop, List.length_take]; done) | (simp only [List.length_drop, List.length_take]; rfl)) ?_; (with_reducible refine (span_Empty.calls ((rd_T28 l0 x8_1).f0) ((rd_T28 l0 x8_1).f1) false _ A5.out).mono ?_); rintro e w23 ⟨rfl, hb⟩; refine ⟨_, rfl, ?_⟩; replace BK114 := Aside0.mk (blk_below (g := gb114) (o := .cells #[.string ((rd_T28 l0 x8_1).f0), .string ((rd_T28 l0 x8_1).f1)] 28 (0, 0)) (by (with_reducible repeat (first | refine blk_drewN ?_ _ | refine blk_drew ?_ | refine blk_alloc ?_ _)); refine blk_put (cs := #[.string ((rd_T28 l0 x8_1).f0), .string (⟨#[]⟩ : ByteArray)]) ?_ 1 _ rfl; (with_reducible repeat (first | refine blk_drewN ?_ _ | refine blk_drew ?_ | refine blk_alloc ?_ _)); refine blk_put (cs := #[.string (⟨#[]⟩ : ByteArray), .string (⟨#[]⟩ : ByteArray)]) ?_ 0 _ rfl; (with_reducible repeat (first | refine blk_drewN ?_ _ | refine blk_drew ?_ | refine blk_alloc ?_ _)); exact BK114.out) hb); replace HB := Aside0.mk (below_step (by repeat (first | (with_reducible first | exact HB.out | apply below_alloc | apply pw_below_drewN | apply below_drew1 | refine below_set ?_ GE114.out) | exact HB.out)) hb); (try clear hb); (try clear hb2); (try clear hk); (try clear hi); have hcz24_0 : w23.cell? ⟨gb114, 0, none⟩ = some (.string ((rd_T28 l0 x8_1).f0)) := blk_cell BK114.out 0; have hcz24_1 : w23.cell? ⟨gb114, 1, none⟩ = some (.string ((rd_T28 l0 x8_1).f1)) := blk_cell BK114.out 1; have hfz24_0 := blk_frozen BK114.out 0; have hfz24_1 := blk_frozen BK114.out 1))
     go_roundg k1
     case measure => have := HK1.out; omega
     case rel => exact ⟨((rd_T28 l0 x8_1).f1), (wrap64 (x8_1 + 1)), (by first | rfl | (simp; done) | (simp [*]; done)), (by first | rfl | (simp; done) | (simp [*]; done)), H', ⟨by have := HK1.out; omega⟩, ⟨by repeat (first | (with_reducible first | exact HB.out | apply below_alloc | apply pw_below_drewN | apply below_drew1 | refine below_set ?_ GE114.out) | exact HB.out)⟩⟩
    rw [if_pos c11] at H
    have c11b0 : decide (0 < x8_1) = true := decide_eq_true c11
    clear c11
    by_cases c12 : x3_1.toList = ([] : List UInt8)
    ·
     rw [if_pos c12] at H
     have c12b0 : (x3_1.toList == ([] : List UInt8)) = true := beq_iff_eq.mpr c12
     have c12b1 : (x3_1.toList != ([] : List UInt8)) = false := bne_eq_false_iff_eq.mpr c12
     clear c12
     obtain rfl := Option.some.inj H
     have p113 : 0 ≤ (x8_1 : Int) := of_decide_eq_true (by first | (with_reducible assumption) | assumption)
     have q113 : x8_1 < (l0.length : Int) := of_decide_eq_true (by first | (with_reducible assumption) | assumption)
     obtain ⟨ad113, e113, hx113_0, hx113_1⟩ := at_T28 HR0.out x8_1 p113 q113
     cases e113
     replace hx113_0 := (HB.out.cell (World.block_lt_of_cell? w _ hx113_0)).trans hx113_0
     replace hx113_1 := (HB.out.cell (World.block_lt_of_cell? w _ hx113_1)).trans hx113_1
     replace p113 := eq_true p113
     replace q113 := eq_true q113
     go_wp2_with (first | ((with_reducible refine gate_dst (N := 5) rfl ?_); refine box_event ?hg (N := 5) ?hd (cs := #[.string (⟨#[]⟩ : ByteArray), .string (⟨#[]⟩ : ByteArray)]) (t := 28) ?hr ?_; (case hd => rfl); (case hg => rfl); (case hr => first | (go_simp; done) | (go_simp; rfl)); intro gb114 hg w13 hbox hb; have BK114 := Aside0.mk (hbox); have GW114 := Aside0.mk ((by rw [hg]; exact (below_size (by repeat (first | (with_reducible first | exact HB.out | apply below_alloc | apply pw_below_drewN | apply below_drew1) | exact HB.out))) : w.heap.size ≤ gb114)); have GE114 := Aside0.mk ((by rw [hg]; exact (below_size (by repeat (first | (with_reducible first | exact HB.out | apply below_alloc | apply pw_below_drewN | apply below_drew1) | exact HB.out))) : w.heap.size ≤ gb114)); replace HB := Aside0.mk (below_step (by repeat (first | (with_reducible first | exact HB.out | apply below_alloc | apply pw_below_drewN | apply below_drew1) | exact HB.out)) hb); clear hb hbox hg; have hcz14_0 : w13.cell? ⟨gb114, 0, none⟩ = some (.string (⟨#[]⟩ : ByteArray)) := blk_cell BK114.out 0; have hcz14_1 : w13.cell? ⟨gb114, 1, none⟩ = some (.string (⟨#[]⟩ : ByteArray)) := blk_cell BK114.out 1; have hfz14_0 := blk_frozen BK114.out 0; have hfz14_1 := blk_frozen BK114.out 1) | ((with_reducible refine gate_callee (f := 90) rfl ?_); refine goesL_ (some 14) rfl rfl Try.func90 (by kernel_rfl) rfl #[.agg #[.string ((rd_T28 l0 x8_1).f0), .string ((rd_T28 l0 x8_1).f1)]] rfl (by (try simp only [List.map_toArray, List.map_cons, List.map_nil]); first | done | rfl | (simp only [List.length_drop, List.length_take]; done) | (simp only [List.length_drop, List.length_take]; rfl)) ?_; (with_reducible refine (span_Empty.calls ((rd_T28 l0 x8_1).f0) ((rd_T28 l0 x8_1).f1) false _ A5.out).mono ?_); rintro e w15 ⟨rfl, hb⟩; refine ⟨_, rfl, ?_⟩; replace BK114 := Aside0.mk (blk_below (g := gb114) (o := .cells #[.string ((rd_T28 l0 x8_1).f0), .string ((rd_T28 l0 x8_1).f1)] 28 (0, 0)) (by (with_reducible repeat (first | refine blk_drewN ?_ _ | refine blk_drew ?_ | refine blk_alloc ?_ _)); refine blk_put (cs := #[.string ((rd_T28 l0 x8_1).f0), .string (⟨#[]⟩ : ByteArray)]) ?_ 1 _ rfl; (with_reducible repeat (first | refine blk_drewN ?_ _ | refine blk_drew ?_ | refine blk_alloc ?_ _)); refine blk_put (cs := #[.string (⟨#[]⟩ : ByteArray), .string (⟨#[]⟩ : ByteArray)]) ?_ 0 _ rfl; (with_reducible repeat (first | refine blk_drewN ?_ _ | refine blk_drew ?_ | refine blk_alloc ?_ _)); exact BK114.out) hb); replace HB := Aside0.mk (below_step (by repeat (first | (with_reducible first | exact HB.out | apply below_alloc | apply pw_below_drewN | apply below_drew1 | refine below_set ?_ GE114.out) | exact HB.out)) hb); (try clear hb); (try clear hb2); (try clear hk); (try clear hi); have hcz16_0 : w15.cell? ⟨gb114, 0, none⟩ = some (.string ((rd_T28 l0 x8_1).f0)) := blk_cell BK114.out 0; have hcz16_1 : w15.cell? ⟨gb114, 1, none⟩ = some (.string ((rd_T28 l0 x8_1).f1)) := blk_cell BK114.out 1; have hfz16_0 := blk_frozen BK114.out 0; have hfz16_1 := blk_frozen BK114.out 1))
     go_ret
     exact ⟨by first | rfl | (simp [errW_none, errW_some] <;> rfl) | (simp [*, errW_none, errW_some] <;> rfl), by repeat (first | (with_reducible first | exact HB.out | apply below_alloc | apply pw_below_drewN | apply below_drew1 | refine below_set ?_ GE114.out) | exact HB.out)⟩
    rw [if_neg c12] at H
    have c12b0 : (x3_1.toList == ([] : List UInt8)) = false := beq_eq_false_iff_ne.mpr c12
    have c12b1 : (x3_1.toList != ([] : List UInt8)) = true := bne_iff_ne.mpr c12
    have H' := Aside0.mk H
    clear H
    have p113 : 0 ≤ (x8_1 : Int) := of_decide_eq_true (by first | (with_reducible assumption) | assumption)
    have q113 : x8_1 < (l0.length : Int) := of_decide_eq_true (by first | (with_reducible assumption) | assumption)
    obtain ⟨ad113, e113, hx113_0, hx113_1⟩ := at_T28 HR0.out x8_1 p113 q113
    cases e113
    replace hx113_0 := (HB.out.cell (World.block_lt_of_cell? w _ hx113_0)).trans hx113_0
    replace hx113_1 := (HB.out.cell (World.block_lt_of_cell? w _ hx113_1)).trans hx113_1
    replace p113 := eq_true p113
    replace q113 := eq_true q113
    go_wp2_with (first | ((with_reducible refine gate_dst (N := 5) rfl ?_); refine box_event ?hg (N := 5) ?hd (cs := #[.string (⟨#[]⟩ : ByteArray), .string (⟨#[]⟩ : ByteArray)]) (t := 28) ?hr ?_; (case hd => rfl); (case hg => rfl); (case hr => first | (go_simp; done) | (go_simp; rfl)); intro gb114 hg w17 hbox hb; have BK114 := Aside0.mk (hbox); have GW114 := Aside0.mk ((by rw [hg]; exact (below_size (by repeat (first | (with_reducible first | exact HB.out | apply below_alloc | apply pw_below_drewN | apply below_drew1) | exact HB.out))) : w.heap.size ≤ gb114)); have GE114 := Aside0.mk ((by rw [hg]; exact (below_size (by repeat (first | (with_reducible first | exact HB.out | apply below_alloc | apply pw_below_drewN | apply below_drew1) | exact HB.out))) : w.heap.size ≤ gb114)); replace HB := Aside0.mk (below_step (by repeat (first | (with_reducible first | exact HB.out | apply below_alloc | apply pw_below_drewN | apply below_drew1) | exact HB.out)) hb); clear hb hbox hg; have hcz18_0 : w17.cell? ⟨gb114, 0, none⟩ = some (.string (⟨#[]⟩ : ByteArray)) := blk_cell BK114.out 0; have hcz18_1 : w17.cell? ⟨gb114, 1, none⟩ = some (.string (⟨#[]⟩ : ByteArray)) := blk_cell BK114.out 1; have hfz18_0 := blk_frozen BK114.out 0; have hfz18_1 := blk_frozen BK114.out 1) | ((with_reducible refine gate_callee (f := 90) rfl ?_); refine goesL_ (some 14) rfl rfl Try.func90 (by kernel_rfl) rfl #[.agg #[.string ((rd_T28 l0 x8_1).f0), .string ((rd_T28 l0 x8_1).f1)]] rfl (by (try simp only [List.map_toArray, List.map_cons, List.map_nil]); first | done | rfl | (simp only [List.length_drop, List.length_take]; done) | (simp only [List.length_drop, List.length_take]; rfl)) ?_; (with_reducible refine (span_Empty.calls ((rd_T28 l0 x8_1).f0) ((rd_T28 l0 x8_1).f1) false _ A5.out).mono ?_); rintro e w19 ⟨rfl, hb⟩; refine ⟨_, rfl, ?_⟩; replace BK114 := Aside0.mk (blk_below (g := gb114) (o := .cells #[.string ((rd_T28 l0 x8_1).f0), .string ((rd_T28 l0 x8_1).f1)] 28 (0, 0)) (by (with_reducible repeat (first | refine blk_drewN ?_ _ | refine blk_drew ?_ | refine blk_alloc ?_ _)); refine blk_put (cs := #[.string ((rd_T28 l0 x8_1).f0), .string (⟨#[]⟩ : ByteArray)]) ?_ 1 _ rfl; (with_reducible repeat (first | refine blk_drewN ?_ _ | refine blk_drew ?_ | refine blk_alloc ?_ _)); refine blk_put (cs := #[.string (⟨#[]⟩ : ByteArray), .string (⟨#[]⟩ : ByteArray)]) ?_ 0 _ rfl; (with_reducible repeat (first | refine blk_drewN ?_ _ | refine blk_drew ?_ | refine blk_alloc ?_ _)); exact BK114.out) hb); replace HB := Aside0.mk (below_step (by repeat (first | (with_reducible first | exact HB.out | apply below_alloc | apply pw_below_drewN | apply below_drew1 | refine below_set ?_ GE114.out) | exact HB.out)) hb); (try clear hb); (try clear hb2); (try clear hk); (try clear hi); have hcz20_0 : w19.cell? ⟨gb114, 0, none⟩ = some (.string ((rd_T28 l0 x8_1).f0)) := blk_cell BK114.out 0; have hcz20_1 : w19.cell? ⟨gb114, 1, none⟩ = some (.string ((rd_T28 l0 x8_1).f1)) := blk_cell BK114.out 1; have hfz20_0 := blk_frozen BK114.out 0; have hfz20_1 := blk_frozen BK114.out 1))
    go_roundg k1
    case measure => have := HK1.out; omega
    case rel => exact ⟨((rd_T28 l0 x8_1).f1), (wrap64 (x8_1 + 1)), (by first | rfl | (simp; done) | (simp [*]; done)), (by first | rfl | (simp; done) | (simp [*]; done)), H', ⟨by have := HK1.out; omega⟩, ⟨by repeat (first | (with_reducible first | exact HB.out | apply below_alloc | apply pw_below_drewN | apply below_drew1 | refine below_set ?_ GE114.out) | exact HB.out)⟩⟩
/-! ### atlas_May: function 28 -/
mutual
def atlas_May.j0 : Nat → Int → Bool → Int → List (S30) → Option (Bool)
  | 0, _, _, _, _ => none
  | k + 1, x1, x30, x117000, x117001 => if x30 = true then (some false) else (atlas_May.l0 k x1 ([] : List (S28)) x117001 (x117001.length : Int) 0 x117000 x117001)
def atlas_May.l0 : Nat → Int → List (S28) → List (S30) → Int → Int → Int → List (S30) → Option (Bool)
  | 0, _, _, _, _, _, _, _ => none
  | k + 1, x1, x5, x32, x33, x34, x117000, x117001 => if x34 < x33 then (if 0 ≤ x34 then (if x34 < (x32.length : Int) then (if ((rd_T30 x32 x34).f1) < 1 then (some false) else (if ((rd_T30 x32 x34).f1) > x1 then (some false) else (if ((rd_T30 x32 x34).f2) < 1 then (some false) else (if ((rd_T30 x32 x34).f2) > x117000 then (some false) else (if x5.length < 4398046511104 then (atlas_May.l0 k x1 (x5 ++ [(⟨(rd_T30 x32 x34).f0.f0, (rd_T30 x32 x34).f0.f1⟩ : S28)]) x32 x33 (wrap64 (x34 + 1)) x117000 x117001) else (none)))))) else (none)) else (none)) else ((span_Whole.f k x5).bind fun t122 => (some t122))
end
def atlas_May.f (k : Nat) (a0_0 : Int) (l0_1 : List (S30)) (a1 : Int) : Option (Bool) := if a1 < 1 then (atlas_May.j0 k a1 true a0_0 l0_1) else (if a1 > 5 then (atlas_May.j0 k a1 true a0_0 l0_1) else (if (l0_1.length : Int) < 1 then (atlas_May.j0 k a1 true a0_0 l0_1) else (if (l0_1.length : Int) > 12 then (atlas_May.j0 k a1 true a0_0 l0_1) else (atlas_May.j0 k a1 (decide (a0_0 < 1)) a0_0 l0_1))))
theorem atlas_May.mono_l : ∀ k, (∀ y0 y1 y2 y3, LeO (atlas_May.j0 k y0 y1 y2 y3) (atlas_May.j0 (k + 1) y0 y1 y2 y3)) ∧ (∀ y0 y1 y2 y3 y4 y5 y6, LeO (atlas_May.l0 k y0 y1 y2 y3 y4 y5 y6) (atlas_May.l0 (k + 1) y0 y1 y2 y3 y4 y5 y6))
  | 0 => ⟨fun _ _ _ _ r h => by simp [atlas_May.j0] at h, fun _ _ _ _ _ _ _ r h => by simp [atlas_May.l0] at h⟩
  | k + 1 => by
    obtain ⟨ih0, ih1⟩ := atlas_May.mono_l k
    refine ⟨?_, ?_⟩
    · intro y0 y1 y2 y3
      unfold atlas_May.j0
      repeat' first
      | (with_reducible exact ih0 _ _ _ _)
      | (with_reducible exact ih1 _ _ _ _ _ _ _)
      | (with_reducible exact span_Whole.mono _ _)
      | (with_reducible exact LeO.refl _)
      | (with_reducible exact LeO.none _)
      | (with_reducible refine LeO.ite ?_ ?_)
      | (with_reducible refine LeO.bind ?_ (fun _ => ?_))
      | exact ih0 _ _ _ _
      | exact ih1 _ _ _ _ _ _ _
      | exact span_Whole.mono _ _
      | exact LeO.none _
      | refine LeO.ite ?_ ?_
      | refine LeO.bind ?_ (fun _ => ?_)
    · intro y0 y1 y2 y3 y4 y5 y6
      unfold atlas_May.l0
      repeat' first
      | (with_reducible exact ih0 _ _ _ _)
      | (with_reducible exact ih1 _ _ _ _ _ _ _)
      | (with_reducible exact span_Whole.mono _ _)
      | (with_reducible exact LeO.refl _)
      | (with_reducible exact LeO.none _)
      | (with_reducible refine LeO.ite ?_ ?_)
      | (with_reducible refine LeO.bind ?_ (fun _ => ?_))
      | exact ih0 _ _ _ _
      | exact ih1 _ _ _ _ _ _ _
      | exact span_Whole.mono _ _
      | exact LeO.none _
      | refine LeO.ite ?_ ?_
      | refine LeO.bind ?_ (fun _ => ?_)
theorem atlas_May.mono : ∀ a0 a1 a2 k, LeO (atlas_May.f k a0 a1 a2) (atlas_May.f (k + 1) a0 a1 a2) := by
  intro a0 a1 a2 k
  obtain ⟨ih0, ih1⟩ := atlas_May.mono_l k
  unfold atlas_May.f
  repeat' first
      | (with_reducible exact ih0 _ _ _ _)
      | (with_reducible exact ih1 _ _ _ _ _ _ _)
      | (with_reducible exact span_Whole.mono _ _)
      | (with_reducible exact LeO.refl _)
      | (with_reducible exact LeO.none _)
      | (with_reducible refine LeO.ite ?_ ?_)
      | (with_reducible refine LeO.bind ?_ (fun _ => ?_))
      | exact ih0 _ _ _ _
      | exact ih1 _ _ _ _ _ _ _
      | exact span_Whole.mono _ _
      | exact LeO.none _
      | refine LeO.ite ?_ ?_
      | refine LeO.bind ?_ (fun _ => ?_)
set_option maxHeartbeats 8000000 in
set_option maxRecDepth 100000 in
theorem atlas_May.calls (k : Nat) (a0_0 : Int) (A0_1 : Option Addr) (c0_1 : Nat) (l0_1 : List (S30)) (a1 : Int) (r : Bool) (w : World) (hr0_1 : Kd.C k30 w A0_1 l0_1.length l0_1) (hc0_1 : l0_1.length ≤ c0_1) (h : atlas_May.f k a0_0 l0_1 a1 = some r) :
    Calls Try.prog 28 #[.agg #[.int .i64 a0_0, .slice A0_1 l0_1.length c0_1], .int .i64 a1] w fun e w' => e = .returned (.bool r) ∧ Below w.heap.size w w' := by
  have hu35 := Try.underlying35
  have hu30 := Try.underlying30
  have hu28 := Try.underlying28
  have HR0_1 := Aside0.mk hr0_1
  have HC0_1 := Aside0.mk hc0_1
  clear hr0_1 hc0_1
  have HB := Aside0.mk (Below.refl w.heap.size w)
  have H : (if a1 < 1 then (atlas_May.j0 k a1 true a0_0 l0_1) else (if a1 > 5 then (atlas_May.j0 k a1 true a0_0 l0_1) else (if (l0_1.length : Int) < 1 then (atlas_May.j0 k a1 true a0_0 l0_1) else (if (l0_1.length : Int) > 12 then (atlas_May.j0 k a1 true a0_0 l0_1) else (atlas_May.j0 k a1 (decide (a0_0 < 1)) a0_0 l0_1))))) = some r := h
  clear h
  have HC3 := Aside0.mk H
  clear H
  go_enter Try.func28, Try.ntmps28
  go_upto_region 1 with (first | ((with_reducible refine gate_dst (N := 2) rfl ?_); (try (refine gate_guard (by rfl) ?_; dsimp only)); refine box_event ?hg (N := 2) ?hd (cs := #[.int .i64 a0_0, .slice A0_1 l0_1.length c0_1]) (t := 35) ?hr ?_; (case hd => rfl); (case hg => rfl); (case hr => first | (go_simp; done) | (go_simp; rfl)); intro gb116 hg w4 hbox hb; have BK116 := Aside0.mk (hbox); have GW116 := geL hg HB.out; have GE116 := geL hg HB.out; replace HB := Aside0.mk (below_step (pB HB.out) hb); clear hb hbox hg))
  (try simp only [Act.put, List.setIfInBounds_toArray, List.set_cons_zero, List.set_cons_succ])
  go_cut [30] (fun v30 wc => ∃ (kq : Nat) (x30_2 : Bool), v30 = .bool x30_2 ∧ Aside0 (atlas_May.j0 kq a1 x30_2 a0_0 l0_1 = some r) ∧ Aside0 (kq ≤ k) ∧ Aside0 (wc.heap[gb116]? = some (.cells #[.int .i64 a0_0, (.slice A0_1 l0_1.length c0_1)] 35 (0, 0))) ∧ Aside0 (Below w.heap.size w wc))
  case first =>
   have H := HC3.out
   clear HC3
   by_cases c5 : a1 < 1
   ·
    rw [if_pos c5] at H
    have c5b0 : decide (a1 < 1) = true := decide_eq_true c5
    clear c5
    (first | rw [c5b0] | (simp only [i64_w, i32_w]; rw [c5b0]) | skip)
    have H' := Aside0.mk H
    clear H
    go_wp2
    go_meet
    case rel => exact ⟨_, (true), (by first | rfl | (simp; done) | (simp [*]; done)), H', ⟨by first | omega | exact Nat.le_refl _⟩, ⟨by (with_reducible repeat (first | refine blk_drewN ?_ _ | refine blk_drew ?_ | refine blk_alloc ?_ _)); exact BK116.out⟩, ⟨by repeat (first | (with_reducible first | exact HB.out | apply below_alloc | apply pw_below_drewN | apply below_drew1 | refine below_set ?_ GE116.out) | exact HB.out)⟩⟩
   rw [if_neg c5] at H
   have c5b0 : decide (a1 < 1) = false := decide_eq_false c5
   clear c5
   (first | rw [c5b0] | (simp only [i64_w, i32_w]; rw [c5b0]) | skip)
   by_cases c6 : a1 > 5
   ·
    rw [if_pos c6] at H
    have c6b0 : decide (5 < a1) = true := decide_eq_true c6
    clear c6
    have H' := Aside0.mk H
    clear H
    go_wp2
    go_meet
    case rel => exact ⟨_, (true), (by first | rfl | (simp; done) | (simp [*]; done)), H', ⟨by first | omega | exact Nat.le_refl _⟩, ⟨by (with_reducible repeat (first | refine blk_drewN ?_ _ | refine blk_drew ?_ | refine blk_alloc ?_ _)); exact BK116.out⟩, ⟨by repeat (first | (with_reducible first | exact HB.out | apply below_alloc | apply pw_below_drewN | apply below_drew1 | refine below_set ?_ GE116.out) | exact HB.out)⟩⟩
   rw [if_neg c6] at H
   have c6b0 : decide (5 < a1) = false := decide_eq_false c6
   clear c6
   by_cases c7 : (l0_1.length : Int) < 1
   ·
    rw [if_pos c7] at H
    have c7b0 : decide ((l0_1.length : Int) < 1) = true := decide_eq_true c7
    have c7b1 : decide (l0_1.length < 1) = true := decide_eq_true (by omega)
    clear c7
    have H' := Aside0.mk H
    clear H
    have hcz8_0 : w4.cell? ⟨gb116, 0, none⟩ = some (.int .i64 a0_0) := blk_cell BK116.out 0
    have hcz8_1 : w4.cell? ⟨gb116, 1, none⟩ = some (.slice A0_1 l0_1.length c0_1) := blk_cell BK116.out 1
    have hfz8_0 := blk_frozen BK116.out 0
    have hfz8_1 := blk_frozen BK116.out 1
    go_wp2
    go_meet
    case rel => exact ⟨_, (true), (by first | rfl | (simp; done) | (simp [*]; done)), H', ⟨by first | omega | exact Nat.le_refl _⟩, ⟨by (with_reducible repeat (first | refine blk_drewN ?_ _ | refine blk_drew ?_ | refine blk_alloc ?_ _)); exact BK116.out⟩, ⟨by repeat (first | (with_reducible first | exact HB.out | apply below_alloc | apply pw_below_drewN | apply below_drew1 | refine below_set ?_ GE116.out) | exact HB.out)⟩⟩
   rw [if_neg c7] at H
   have c7b0 : decide ((l0_1.length : Int) < 1) = false := decide_eq_false c7
   have c7b1 : decide (l0_1.length < 1) = false := decide_eq_false (by omega)
   clear c7
   by_cases c9 : (l0_1.length : Int) > 12
   ·
    rw [if_pos c9] at H
    have c9b0 : decide (12 < (l0_1.length : Int)) = true := decide_eq_true c9
    have c9b1 : decide (12 < l0_1.length) = true := decide_eq_true (by omega)
    clear c9
    have H' := Aside0.mk H
    clear H
    have hcz10_0 : w4.cell? ⟨gb116, 0, none⟩ = some (.int .i64 a0_0) := blk_cell BK116.out 0
    have hcz10_1 : w4.cell? ⟨gb116, 1, none⟩ = some (.slice A0_1 l0_1.length c0_1) := blk_cell BK116.out 1
    have hfz10_0 := blk_frozen BK116.out 0
    have hfz10_1 := blk_frozen BK116.out 1
    go_wp2
    go_meet
    case rel => exact ⟨_, (true), (by first | rfl | (simp; done) | (simp [*]; done)), H', ⟨by first | omega | exact Nat.le_refl _⟩, ⟨by (with_reducible repeat (first | refine blk_drewN ?_ _ | refine blk_drew ?_ | refine blk_alloc ?_ _)); exact BK116.out⟩, ⟨by repeat (first | (with_reducible first | exact HB.out | apply below_alloc | apply pw_below_drewN | apply below_drew1 | refine below_set ?_ GE116.out) | exact HB.out)⟩⟩
   rw [if_neg c9] at H
   have c9b0 : decide (12 < (l0_1.length : Int)) = false := decide_eq_false c9
   have c9b1 : decide (12 < l0_1.length) = false := decide_eq_false (by omega)
   clear c9
   have H' := Aside0.mk H
   clear H
   have hcz11_0 : w4.cell? ⟨gb116, 0, none⟩ = some (.int .i64 a0_0) := blk_cell BK116.out 0
   have hcz11_1 : w4.cell? ⟨gb116, 1, none⟩ = some (.slice A0_1 l0_1.length c0_1) := blk_cell BK116.out 1
   have hfz11_0 := blk_frozen BK116.out 0
   have hfz11_1 := blk_frozen BK116.out 1
   go_wp2
   go_meet
   case rel => exact ⟨_, (decide (a0_0 < 1)), (by first | rfl | (simp; done) | (simp [*]; done)), H', ⟨by first | omega | exact Nat.le_refl _⟩, ⟨by (with_reducible repeat (first | refine blk_drewN ?_ _ | refine blk_drew ?_ | refine blk_alloc ?_ _)); exact BK116.out⟩, ⟨by repeat (first | (with_reducible first | exact HB.out | apply below_alloc | apply pw_below_drewN | apply below_drew1 | refine below_set ?_ GE116.out) | exact HB.out)⟩⟩
  case rest =>
   clear HC3
   try clear c2
   try clear p2
   try clear c5
   try clear c5b0
   try clear c6
   try clear c6b0
   try clear c7
   try clear c7b0
   try clear c7b1
   try clear c9
   try clear c9b0
   try clear c9b1
   try clear hcz10_0
   try clear hcz10_1
   try clear hcz11_0
   try clear hcz11_1
   try clear hcz8_0
   try clear hcz8_1
   try clear hfz10_0
   try clear hfz10_1
   try clear hfz11_0
   try clear hfz11_1
   try clear hfz8_0
   try clear hfz8_1
   obtain ⟨kq, x30_2, rfl, HA, HJ2, BK116, HB⟩ := hcut
   cases kq with
   | zero => exact absurd HA.out (by simp [atlas_May.j0])
   | succ kj2 =>
    have H := HA.out
    clear HA
    simp only [atlas_May.j0] at H
    by_cases c12 : x30_2 = true
    ·
     subst c12
     have H1 : (some false) = some r := by rw [if_pos rfl] at H; exact H
     clear H
     have H := H1
     clear H1
     obtain rfl := Option.some.inj H
     go_wp2
     go_ret
     exact ⟨by first | rfl | (simp [errW_none, errW_some] <;> rfl) | (simp [*, errW_none, errW_some] <;> rfl), by repeat (first | (with_reducible first | exact HB.out | apply below_alloc | apply pw_below_drewN | apply below_drew1 | refine below_set ?_ GE116.out) | exact HB.out)⟩
    replace c12 := Bool.eq_false_iff.mpr c12
    subst c12
    have H1 : (atlas_May.l0 kj2 a1 ([] : List (S28)) l0_1 (l0_1.length : Int) 0 a0_0 l0_1) = some r := by rw [if_neg (show ¬ (false = true) by decide)] at H; exact H
    clear H
    have H := H1
    clear H1
    have H' := Aside0.mk H
    clear H
    have hcz13_0 : wc.cell? ⟨gb116, 0, none⟩ = some (.int .i64 a0_0) := blk_cell BK116.out 0
    have hcz13_1 : wc.cell? ⟨gb116, 1, none⟩ = some (.slice A0_1 l0_1.length c0_1) := blk_cell BK116.out 1
    have hfz13_0 := blk_frozen BK116.out 0
    have hfz13_1 := blk_frozen BK116.out 1
    go_wp2
    go_loopg [5, 34] kj2 (fun kq v5 v34 w' => ∃ (x5_2 : List (S28)) (x34_2 : Int), v34 = .int .i64 x34_2 ∧ Aside0 (atlas_May.l0 kq a1 x5_2 l0_1 (l0_1.length : Int) x34_2 a0_0 l0_1 = some r) ∧ Aside0 (kq ≤ kj2) ∧ Aside0 (Kd.R k28 28 w' w.heap.size (fun _ => True) v5 x5_2) ∧ Aside0 (w'.heap[gb116]? = some (.cells #[.int .i64 a0_0, (.slice A0_1 l0_1.length c0_1)] 35 (0, 0))) ∧ Aside0 (Below w.heap.size w w'))
    case atStart => exact ⟨(([] : List (S28))), (0), (by first | rfl | (simp; done) | (simp [*]; done)), H', ⟨Nat.le_refl _⟩, ⟨by first | exact Kd.R_nil _ _ _ _ _ | exact Kd.N_nil _ _ _ _ _ | exact Kd.V_nil _ _ _ _ _ | exact Kd.Q_nil _ _ _ _ _ | exact Kd.S_nil _ _ _ _ _⟩, ⟨by (with_reducible repeat (first | refine blk_drewN ?_ _ | refine blk_drew ?_ | refine blk_alloc ?_ _)); exact BK116.out⟩, ⟨by repeat (first | (with_reducible first | exact HB.out | apply below_alloc | apply pw_below_drewN | apply below_drew1 | refine below_set ?_ GE116.out) | exact HB.out)⟩⟩
    case round =>
     clear H'
     try clear c1
     try clear c2
     try clear p2
     try clear c5
     try clear c5b0
     try clear c6
     try clear c6b0
     try clear c7
     try clear c7b0
     try clear c7b1
     try clear c9
     try clear c9b0
     try clear c9b1
     try clear c12
     try clear hcz10_0
     try clear hcz10_1
     try clear hcz11_0
     try clear hcz11_1
     try clear hcz13_0
     try clear hcz13_1
     try clear hcz8_0
     try clear hcz8_1
     try clear hfz10_0
     try clear hfz10_1
     try clear hfz11_0
     try clear hfz11_1
     try clear hfz13_0
     try clear hfz13_1
     try clear hfz8_0
     try clear hfz8_1
     try clear p2
     obtain ⟨x5_2, x34_2, rfl, HA, HK2, HO_5, BK116, HB⟩ := hrel
     cases gk with
     | zero => exact absurd HA.out (by simp [atlas_May.l0])
     | succ k2 =>
      have H := HA.out
      clear HA
      simp only [atlas_May.l0] at H
      by_cases c14 : x34_2 < (l0_1.length : Int)
      rotate_left
      ·
       rw [if_neg c14] at H
       have c14b0 : decide (x34_2 < (l0_1.length : Int)) = false := decide_eq_false c14
       clear c14
       replace H := Option.bind_eq_some_iff.mp H
       obtain ⟨t122, A400, H⟩ := H
       replace H : (some t122) = some r := H
       have A40 := Aside0.mk A400
       clear A400
       obtain rfl := Option.some.inj H
       obtain ⟨Ao41, co41, eo41⟩ := Kd.R_slice HO_5.out
       subst eo41
       go_wp2_with (first | ((with_reducible refine gate_callee (f := 67) rfl ?_); refine goesL_ (some 66) rfl rfl Try.func67 (by kernel_rfl) rfl #[.slice Ao41 x5_2.length co41] rfl (by (try simp only [List.map_toArray, List.map_cons, List.map_nil]); first | done | rfl | (simp only [List.length_drop, List.length_take]; done) | (simp only [List.length_drop, List.length_take]; rfl)) ?_; (with_reducible refine (span_Whole.calls k2 _ _ x5_2 t122 _ ?side1 ?side2 A40.out).mono ?_); (case side1 => repeat (first | exact (Kd.R_reads' HO_5.out).2.2 | (with_reducible refine Kd.C_alloc ?_ _) | (with_reducible refine Kd.C_drewN ?_ _) | (with_reducible refine Kd.C_drew ?_))); (case side2 => exact (Kd.R_reads' HO_5.out).2.1); rintro e w42 ⟨rfl, hb⟩; refine ⟨_, rfl, ?_⟩; replace HO_5 := Aside0.mk (Kd.R_below (pR HO_5.out) hb); replace BK116 := Aside0.mk (blk_below BK116.out hb); replace HB := Aside0.mk (below_step (pB HB.out) hb); (try clear hb); (try clear hb2); (try clear hk); (try clear hi)))
       go_ret
       exact ⟨by first | rfl | (simp [errW_none, errW_some] <;> rfl) | (simp [*, errW_none, errW_some] <;> rfl), by repeat (first | (with_reducible first | exact HB.out | apply below_alloc | apply pw_below_drewN | apply below_drew1 | refine below_set ?_ GE116.out) | exact HB.out)⟩
      rw [if_pos c14] at H
      have c14b0 : decide (x34_2 < (l0_1.length : Int)) = true := decide_eq_true c14
      clear c14
      by_cases c15 : 0 ≤ x34_2
      rotate_left
      · rw [if_neg c15] at H
        exact absurd H (by simp)
      rw [if_pos c15] at H
      have c15b0 : decide (0 ≤ x34_2) = true := decide_eq_true c15
      clear c15
      by_cases c16 : x34_2 < (l0_1.length : Int)
      rotate_left
      · rw [if_neg c16] at H
        exact absurd H (by simp)
      rw [if_pos c16] at H
      have c16b0 : decide (x34_2 < (l0_1.length : Int)) = true := decide_eq_true c16
      clear c16
      by_cases c17 : ((rd_T30 l0_1 x34_2).f1) < 1
      ·
       rw [if_pos c17] at H
       have c17b0 : decide (((rd_T30 l0_1 x34_2).f1) < 1) = true := decide_eq_true c17
       clear c17
       obtain rfl := Option.some.inj H
       have p117 : 0 ≤ (x34_2 : Int) := of_decide_eq_true (by first | (with_reducible assumption) | assumption)
       have q117 : x34_2 < (l0_1.length : Int) := of_decide_eq_true (by first | (with_reducible assumption) | assumption)
       obtain ⟨ad117, e117, hx117_0, hx117_1, hx117_2, hx117_3⟩ := at_T30 HR0_1.out x34_2 p117 q117
       cases e117
       replace hx117_0 := (HB.out.cell (World.block_lt_of_cell? w _ hx117_0)).trans hx117_0
       replace hx117_1 := (HB.out.cell (World.block_lt_of_cell? w _ hx117_1)).trans hx117_1
       replace hx117_2 := (HB.out.cell (World.block_lt_of_cell? w _ hx117_2)).trans hx117_2
       replace hx117_3 := (HB.out.cell (World.block_lt_of_cell? w _ hx117_3)).trans hx117_3
       replace p117 := eq_true p117
       replace q117 := eq_true q117
       go_wp2_with (first | ((with_reducible refine gate_dst (N := 7) rfl ?_); (try (refine gate_guard (by rfl) ?_; dsimp only)); refine box_event ?hg (N := 7) ?hd (cs := #[.string (⟨#[]⟩ : ByteArray), .string (⟨#[]⟩ : ByteArray), .int .i64 0, .int .i64 0]) (t := 30) ?hr ?_; (case hd => rfl); (case hg => rfl); (case hr => first | (go_simp; done) | (go_simp; rfl)); intro gb118 hg w18 hbox hb; have BK118 := Aside0.mk (hbox); have GW118 := geL hg HB.out; have GE118 := geL hg HB.out; have NB116_118 := neL hg BK116.out; have NB118_116 := neG hg BK116.out; replace HO_5 := Aside0.mk (Kd.R_below (pR HO_5.out) hb); replace BK116 := Aside0.mk (blk_below BK116.out hb); replace HB := Aside0.mk (below_step (pB HB.out) hb); clear hb hbox hg; have hnb19 := NB118_116.out; have hnc19 := NB116_118.out; have hcz20_0 : w18.cell? ⟨gb118, 0, none⟩ = some (.string (⟨#[]⟩ : ByteArray)) := blk_cell BK118.out 0; have hcz20_1 : w18.cell? ⟨gb118, 1, none⟩ = some (.string (⟨#[]⟩ : ByteArray)) := blk_cell BK118.out 1; have hcz20_2 : w18.cell? ⟨gb118, 2, none⟩ = some (.int .i64 0) := blk_cell BK118.out 2; have hcz20_3 : w18.cell? ⟨gb118, 3, none⟩ = some (.int .i64 0) := blk_cell BK118.out 3; have hfz20_0 := blk_frozen BK118.out 0; have hfz20_1 := blk_frozen BK118.out 1; have hfz20_2 := blk_frozen BK118.out 2; have hfz20_3 := blk_frozen BK118.out 3))
       go_ret
       exact ⟨by first | rfl | (simp [errW_none, errW_some] <;> rfl) | (simp [*, errW_none, errW_some] <;> rfl), by repeat (first | (with_reducible first | exact HB.out | apply below_alloc | apply pw_below_drewN | apply below_drew1 | refine below_set ?_ GE116.out | refine below_set ?_ GE118.out) | exact HB.out)⟩
      rw [if_neg c17] at H
      have c17b0 : decide (((rd_T30 l0_1 x34_2).f1) < 1) = false := decide_eq_false c17
      clear c17
      by_cases c21 : ((rd_T30 l0_1 x34_2).f1) > a1
      ·
       rw [if_pos c21] at H
       have c21b0 : decide (a1 < ((rd_T30 l0_1 x34_2).f1)) = true := decide_eq_true c21
       clear c21
       obtain rfl := Option.some.inj H
       have p117 : 0 ≤ (x34_2 : Int) := of_decide_eq_true (by first | (with_reducible assumption) | assumption)
       have q117 : x34_2 < (l0_1.length : Int) := of_decide_eq_true (by first | (with_reducible assumption) | assumption)
       obtain ⟨ad117, e117, hx117_0, hx117_1, hx117_2, hx117_3⟩ := at_T30 HR0_1.out x34_2 p117 q117
       cases e117
       replace hx117_0 := (HB.out.cell (World.block_lt_of_cell? w _ hx117_0)).trans hx117_0
       replace hx117_1 := (HB.out.cell (World.block_lt_of_cell? w _ hx117_1)).trans hx117_1
       replace hx117_2 := (HB.out.cell (World.block_lt_of_cell? w _ hx117_2)).trans hx117_2
       replace hx117_3 := (HB.out.cell (World.block_lt_of_cell? w _ hx117_3)).trans hx117_3
       replace p117 := eq_true p117
       replace q117 := eq_true q117
       go_wp2_with (first | ((with_reducible refine gate_dst (N := 7) rfl ?_); (try (refine gate_guard (by rfl) ?_; dsimp only)); refine box_event ?hg (N := 7) ?hd (cs := #[.string (⟨#[]⟩ : ByteArray), .string (⟨#[]⟩ : ByteArray), .int .i64 0, .int .i64 0]) (t := 30) ?hr ?_; (case hd => rfl); (case hg => rfl); (case hr => first | (go_simp; done) | (go_simp; rfl)); intro gb118 hg w22 hbox hb; have BK118 := Aside0.mk (hbox); have GW118 := geL hg HB.out; have GE118 := geL hg HB.out; have NB116_118 := neL hg BK116.out; have NB118_116 := neG hg BK116.out; replace HO_5 := Aside0.mk (Kd.R_below (pR HO_5.out) hb); replace BK116 := Aside0.mk (blk_below BK116.out hb); replace HB := Aside0.mk (below_step (pB HB.out) hb); clear hb hbox hg; have hnb23 := NB118_116.out; have hnc23 := NB116_118.out; have hcz24_0 : w22.cell? ⟨gb118, 0, none⟩ = some (.string (⟨#[]⟩ : ByteArray)) := blk_cell BK118.out 0; have hcz24_1 : w22.cell? ⟨gb118, 1, none⟩ = some (.string (⟨#[]⟩ : ByteArray)) := blk_cell BK118.out 1; have hcz24_2 : w22.cell? ⟨gb118, 2, none⟩ = some (.int .i64 0) := blk_cell BK118.out 2; have hcz24_3 : w22.cell? ⟨gb118, 3, none⟩ = some (.int .i64 0) := blk_cell BK118.out 3; have hfz24_0 := blk_frozen BK118.out 0; have hfz24_1 := blk_frozen BK118.out 1; have hfz24_2 := blk_frozen BK118.out 2; have hfz24_3 := blk_frozen BK118.out 3))
       go_ret
       exact ⟨by first | rfl | (simp [errW_none, errW_some] <;> rfl) | (simp [*, errW_none, errW_some] <;> rfl), by repeat (first | (with_reducible first | exact HB.out | apply below_alloc | apply pw_below_drewN | apply below_drew1 | refine below_set ?_ GE116.out | refine below_set ?_ GE118.out) | exact HB.out)⟩
      rw [if_neg c21] at H
      have c21b0 : decide (a1 < ((rd_T30 l0_1 x34_2).f1)) = false := decide_eq_false c21
      clear c21
      by_cases c25 : ((rd_T30 l0_1 x34_2).f2) < 1
      ·
       rw [if_pos c25] at H
       have c25b0 : decide (((rd_T30 l0_1 x34_2).f2) < 1) = true := decide_eq_true c25
       clear c25
       obtain rfl := Option.some.inj H
       have p117 : 0 ≤ (x34_2 : Int) := of_decide_eq_true (by first | (with_reducible assumption) | assumption)
       have q117 : x34_2 < (l0_1.length : Int) := of_decide_eq_true (by first | (with_reducible assumption) | assumption)
       obtain ⟨ad117, e117, hx117_0, hx117_1, hx117_2, hx117_3⟩ := at_T30 HR0_1.out x34_2 p117 q117
       cases e117
       replace hx117_0 := (HB.out.cell (World.block_lt_of_cell? w _ hx117_0)).trans hx117_0
       replace hx117_1 := (HB.out.cell (World.block_lt_of_cell? w _ hx117_1)).trans hx117_1
       replace hx117_2 := (HB.out.cell (World.block_lt_of_cell? w _ hx117_2)).trans hx117_2
       replace hx117_3 := (HB.out.cell (World.block_lt_of_cell? w _ hx117_3)).trans hx117_3
       replace p117 := eq_true p117
       replace q117 := eq_true q117
       go_wp2_with (first | ((with_reducible refine gate_dst (N := 7) rfl ?_); (try (refine gate_guard (by rfl) ?_; dsimp only)); refine box_event ?hg (N := 7) ?hd (cs := #[.string (⟨#[]⟩ : ByteArray), .string (⟨#[]⟩ : ByteArray), .int .i64 0, .int .i64 0]) (t := 30) ?hr ?_; (case hd => rfl); (case hg => rfl); (case hr => first | (go_simp; done) | (go_simp; rfl)); intro gb118 hg w26 hbox hb; have BK118 := Aside0.mk (hbox); have GW118 := geL hg HB.out; have GE118 := geL hg HB.out; have NB116_118 := neL hg BK116.out; have NB118_116 := neG hg BK116.out; replace HO_5 := Aside0.mk (Kd.R_below (pR HO_5.out) hb); replace BK116 := Aside0.mk (blk_below BK116.out hb); replace HB := Aside0.mk (below_step (pB HB.out) hb); clear hb hbox hg; have hnb27 := NB118_116.out; have hnc27 := NB116_118.out; have hcz28_0 : w26.cell? ⟨gb118, 0, none⟩ = some (.string (⟨#[]⟩ : ByteArray)) := blk_cell BK118.out 0; have hcz28_1 : w26.cell? ⟨gb118, 1, none⟩ = some (.string (⟨#[]⟩ : ByteArray)) := blk_cell BK118.out 1; have hcz28_2 : w26.cell? ⟨gb118, 2, none⟩ = some (.int .i64 0) := blk_cell BK118.out 2; have hcz28_3 : w26.cell? ⟨gb118, 3, none⟩ = some (.int .i64 0) := blk_cell BK118.out 3; have hfz28_0 := blk_frozen BK118.out 0; have hfz28_1 := blk_frozen BK118.out 1; have hfz28_2 := blk_frozen BK118.out 2; have hfz28_3 := blk_frozen BK118.out 3))
       go_ret
       exact ⟨by first | rfl | (simp [errW_none, errW_some] <;> rfl) | (simp [*, errW_none, errW_some] <;> rfl), by repeat (first | (with_reducible first | exact HB.out | apply below_alloc | apply pw_below_drewN | apply below_drew1 | refine below_set ?_ GE116.out | refine below_set ?_ GE118.out) | exact HB.out)⟩
      rw [if_neg c25] at H
      have c25b0 : decide (((rd_T30 l0_1 x34_2).f2) < 1) = false := decide_eq_false c25
      clear c25
      by_cases c29 : ((rd_T30 l0_1 x34_2).f2) > a0_0
      ·
       rw [if_pos c29] at H
       have c29b0 : decide (a0_0 < ((rd_T30 l0_1 x34_2).f2)) = true := decide_eq_true c29
       clear c29
       obtain rfl := Option.some.inj H
       have p117 : 0 ≤ (x34_2 : Int) := of_decide_eq_true (by first | (with_reducible assumption) | assumption)
       have q117 : x34_2 < (l0_1.length : Int) := of_decide_eq_true (by first | (with_reducible assumption) | assumption)
       obtain ⟨ad117, e117, hx117_0, hx117_1, hx117_2, hx117_3⟩ := at_T30 HR0_1.out x34_2 p117 q117
       cases e117
       replace hx117_0 := (HB.out.cell (World.block_lt_of_cell? w _ hx117_0)).trans hx117_0
       replace hx117_1 := (HB.out.cell (World.block_lt_of_cell? w _ hx117_1)).trans hx117_1
       replace hx117_2 := (HB.out.cell (World.block_lt_of_cell? w _ hx117_2)).trans hx117_2
       replace hx117_3 := (HB.out.cell (World.block_lt_of_cell? w _ hx117_3)).trans hx117_3
       replace p117 := eq_true p117
       replace q117 := eq_true q117
       go_wp2_with (first | ((with_reducible refine gate_dst (N := 7) rfl ?_); (try (refine gate_guard (by rfl) ?_; dsimp only)); refine box_event ?hg (N := 7) ?hd (cs := #[.string (⟨#[]⟩ : ByteArray), .string (⟨#[]⟩ : ByteArray), .int .i64 0, .int .i64 0]) (t := 30) ?hr ?_; (case hd => rfl); (case hg => rfl); (case hr => first | (go_simp; done) | (go_simp; rfl)); intro gb118 hg w30 hbox hb; have BK118 := Aside0.mk (hbox); have GW118 := geL hg HB.out; have GE118 := geL hg HB.out; have NB116_118 := neL hg BK116.out; have NB118_116 := neG hg BK116.out; replace HO_5 := Aside0.mk (Kd.R_below (pR HO_5.out) hb); replace BK116 := Aside0.mk (blk_below BK116.out hb); replace HB := Aside0.mk (below_step (pB HB.out) hb); clear hb hbox hg; have hnb31 := NB118_116.out; have hnc31 := NB116_118.out; have hcz32_0 : w30.cell? ⟨gb118, 0, none⟩ = some (.string (⟨#[]⟩ : ByteArray)) := blk_cell BK118.out 0; have hcz32_1 : w30.cell? ⟨gb118, 1, none⟩ = some (.string (⟨#[]⟩ : ByteArray)) := blk_cell BK118.out 1; have hcz32_2 : w30.cell? ⟨gb118, 2, none⟩ = some (.int .i64 0) := blk_cell BK118.out 2; have hcz32_3 : w30.cell? ⟨gb118, 3, none⟩ = some (.int .i64 0) := blk_cell BK118.out 3; have hfz32_0 := blk_frozen BK118.out 0; have hfz32_1 := blk_frozen BK118.out 1; have hfz32_2 := blk_frozen BK118.out 2; have hfz32_3 := blk_frozen BK118.out 3; have hcz33_0 : w30.cell? ⟨gb116, 0, none⟩ = some (.int .i64 a0_0) := blk_cell BK116.out 0; have hcz33_1 : w30.cell? ⟨gb116, 1, none⟩ = some (.slice (some ad117) l0_1.length c0_1) := blk_cell BK116.out 1; have hfz33_0 := blk_frozen BK116.out 0; have hfz33_1 := blk_frozen BK116.out 1))
       go_ret
       exact ⟨by first | rfl | (simp [errW_none, errW_some] <;> rfl) | (simp [*, errW_none, errW_some] <;> rfl), by repeat (first | (with_reducible first | exact HB.out | apply below_alloc | apply pw_below_drewN | apply below_drew1 | refine below_set ?_ GE116.out | refine below_set ?_ GE118.out) | exact HB.out)⟩
      rw [if_neg c29] at H
      have c29b0 : decide (a0_0 < ((rd_T30 l0_1 x34_2).f2)) = false := decide_eq_false c29
      clear c29
      by_cases c34 : x5_2.length < 4398046511104
      rotate_left
      · rw [if_neg c34] at H
        exact absurd H (by simp)
      rw [if_pos c34] at H
      have LMc34 := Aside0.mk c34
      clear c34
      obtain ⟨y119, hy119⟩ : ∃ y_ : List (S28), y_ = (x5_2 ++ [(⟨(rd_T30 l0_1 x34_2).f0.f0, (rd_T30 l0_1 x34_2).f0.f1⟩ : S28)]) := ⟨_, rfl⟩
      replace H : (atlas_May.l0 k2 a1 y119 l0_1 (l0_1.length : Int) (wrap64 (x34_2 + 1)) a0_0 l0_1) = some r := by first | (rw [hy119]; with_reducible exact H) | (have H2_ := (Option.bind_some _ _).symm.trans H; rw [hy119]; with_reducible exact H2_) | (have H2_ := (Option.bind_some _ _).symm.trans H; with_reducible exact H2_) | with_reducible exact H | (rw [hy119]; exact H) | exact H
      have Ny119 := Aside0.mk hy119
      clear hy119
      have H' := Aside0.mk H
      clear H
      have p117 : 0 ≤ (x34_2 : Int) := of_decide_eq_true (by first | (with_reducible assumption) | assumption)
      have q117 : x34_2 < (l0_1.length : Int) := of_decide_eq_true (by first | (with_reducible assumption) | assumption)
      obtain ⟨ad117, e117, hx117_0, hx117_1, hx117_2, hx117_3⟩ := at_T30 HR0_1.out x34_2 p117 q117
      cases e117
      replace hx117_0 := (HB.out.cell (World.block_lt_of_cell? w _ hx117_0)).trans hx117_0
      replace hx117_1 := (HB.out.cell (World.block_lt_of_cell? w _ hx117_1)).trans hx117_1
      replace hx117_2 := (HB.out.cell (World.block_lt_of_cell? w _ hx117_2)).trans hx117_2
      replace hx117_3 := (HB.out.cell (World.block_lt_of_cell? w _ hx117_3)).trans hx117_3
      replace p117 := eq_true p117
      replace q117 := eq_true q117
      go_wp2_with (first | ((with_reducible refine gate_dst (N := 7) rfl ?_); (try (refine gate_guard (by rfl) ?_; dsimp only)); refine box_event ?hg (N := 7) ?hd (cs := #[.string (⟨#[]⟩ : ByteArray), .string (⟨#[]⟩ : ByteArray), .int .i64 0, .int .i64 0]) (t := 30) ?hr ?_; (case hd => rfl); (case hg => rfl); (case hr => first | (go_simp; done) | (go_simp; rfl)); intro gb118 hg w35 hbox hb; have BK118 := Aside0.mk (hbox); have GW118 := Aside0.mk ((by rw [hg]; exact (below_size (by repeat (first | (with_reducible first | exact HB.out | apply below_alloc | apply pw_below_drewN | apply below_drew1 | refine below_set ?_ GE116.out) | exact HB.out))) : w.heap.size ≤ gb118)); have GE118 := Aside0.mk ((by rw [hg]; exact (below_size (by repeat (first | (with_reducible first | exact HB.out | apply below_alloc | apply pw_below_drewN | apply below_drew1 | refine below_set ?_ GE116.out) | exact HB.out))) : w.heap.size ≤ gb118)); have NB116_118 := neL hg BK116.out; have NB118_116 := neG hg BK116.out; replace HO_5 := Aside0.mk (Kd.R_below (pR HO_5.out) hb); replace BK116 := Aside0.mk (blk_below BK116.out hb); replace HB := Aside0.mk (below_step (by repeat (first | (with_reducible first | exact HB.out | apply below_alloc | apply pw_below_drewN | apply below_drew1 | refine below_set ?_ GE116.out) | exact HB.out)) hb); clear hb hbox hg; have hnb36 := NB118_116.out; have hnc36 := NB116_118.out; have hcz37_0 : w35.cell? ⟨gb118, 0, none⟩ = some (.string (⟨#[]⟩ : ByteArray)) := blk_cell BK118.out 0; have hcz37_1 : w35.cell? ⟨gb118, 1, none⟩ = some (.string (⟨#[]⟩ : ByteArray)) := blk_cell BK118.out 1; have hcz37_2 : w35.cell? ⟨gb118, 2, none⟩ = some (.int .i64 0) := blk_cell BK118.out 2; have hcz37_3 : w35.cell? ⟨gb118, 3, none⟩ = some (.int .i64 0) := blk_cell BK118.out 3; have hfz37_0 := blk_frozen BK118.out 0; have hfz37_1 := blk_frozen BK118.out 1; have hfz37_2 := blk_frozen BK118.out 2; have hfz37_3 := blk_frozen BK118.out 3; have hcz38_0 : w35.cell? ⟨gb116, 0, none⟩ = some (.int .i64 a0_0) := blk_cell BK116.out 0; have hcz38_1 : w35.cell? ⟨gb116, 1, none⟩ = some (.slice (some ad117) l0_1.length c0_1) := blk_cell BK116.out 1; have hfz38_0 := blk_frozen BK116.out 0; have hfz38_1 := blk_frozen BK116.out 1) | ((with_reducible refine gate_builtin (b := .append) (xs := #[.tmp 59, .tmp 62]) rfl ?_); (try (refine gate_guard (by rfl) ?_; dsimp only)); at_builtin; refine Kd.R_append k28 (w0 := w) w.heap.size rfl (.tmp 59) (.tmp 62) 83 28 (.agg #[(.string ⟨#[]⟩), (.string ⟨#[]⟩)]) 32 rfl Try.underlying83 info28 rfl (by decide) (by omega) u5 x5_2 (⟨(rd_T30 l0_1 x34_2).f0.f0, (rd_T30 l0_1 x34_2).f0.f1⟩ : S28) [.string ((rd_T30 l0_1 x34_2).f0.f0), .string ((rd_T30 l0_1 x34_2).f0.f1)] (fun _ => True) (fun _ => False) rfl (by first | (go_simp; done) | (go_simp; rfl)) ?aP (fun _ hk => hk.elim) ?aF ?aO ?aB ?aS ?aL ?_; (case aP => exact k28_mkM _ _ _ (⟨(rd_T30 l0_1 x34_2).f0.f0, (rd_T30 l0_1 x34_2).f0.f1⟩ : S28)); (case aB => exact (by repeat (first | (with_reducible first | exact HB.out | apply below_alloc | apply pw_below_drewN | apply below_drew1 | refine below_set ?_ GE116.out | refine below_set ?_ GE118.out) | exact HB.out))); (case aF => exact (fun _ _ => trivial)); (case aO => exact (by (with_reducible repeat (first | apply Kd.R_alloc | apply Kd.R_drewN | apply Kd.R_drew)); exact Kd.R_mono (Kd.R_far (p := ⟨gb118, 3, none⟩) (Kd.R_far (p := ⟨gb118, 2, none⟩) (Kd.R_far (p := ⟨gb118, 1, none⟩) (Kd.R_far (p := ⟨gb118, 0, none⟩) (Kd.R_types HO_5.out BK118.out (by decide)) (fun _ hk => hk.2) (.string ((rd_T30 l0_1 x34_2).f0.f0))) (fun _ hk => hk.2) (.string ((rd_T30 l0_1 x34_2).f0.f1))) (fun _ hk => hk.2) (.int .i64 ((rd_T30 l0_1 x34_2).f1))) (fun _ hk => hk.2) (.int .i64 ((rd_T30 l0_1 x34_2).f2))) (fun _ hk => trivial))); (case aS => exact (below_size (by repeat (first | (with_reducible first | exact HB.out | apply below_alloc | apply pw_below_drewN | apply below_drew1 | refine below_set ?_ GE116.out | refine below_set ?_ GE118.out) | exact HB.out)))); (case aL => have := LMc34.out; omega); intro v120 w39 ho hb hg hat; rw [← Ny119.out] at ho; have HO121 := Aside0.mk (ho); replace BK116 := Aside0.mk (blk_grown (g := gb116) (o := .cells #[.int .i64 a0_0, .slice (some ad117) l0_1.length c0_1] 35 (0, 0)) (by (with_reducible repeat (first | refine blk_drewN ?_ _ | refine blk_drew ?_ | refine blk_alloc ?_ _)); refine blk_far ?_ NB116_118.out _; (with_reducible repeat (first | refine blk_drewN ?_ _ | refine blk_drew ?_ | refine blk_alloc ?_ _)); refine blk_far ?_ NB116_118.out _; (with_reducible repeat (first | refine blk_drewN ?_ _ | refine blk_drew ?_ | refine blk_alloc ?_ _)); refine blk_far ?_ NB116_118.out _; (with_reducible repeat (first | refine blk_drewN ?_ _ | refine blk_drew ?_ | refine blk_alloc ?_ _)); refine blk_far ?_ NB116_118.out _; (with_reducible repeat (first | refine blk_drewN ?_ _ | refine blk_drew ?_ | refine blk_alloc ?_ _)); exact BK116.out) hg (Kd.R_ne HO_5.out BK116.out (by decide))); replace BK118 := Aside0.mk (blk_grown (g := gb118) (o := .cells #[.string ((rd_T30 l0_1 x34_2).f0.f0), .string ((rd_T30 l0_1 x34_2).f0.f1), .int .i64 ((rd_T30 l0_1 x34_2).f1), .int .i64 ((rd_T30 l0_1 x34_2).f2)] 30 (0, 0)) (by (with_reducible repeat (first | refine blk_drewN ?_ _ | refine blk_drew ?_ | refine blk_alloc ?_ _)); refine blk_put (cs := #[.string ((rd_T30 l0_1 x34_2).f0.f0), .string ((rd_T30 l0_1 x34_2).f0.f1), .int .i64 ((rd_T30 l0_1 x34_2).f1), .int .i64 0]) ?_ 3 _ rfl; (with_reducible repeat (first | refine blk_drewN ?_ _ | refine blk_drew ?_ | refine blk_alloc ?_ _)); refine blk_put (cs := #[.string ((rd_T30 l0_1 x34_2).f0.f0), .string ((rd_T30 l0_1 x34_2).f0.f1), .int .i64 0, .int .i64 0]) ?_ 2 _ rfl; (with_reducible repeat (first | refine blk_drewN ?_ _ | refine blk_drew ?_ | refine blk_alloc ?_ _)); refine blk_put (cs := #[.string ((rd_T30 l0_1 x34_2).f0.f0), .string (⟨#[]⟩ : ByteArray), .int .i64 0, .int .i64 0]) ?_ 1 _ rfl; (with_reducible repeat (first | refine blk_drewN ?_ _ | refine blk_drew ?_ | refine blk_alloc ?_ _)); refine blk_put (cs := #[.string (⟨#[]⟩ : ByteArray), .string (⟨#[]⟩ : ByteArray), .int .i64 0, .int .i64 0]) ?_ 0 _ rfl; (with_reducible repeat (first | refine blk_drewN ?_ _ | refine blk_drew ?_ | refine blk_alloc ?_ _)); exact BK118.out) hg (Kd.R_ne HO_5.out BK118.out (by decide))); replace HB := Aside0.mk (hb); clear HO_5; clear ho hb hg hat))
      go_roundg k2
      case measure => have := HJ2.out; have := HK2.out; omega
      case rel => exact ⟨(y119), (wrap64 (x34_2 + 1)), (by first | rfl | (simp; done) | (simp [*]; done)), H', ⟨by have := HJ2.out; have := HK2.out; omega⟩, ⟨by (with_reducible repeat (first | apply Kd.R_alloc | apply Kd.R_drewN | apply Kd.R_drew)); exact HO121.out⟩, ⟨by (with_reducible repeat (first | refine blk_drewN ?_ _ | refine blk_drew ?_ | refine blk_alloc ?_ _)); exact BK116.out⟩, ⟨by repeat (first | (with_reducible first | exact HB.out | apply below_alloc | apply pw_below_drewN | apply below_drew1 | refine below_set ?_ GE116.out | refine below_set ?_ GE118.out) | exact HB.out)⟩⟩
end Go.Proofs.Ytbajekndbamcmaa.PAtlasBack

/- The law of a grove without an order, and of an empty one, by hand. No condition. -/
import Derived.Test.YtbajekndbamcmaaWGroveA
import Derived.Test.YtbajekndbamcmaaWGrove4II
namespace Go.Proofs.YtbajekndbamcmaaW.GroveN
open Go.RowKit Go.Proofs.YtbajekndbamcmaaW.PrintWords Go.Proofs.YtbajekndbamcmaaW.PrintLast Go.Proofs.YtbajekndbamcmaaW.PrintMore Go.Proofs.YtbajekndbamcmaaW.PrintReg Go.Proofs.YtbajekndbamcmaaW.PrintTree Go.Proofs.YtbajekndbamcmaaW.GroveA
set_option linter.unusedVariables false
set_option linter.unusedSimpArgs false
abbrev None_ (g : Nat) (w : World) : Prop := w.heap[g]? = some (.cells #[.nilFunc, .pointer none, .int .i64 0] 100 (0, 0))
set_option maxHeartbeats 4000000 in
theorem new_nil (w : World) : Calls Try.prog 30 #[.nilFunc] w fun e w' => e = .returned (.pointer (some ⟨w.heap.size, 0, none⟩)) ∧ None_ w.heap.size w' ∧ Below w.heap.size w w' := by
  go_enter Try.func30, Try.ntmps30
  go_wp2
  go_ret
  exact ⟨rfl, blk_new w _, below_alloc (Below.refl _ _) _⟩
theorem run_equalIn_nilf (w : World) (d : Nat) (t : TypeId) {ps rs : Array TypeId} {vd : Bool} (h : Try.prog.underlying t = some (.func ps rs vd)) :
    (Op.equalIn (d + 1) t .nilFunc .nilFunc).run Try.prog w = .ok true w := by
  simp [Op.equalIn, run_underlying h]
theorem run_neq_nilf (w : World) (t : TypeId) {ps rs : Array TypeId} {vd : Bool} (h : Try.prog.underlying t = some (.func ps rs vd)) :
    (binOp .neq t .nilFunc .nilFunc).run Try.prog w = .ok (.bool false) w := by
  simp only [binOp]
  simp [Op.equal, Op.maxDepth, run_equalIn_nilf w 9999 t h]
set_option maxHeartbeats 4000000 in
theorem keeps_nil (g : Nat) (w : World) (h : None_ g w) : Calls Try.prog 68 #[.pointer (some ⟨g, 0, none⟩)] w fun e w' => e = .returned (.bool false) ∧ w' = w := by
  have c0 : w.cell? ⟨g, 0, none⟩ = some .nilFunc := (blk_cell h 0).trans rfl
  have hnq := fun wx => run_neq_ptr_nil (P := Try.prog) wx 63 100 ⟨g, 0, none⟩ Try.underlying63
  have hnf := fun wx => run_neq_nilf wx 65 Try.underlying65
  clear h
  go_enter Try.func68, Try.ntmps68
  go_wp2
  go_ret
  exact ⟨rfl, rfl⟩
set_option maxHeartbeats 4000000 in
theorem put_nil (g : Nat) (x y : Int) (w : World) (h : None_ g w) : Calls Try.prog 32 #[.pointer (some ⟨g, 0, none⟩), .int .i64 x, .int .i64 y] w fun e w' => e = .returned (.bool false) ∧ w' = w := by
  have H := Aside0.mk h
  clear h
  go_enter Try.func32, Try.ntmps32
  go_wp2_with fail
  refine (keeps_nil g w H.out).mono ?_
  rintro e w1 ⟨rfl, rfl⟩
  go_wp2
  go_ret
  exact ⟨rfl, rfl⟩
set_option maxHeartbeats 4000000 in
theorem get_nil (g : Nat) (x : Int) (w : World) (h : None_ g w) : Calls Try.prog 33 #[.pointer (some ⟨g, 0, none⟩), .int .i64 x] w fun e w' => e = .returned (.tuple #[.int .i64 0, .bool false]) ∧ w' = w := by
  have H := Aside0.mk h
  clear h
  go_enter Try.func33, Try.ntmps33
  go_wp2_with fail
  refine (keeps_nil g w H.out).mono ?_
  rintro e w1 ⟨rfl, rfl⟩
  go_wp2
  go_ret2
  exact ⟨rfl, rfl⟩
set_option maxHeartbeats 4000000 in
theorem least_empty (cmp : Int → Int → Int) (OK : Int → Prop) (g fc : Nat) (av : Nat → Prop) (w : World) (h : GroveII.Grv cmp OK g fc av [] w) : Calls Try.prog 35 #[.pointer (some ⟨g, 0, none⟩)] w fun e w' => e = .returned (.tuple #[.int .i64 0, .int .i64 0, .bool false]) ∧ w' = w := by
  obtain ⟨t, h0, hl, _, _, _, _, he, _⟩ := h
  cases t with
  | node => simp [Tr.list] at he
  | nil =>
    have c1 : w.cell? ⟨g, 1, none⟩ = some (.pointer none) := (blk_cell h0 1).trans rfl
    have hu := Try.underlying98
    have H := Aside0.mk h0
    clear h0 hl he
    go_enter Try.func35, Try.ntmps35
    go_wp2_with fail
    refine (GroveII.keeps_calls g fc _ _ w H.out).mono ?_
    rintro e w1 ⟨rfl, rfl⟩
    go_wp2
    go_ret3
    exact ⟨rfl, rfl⟩
theorem ent1 (args : Array Value) (W : World) : (callFunc 31 args).run Try.prog W = .ok (.enter 31 args) W := ent_of Try.func31 (by decide) rfl args W
theorem ent2 (args : Array Value) (W : World) : (callFunc 37 args).run Try.prog W = .ok (.enter 37 args) W := ent_of Try.func37 (by decide) rfl args W
set_option maxHeartbeats 4000000 in
theorem cmpN (x y : Int) (W : World) (hx : Few x) (hy : Few y) : Calls Try.prog 31 #[GroveII.kv x, GroveII.kv y] W fun e w' => e = .returned (.int .i64 (sub x y)) ∧ Below W.heap.size W w' := by
  have hw : IntKind.i64.wrap (x - y) = x - y := by rw [i64_w]; unfold Few at *; unfold wrap64; omega
  go_enter Try.func31, Try.ntmps31
  go_wp2
  go_ret
  exact ⟨rfl, Below.refl _ _⟩
set_option maxHeartbeats 4000000 in
set_option maxRecDepth 100000 in
theorem none_calls (w : World) : Calls Try.prog 8 #[] w fun e w' => e = .returned (.bool true) ∧ Below w.heap.size w w' := by
  go_enter Try.func8, Try.ntmps8
  go_wp2_with fail
  refine (awake_calls w).mono ?_
  rintro e w1 ⟨rfl, hb⟩
  have B1 := Aside0.mk hb
  clear hb
  go_wp2_with fail
  refine (new_nil w1).mono ?_
  rintro e w2 ⟨rfl, hn, hb⟩
  have N2 := Aside0.mk hn
  have B2 := Aside0.mk (below_step B1.out hb)
  have S2 := Aside0.mk (And.intro B1.out.size hb.size)
  clear hn hb
  go_wp2_with fail
  refine (GroveII.New_calls sub Few 31 (fun q => q < w2.heap.size) w2 (fun _ h => h)).mono ?_
  rintro e w3 ⟨rfl, hg, hb⟩
  have G3 := Aside0.mk hg
  have N3 := Aside0.mk (blk_below N2.out hb)
  have B3 := Aside0.mk (below_step B2.out hb)
  have S3 := Aside0.mk hb.size
  clear hg hb
  have hnq := fun wx => run_eql_ptr_nil (P := Try.prog) wx 63 100 ⟨w1.heap.size, 0, none⟩ Try.underlying63
  have hnq2 := fun wx => run_eql_ptr_nil (P := Try.prog) wx 63 100 ⟨w2.heap.size, 0, none⟩ Try.underlying63
  go_wp2_with fail
  refine (put_nil _ 1 2 w3 N3.out).mono ?_
  rintro e w4 ⟨rfl, rfl⟩
  clear hnq hnq2
  go_wp2_with fail
  refine (get_nil _ 1 w4 N3.out).mono ?_
  rintro e w5 ⟨rfl, rfl⟩
  go_wp2_with fail
  refine (GroveII.Take_calls 31 ent1 sub Few cmpN ordr_sub w2.heap.size (fun q => q < w2.heap.size) [] 5 (by unfold Few; omega) w5 G3.out (fun q h => Nat.lt_of_lt_of_le h S3.out) (by simp)).mono ?_
  rintro e w6 ⟨rfl, hg, ho⟩
  rw [show takeL sub (5 : Int) ([] : List (Int × Int)) = ([], none) from rfl] at hg ⊢
  have G6 := Aside0.mk hg
  have N6 := Aside0.mk (ho.blk N3.out (fun h => h (blk_lt N2.out)))
  have O6 : Aside0 (On (fun q => ¬ q < w.heap.size) w w6) := ⟨(On.of_below B3.out).trans (ho.mono (fun q h => by have := B2.out.size; omega))⟩
  clear hg ho
  go_wp2_with fail
  refine (least_empty _ _ _ _ _ w6 G6.out).mono ?_
  rintro e w7 ⟨rfl, rfl⟩
  go_wp2_with fail
  obtain ⟨w8, hw8⟩ : ∃ W, W = w7.alloc (Obj.cells #[.int .i64 0] 3) := ⟨_, rfl⟩
  have h8 : w8.heap[w7.heap.size]? = some (.cells #[.int .i64 0] 3 (0, 0)) := by rw [hw8]; exact blk_new _ _
  have hb8 : Below w7.heap.size w7 w8 := by rw [hw8]; exact below_alloc (Below.refl _ _) _
  rw [← hw8]
  have G8 := Aside0.mk ((G6.out.more (av' := fun q => q < w2.heap.size ∨ q = w7.heap.size) (fun q h => h.elim .inl (fun e => .inr (by omega)))).below hb8)
  have O8 := Aside0.mk (O6.out.trans (On.of_below hb8))
  have N8 := Aside0.mk (blk_below N6.out hb8)
  have H8 := Aside0.mk h8
  clear hw8 h8 hb8
  refine (GroveII.Walk_calls 31 ent1 sub Few cmpN ordr_sub w2.heap.size (fun q => q < w2.heap.size ∨ q = w7.heap.size) (fun q => q = w7.heap.size) (fun q h => .inr h) _ 0 (by unfold Few; omega) 37 ent2 #[.pointer (some ⟨w7.heap.size, 0, none⟩)]
    (fun (_ : Unit) W => W.heap[w7.heap.size]? = some (.cells #[.int .i64 0] 3 (0, 0))) (fun s k v => (s, true)) (fun k v => False) (fun _ => 0) 0 (fun s k v h => h.elim) (fun s W W' h hb => blk_below h hb)
    (fun s k v W hv hm h => hv.elim) (by simp) () (by simp) w8 G8.out H8.out).mono ?_
  rintro e w9 ⟨rfl, h9, hg9, ho9⟩
  have c9 : w9.cell? ⟨w7.heap.size, 0, none⟩ = some (.int .i64 0) := (blk_cell h9 0).trans rfl
  have G9 := Aside0.mk hg9
  have N9 := Aside0.mk (ho9.blk N8.out (fun e => by have := blk_lt N6.out; omega))
  have O9 := Aside0.mk (O8.out.trans (ho9.mono (fun q e => by have := O6.out.size; omega)))
  obtain ⟨pv, hcell⟩ := hg9.cell
  have HC := Aside0.mk hcell
  clear h9 hg9 ho9 hcell
  go_wp2_with fail
  refine (GroveII.Len_calls w1.heap.size _ _ _ w9 N9.out).mono ?_
  rintro e w10 ⟨rfl, rfl⟩
  go_wp2_with fail
  refine (GroveII.Len_calls w2.heap.size _ pv _ w10 HC.out).mono ?_
  rintro e w11 ⟨rfl, rfl⟩
  go_wp2_with fail
  refine (GroveII.Depth_calls sub Few w2.heap.size 31 _ _ w11 G9.out).mono ?_
  rintro e w12 ⟨d, rfl, ⟨_, _, _, hd⟩, hb12⟩
  obtain rfl := hd rfl
  have O12 := Aside0.mk (O9.out.trans (On.of_below hb12))
  clear hd hb12
  go_wp2
  go_ret
  exact ⟨rfl, O12.out.to_below (Nat.le_refl _) (fun k h => by omega)⟩
end Go.Proofs.YtbajekndbamcmaaW.GroveN

/- The grove's laws, by hand: what they all ask first (awake). No condition. -/
import Derived.Test.YtbajekndbamcmaaWGrove4IS
namespace Go.Proofs.YtbajekndbamcmaaW.GroveA
open Go.RowKit Go.Proofs.YtbajekndbamcmaaW.PrintWords Go.Proofs.YtbajekndbamcmaaW.PrintLast Go.Proofs.YtbajekndbamcmaaW.PrintMore Go.Proofs.YtbajekndbamcmaaW.PrintReg Go.Proofs.YtbajekndbamcmaaW.PrintTree
set_option linter.unusedVariables false
set_option linter.unusedSimpArgs false
/-- Numbers, rising. -/
def sub (a b : Int) : Int := a - b
def Few (a : Int) : Prop := -1000000 ≤ a ∧ a ≤ 1000000
theorem ordr_sub : Ordr sub Few := by
  constructor <;> intros <;> simp only [sub, Few] at * <;> omega
set_option maxHeartbeats 4000000 in
theorem cmp1 (x y : Int) (W : World) (hx : Few x) (hy : Few y) : Calls Try.prog 56 #[.int .i64 x, .int .i64 y] W fun e w' => e = .returned (.int .i64 (sub x y)) ∧ Below W.heap.size W w' := by
  have hw : IntKind.i64.wrap (x - y) = x - y := by rw [i64_w]; unfold Few at *; unfold wrap64; omega
  go_enter Try.func56, Try.ntmps56
  go_wp2
  go_ret
  exact ⟨rfl, Below.refl _ _⟩
theorem cmp1' (x y : Int) (W : World) (hx : Few x) (hy : Few y) : Calls Try.prog 56 #[GroveIS.kv x, GroveIS.kv y] W fun e w' => e = .returned (.int .i64 (sub x y)) ∧ Below W.heap.size W w' := cmp1 x y W hx hy
theorem ent_of {f : FuncId} {fn : Go.Func} {c : Code} (hf : Try.prog.funcs[f]? = some fn) (h1 : ¬ fn.name = "runtime.NumGoroutine") (hb : fn.body = some c) (args : Array Value) (W : World) : (callFunc f args).run Try.prog W = .ok (.enter f args) W := by
  simp [callFunc, hf, h1, hb, mark]
theorem ent1 (args : Array Value) (W : World) : (callFunc 56 args).run Try.prog W = .ok (.enter 56 args) W := ent_of Try.func56 (by decide) rfl args W
theorem ent2 (args : Array Value) (W : World) : (callFunc 59 args).run Try.prog W = .ok (.enter 59 args) W := ent_of Try.func59 (by decide) rfl args W
set_option maxHeartbeats 4000000 in
theorem see2 (gs : Nat) (av : Nat → Prop) (ha : av gs) (s : ByteArray) (k : Int) (v : ByteArray) (hs : s.size < 1000) (hv : v.size ≤ 1) (W : World) (h : W.heap[gs]? = some (.cells #[.string s] 9 (0, 0))) :
    Calls Try.prog 59 #[.int .i64 k, .string v, .pointer (some ⟨gs, 0, none⟩)] W fun e w' => e = .returned (.bool true) ∧ w'.heap[gs]? = some (.cells #[.string (s ++ v)] 9 (0, 0)) ∧ On av W w' := by
  have c0 : W.cell? ⟨gs, 0, none⟩ = some (.string s) := (blk_cell h 0).trans rfl
  have f0 := blk_frozen h 0
  have hb : (9223372036854775807 < s.size + v.size) = False := eq_false (by omega)
  have H := Aside0.mk h
  clear h hs hv
  go_enter Try.func59, Try.ntmps59
  go_wp2
  go_ret
  exact ⟨rfl, blk_put H.out 0 _ rfl, On.set (On.refl _ _) (p := ⟨gs, 0, none⟩) ha _⟩
set_option maxHeartbeats 4000000 in
set_option maxRecDepth 100000 in
theorem awake_calls (w : World) : Calls Try.prog 17 #[] w fun e w' => e = .returned (.bool true) ∧ Below w.heap.size w w' := by
  go_enter Try.func17, Try.ntmps17
  go_wp2_with fail
  go_at_call 55
  refine (GroveIS.New_calls sub Few 56 (fun q => q < w.heap.size) w (fun _ h => h)).mono ?_
  rintro e w1 ⟨rfl, hg, hb⟩
  have G := Aside0.mk hg
  have B := Aside0.mk hb
  clear hg hb
  have hnq := fun wx => run_eql_ptr_nil (P := Try.prog) wx 87 127 ⟨w.heap.size, 0, none⟩ Try.underlying87
  go_wp2_with fail
  refine (GroveIS.Put_calls 56 ent1 sub Few cmp1' ordr_sub w.heap.size (fun q => q < w.heap.size) [] 3 (⟨#[99]⟩ : ByteArray) (by unfold Few; omega) w1 G.out (fun q h => Nat.lt_of_lt_of_le h B.out.size) (by simp)).mono ?_
  rintro e w2 ⟨rfl, hg, ho⟩
  rw [show putL sub 3 (⟨#[99]⟩ : ByteArray) [] = ([(3, (⟨#[99]⟩ : ByteArray))], false) by simp [putL]] at hg ⊢
  have G2 := Aside0.mk hg
  have O2 := Aside0.mk ((On.of_below B.out).trans ho)
  clear hg ho hnq
  go_wp2_with fail
  refine (GroveIS.Put_calls 56 ent1 sub Few cmp1' ordr_sub w.heap.size (fun q => q < w.heap.size) _ 1 (⟨#[97]⟩ : ByteArray) (by unfold Few; omega) w2 G2.out (fun q h => Nat.lt_of_lt_of_le h O2.out.size) (by simp)).mono ?_
  rintro e w3 ⟨rfl, hg, ho⟩
  rw [show putL sub 1 (⟨#[97]⟩ : ByteArray) [(3, (⟨#[99]⟩ : ByteArray))] = ([(1, (⟨#[97]⟩ : ByteArray)), (3, (⟨#[99]⟩ : ByteArray))], false) by simp [putL, sub]] at hg ⊢
  have G3 := Aside0.mk hg
  have O3 := Aside0.mk (O2.out.trans ho)
  clear hg ho
  go_wp2_with fail
  refine (GroveIS.Put_calls 56 ent1 sub Few cmp1' ordr_sub w.heap.size (fun q => q < w.heap.size) _ 2 (⟨#[98]⟩ : ByteArray) (by unfold Few; omega) w3 G3.out (fun q h => Nat.lt_of_lt_of_le h O3.out.size) (by simp)).mono ?_
  rintro e w4 ⟨rfl, hg, ho⟩
  rw [show putL sub 2 (⟨#[98]⟩ : ByteArray) [(1, (⟨#[97]⟩ : ByteArray)), (3, (⟨#[99]⟩ : ByteArray))] = ([(1, (⟨#[97]⟩ : ByteArray)), (2, (⟨#[98]⟩ : ByteArray)), (3, (⟨#[99]⟩ : ByteArray))], false) by simp [putL, sub]] at hg ⊢
  have G4 := Aside0.mk hg
  have O4 := Aside0.mk (O3.out.trans ho)
  clear hg ho
  go_wp2_with fail
  obtain ⟨w5, hw5⟩ : ∃ W, W = w4.alloc (Obj.cells #[.string ⟨#[]⟩] 9) := ⟨_, rfl⟩
  have h5 : w5.heap[w4.heap.size]? = some (.cells #[.string ⟨#[]⟩] 9 (0, 0)) := by rw [hw5]; exact blk_new _ _
  have hb5 : Below w4.heap.size w4 w5 := by rw [hw5]; exact below_alloc (Below.refl _ _) _
  rw [← hw5]
  have G5 := Aside0.mk ((G4.out.more (av' := fun q => q < w.heap.size ∨ q = w4.heap.size) (fun q h => h.elim .inl (fun e => .inr (by omega)))).below hb5)
  have O5 := Aside0.mk (O4.out.trans (On.of_below hb5))
  have H5 := Aside0.mk h5
  clear hw5 h5 hb5
  refine (GroveIS.Walk_calls 56 ent1 sub Few cmp1' ordr_sub w.heap.size (fun q => q < w.heap.size ∨ q = w4.heap.size) (fun q => q = w4.heap.size) (fun q h => .inr h) _ 2 (by unfold Few; omega) 59 ent2 #[.pointer (some ⟨w4.heap.size, 0, none⟩)]
    (fun s W => W.heap[w4.heap.size]? = some (.cells #[.string s] 9 (0, 0))) (fun s k v => (s ++ v, true)) (fun k v => v.size ≤ 1) ByteArray.size 1000 (fun s k v h => by simp only [ByteArray.size_append]; omega) (fun s W W' h hb => blk_below h hb)
    (fun s k v W hv hm h => see2 _ (fun q => q = w4.heap.size) rfl s k v hm hv W h) (by decide) ⟨#[]⟩ (by decide) w5 G5.out H5.out).mono ?_
  rintro e w6 ⟨rfl, h6, hg6, ho6⟩
  rw [show goL (fun (s : ByteArray) (k : Int) (v : ByteArray) => (s ++ v, true)) (List.filter (fun p => !decide (sub p.1 2 < 0)) [(1, (⟨#[97]⟩ : ByteArray)), (2, (⟨#[98]⟩ : ByteArray)), (3, (⟨#[99]⟩ : ByteArray))]) ⟨#[]⟩ = ((⟨#[98, 99]⟩ : ByteArray), true) by kernel_rfl] at h6
  have c6 : w6.cell? ⟨w4.heap.size, 0, none⟩ = some (.string ⟨#[98, 99]⟩) := (blk_cell h6 0).trans rfl
  have G6 := Aside0.mk hg6
  have O6 := Aside0.mk (O5.out.trans (ho6.mono (fun q e => by have := O4.out.size; omega)))
  obtain ⟨pv, hcell⟩ := hg6.cell
  have HC := Aside0.mk hcell
  clear h6 hg6 ho6 hcell
  go_wp2_with fail
  refine (GroveIS.Len_calls w.heap.size _ pv _ w6 HC.out).mono ?_
  rintro e w7 ⟨rfl, rfl⟩
  go_wp2_with fail
  refine (GroveIS.Depth_calls sub Few w.heap.size 56 _ _ w7 G6.out).mono ?_
  rintro e w8 ⟨d, rfl, ⟨_, _, hd, _⟩, hb8⟩
  have hd1 : (1 ≤ d) = True := eq_true (hd (by simp))
  have O8 := Aside0.mk (O6.out.trans (On.of_below hb8))
  clear hd hb8
  go_wp2
  go_ret
  exact ⟨rfl, O8.out.to_below (Nat.le_refl _) (fun k h => by omega)⟩
end Go.Proofs.YtbajekndbamcmaaW.GroveA

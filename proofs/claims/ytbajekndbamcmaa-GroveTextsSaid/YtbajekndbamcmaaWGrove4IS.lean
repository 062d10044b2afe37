/- The grove's methods, by hand (gengrove.py), further part. No condition. -/
import Derived.Test.YtbajekndbamcmaaWGrove3IS
import Derived.Test.YtbajekndbamcmaaWTree3
namespace Go.Proofs.YtbajekndbamcmaaW.GroveIS
open Go.RowKit Go.Proofs.YtbajekndbamcmaaW.PrintWords Go.Proofs.YtbajekndbamcmaaW.PrintLast Go.Proofs.YtbajekndbamcmaaW.PrintMore Go.Proofs.YtbajekndbamcmaaW.PrintReg Go.Proofs.YtbajekndbamcmaaW.PrintTree
set_option linter.unusedVariables false
set_option linter.unusedSimpArgs false
/-- A grove that holds a sorted row; what is av is not of it. -/
def Grv (cmp : Int → Int → Int) (OK : Int → Prop) (gg fc : Nat) (av : Nat → Prop) (l : List (Int × ByteArray)) (w : World) : Prop := ∃ t : Tree,
  w.heap[gg]? = some (.cells #[.func (.func fc) #[] #[], .pointer t.at_, .int .i64 (l.length : Int)] 127 (0, 0)) ∧ Lies w t ∧ t.blocks.Nodup ∧ t.Fit ∧ t.Bal ∧ gg ∉ t.blocks ∧ t.list = l ∧ Srt cmp l ∧ (∀ p ∈ l, OK p.1) ∧ ∀ q, av q → q ≠ gg ∧ q ∉ t.blocks
theorem Grv.on {cmp : Int → Int → Int} {OK : Int → Prop} {gg fc : Nat} {av P : Nat → Prop} {l : List (Int × ByteArray)} {w w' : World} (h : Grv cmp OK gg fc av l w) (ho : On P w w') (hp : ∀ q, P q → av q) : Grv cmp OK gg fc av l w' := by
  obtain ⟨t, h0, hl, hn, hf, hb, hg, he, hs, hk, ha⟩ := h
  exact ⟨t, ho.blk h0 (fun p => (ha _ (hp _ p)).1 rfl), hl.on ho (fun g hg p => (ha _ (hp _ p)).2 hg), hn, hf, hb, hg, he, hs, hk, ha⟩
theorem Grv.below {cmp : Int → Int → Int} {OK : Int → Prop} {gg fc : Nat} {av : Nat → Prop} {l : List (Int × ByteArray)} {w w' : World} (h : Grv cmp OK gg fc av l w) (hb : Below w.heap.size w w') : Grv cmp OK gg fc av l w' :=
  h.on (P := fun _ => False) (On.of_below hb) (fun _ => False.elim)
/-- What is av may be said of other blocks: such as were not there. -/
theorem Grv.more {cmp : Int → Int → Int} {OK : Int → Prop} {gg fc : Nat} {av av' : Nat → Prop} {l : List (Int × ByteArray)} {w : World} (h : Grv cmp OK gg fc av l w) (ha : ∀ q, av' q → av q ∨ w.heap.size ≤ q) : Grv cmp OK gg fc av' l w := by
  obtain ⟨t, h0, hl, hn, hf, hb, hg, he, hs, hk, hv⟩ := h
  exact ⟨t, h0, hl, hn, hf, hb, hg, he, hs, hk, fun q hq => (ha q hq).elim (hv q) (fun e => ⟨fun e2 => absurd (blk_lt h0) (by omega), fun e2 => absurd (hl.lt q e2) (by omega)⟩)⟩
theorem Grv.cell {cmp : Int → Int → Int} {OK : Int → Prop} {gg fc : Nat} {av : Nat → Prop} {l : List (Int × ByteArray)} {w : World} (h : Grv cmp OK gg fc av l w) : ∃ p : Value, w.heap[gg]? = some (.cells #[.func (.func fc) #[] #[], p, .int .i64 (l.length : Int)] 127 (0, 0)) := h.elim fun _ h => ⟨_, h.1⟩
theorem run_neq_func_nil' (w : World) (t : TypeId) (fn : Fn) (fi ca : Array Value) {ps rs : Array TypeId} {vd : Bool} (h : Try.prog.underlying t = some (.func ps rs vd)) :
    (binOp .neq t (.func fn fi ca) .nilFunc).run Try.prog w = .ok (.bool true) w := by
  simp only [binOp]
  simp [Op.equal, Op.maxDepth, run_equalIn_func_nil w 9999 t fn fi ca h]
set_option maxHeartbeats 4000000 in
set_option maxRecDepth 100000 in
theorem New_calls (cmp : Int → Int → Int) (OK : Int → Prop) (fc : Nat) (av : Nat → Prop) (w : World) (ha : ∀ q, av q → q < w.heap.size) :
    Calls Try.prog 55 #[.func (.func fc) #[] #[]] w fun e w' => e = .returned (.pointer (some ⟨w.heap.size, 0, none⟩)) ∧ Grv cmp OK w.heap.size fc av [] w' ∧ Below w.heap.size w w' := by
  have H := Aside0.mk ha
  clear ha
  go_enter Try.func55, Try.ntmps55
  go_wp2
  go_ret
  refine ⟨rfl, ⟨.nil, blk_new w _, trivial, by simp [Tr.blocks], trivial, trivial, by simp [Tr.blocks], rfl, List.Pairwise.nil, fun p hp => by simp at hp, fun q hq => ⟨fun e => absurd (H.out q hq) (by omega), by simp [Tr.blocks]⟩⟩, below_alloc (Below.refl _ _) _⟩
set_option maxHeartbeats 4000000 in
set_option maxRecDepth 100000 in
theorem keeps_calls (gg fc : Nat) (p : Value) (n : Value) (w : World) (h : w.heap[gg]? = some (.cells #[.func (.func fc) #[] #[], p, n] 127 (0, 0))) :
    Calls Try.prog 84 #[.pointer (some ⟨gg, 0, none⟩)] w fun e w' => e = .returned (.bool true) ∧ w' = w := by
  have c0 : w.cell? ⟨gg, 0, none⟩ = some (.func (.func fc) #[] #[]) := (blk_cell h 0).trans rfl
  have hnq := fun wx => run_neq_ptr_nil (P := Try.prog) wx 87 127 ⟨gg, 0, none⟩ Try.underlying87
  have hnf := fun wx => run_neq_func_nil' wx 65 (.func fc) #[] #[] Try.underlying65
  clear h
  go_enter Try.func84, Try.ntmps84
  go_wp2
  go_ret
  exact ⟨rfl, rfl⟩
set_option maxHeartbeats 4000000 in
set_option maxRecDepth 100000 in
theorem Len_calls (gg : Nat) (f p n : Value) (w : World) (h : w.heap[gg]? = some (.cells #[f, p, n] 127 (0, 0))) :
    Calls Try.prog 60 #[.pointer (some ⟨gg, 0, none⟩)] w fun e w' => e = .returned n ∧ w' = w := by
  have c0 : w.cell? ⟨gg, 2, none⟩ = some n := (blk_cell h 2).trans rfl
  have hnq := fun wx => run_eql_ptr_nil (P := Try.prog) wx 87 127 ⟨gg, 0, none⟩ Try.underlying87
  clear h
  go_enter Try.func60, Try.ntmps60
  go_wp2
  go_ret
  exact ⟨rfl, rfl⟩
set_option maxHeartbeats 4000000 in
set_option maxRecDepth 100000 in
theorem Depth_calls (cmp : Int → Int → Int) (OK : Int → Prop) (gg fc : Nat) (av : Nat → Prop) (l : List (Int × ByteArray)) (w : World) (hg : Grv cmp OK gg fc av l w) :
    Calls Try.prog 61 #[.pointer (some ⟨gg, 0, none⟩)] w fun e w' => ∃ d : Int, e = .returned (.int .i64 d) ∧ (0 ≤ d ∧ (∀ L : Nat, l.length < 2 ^ L → d ≤ 2 + 4 * (L : Int)) ∧ (l ≠ [] → 1 ≤ d) ∧ (l = [] → d = 0)) ∧ Below w.heap.size w w' := by
  obtain ⟨t, h0, hl, hn, hf, hb, hg', he, hs, hk, ha⟩ := hg
  have c0 : w.cell? ⟨gg, 1, none⟩ = some (.pointer t.at_) := (blk_cell h0 1).trans rfl
  have hnq := fun wx => run_eql_ptr_nil (P := Try.prog) wx 87 127 ⟨gg, 0, none⟩ Try.underlying87
  have HD : Aside0 (0 ≤ t.deep ∧ (∀ L : Nat, l.length < 2 ^ L → t.deep ≤ 2 + 4 * (L : Int)) ∧ (l ≠ [] → 1 ≤ t.deep) ∧ (l = [] → t.deep = 0)) := ⟨by
    refine ⟨hf.bounds.1, fun L hL => Tr.bal_bound hf hb (by rw [Tr.count_len, he]; exact hL), fun hne => hf.bounds.2.2 (fun e => hne (by rw [← he, e]; rfl)), fun e => ?_⟩
    cases t with
    | nil => rfl
    | node => rw [← he] at e; simp [Tr.list] at e⟩
  have HT := Aside0.mk hl.top
  clear h0 hl hn hf hb hg' he hs hk ha
  go_enter Try.func61, Try.ntmps61
  go_wp2_with fail
  go_at_call 87
  refine (depth_calls t w HT.out).mono ?_
  rintro e w2 ⟨rfl, hb2⟩
  have HB := Aside0.mk hb2
  clear hb2
  go_wp2
  go_ret
  exact ⟨_, rfl, HD.out, HB.out⟩
set_option maxHeartbeats 4000000 in
set_option maxRecDepth 100000 in
theorem Put_calls (fc : Nat) (hfc : ∀ args W, (callFunc fc args).run Try.prog W = .ok (.enter fc args) W) (cmp : Int → Int → Int) (OK : Int → Prop) (HC : ∀ (x y : Int) (W : World), OK x → OK y → Calls Try.prog fc #[kv x, kv y] W fun e w' => e = .returned (.int .i64 (cmp x y)) ∧ Below W.heap.size W w') (O : Ordr cmp OK)
    (gg : Nat) (av : Nat → Prop) (l : List (Int × ByteArray)) (x : Int) (y : ByteArray) (hx : OK x) (w : World) (hg : Grv cmp OK gg fc av l w) (hav : ∀ q, av q → q < w.heap.size) (hc : l.length ≤ 1000000000) :
    Calls Try.prog 57 #[.pointer (some ⟨gg, 0, none⟩), kv x, vv y] w fun e w' => e = .returned (.bool (putL cmp x y l).2) ∧ Grv cmp OK gg fc av (putL cmp x y l).1 w' ∧ On (fun q => ¬ av q) w w' := by
  obtain ⟨t, h0, hl, hn, hf, hb, hg', he, hs, hk, ha⟩ := hg
  have c0 : w.cell? ⟨gg, 0, none⟩ = some (.func (.func fc) #[] #[]) := (blk_cell h0 0).trans rfl
  have c1 : w.cell? ⟨gg, 1, none⟩ = some (.pointer t.at_) := (blk_cell h0 1).trans rfl
  have P := Aside0.mk (And.intro h0 (And.intro hl (And.intro hn (And.intro hf (And.intro hb (And.intro hg' (And.intro he (And.intro hs (And.intro hk ha)))))))))
  have HV := Aside0.mk (And.intro hav hc)
  have C0 := Aside0.mk c0
  have HCC := Aside0.mk HC
  have OO := Aside0.mk O
  have HX := Aside0.mk hx
  have HW : Aside0 (IntKind.i64.wrap ((l.length : Int) + 1) = ((l.length + 1 : Nat) : Int)) := ⟨by rw [i64_w]; unfold wrap64; omega⟩
  clear h0 hl hn hf hb hg' hs hk ha hav hc c0 HC O hx
  go_enter Try.func57, Try.ntmps57
  go_wp2_with fail
  go_at_call 84
  refine (keeps_calls gg fc _ _ w P.out.1).mono ?_
  rintro e w1 ⟨rfl, rfl⟩
  go_wp2_with fail
  go_at_call 85
  refine (put_calls fc hfc cmp OK HCC.out gg x y HX.out t w1 C0.out P.out.2.2.2.2.2.1 (blk_lt P.out.1) P.out.2.1 P.out.2.2.1 P.out.2.2.2.1 (by have := HV.out.2; rw [Tr.count_len, he]; exact this) (by rw [he]; exact P.out.2.2.2.2.2.2.2.2.1)).mono ?_
  rintro e w2 ⟨n, hn, rfl, hl2, ho2⟩
  have hpl := Tr.put_list OO.out n x y HX.out t (by rw [he]; exact P.out.2.2.2.2.2.2.2.1) (by rw [he]; exact P.out.2.2.2.2.2.2.2.2.1)
  rw [he] at hpl
  rw [hpl.2]
  have h2 := ho2.blk P.out.1 P.out.2.2.2.2.2.1
  have gn : gg ∉ (Tr.put cmp n x y t).1.blocks := fun q => (Tr.put_mem cmp x y q).elim (fun e => absurd (blk_lt P.out.1) (by omega)) P.out.2.2.2.2.2.1
  have h3 : (w2.setCell ⟨gg, 1, none⟩ (.pointer (Tr.put cmp n x y t).1.at_)).heap[gg]? = some (.cells #[.func (.func fc) #[] #[], .pointer (Tr.put cmp n x y t).1.at_, .int .i64 (l.length : Int)] 127 (0, 0)) := blk_put h2 1 _ rfl
  have d1 : w2.cell? ⟨gg, 1, none⟩ = some (.pointer t.at_) := (blk_cell h2 1).trans rfl
  have f1 := blk_frozen h2 1
  have o3 : On (fun q => q = gg) w2 (w2.setCell ⟨gg, 1, none⟩ (.pointer (Tr.put cmp n x y t).1.at_)) := On.set (P := fun q => q = gg) (On.refl _ _) (p := ⟨gg, 1, none⟩) rfl _
  have hav' : ∀ q, av q → q ≠ gg ∧ q ∉ (Tr.put cmp n x y t).1.blocks := fun q hq => ⟨(P.out.2.2.2.2.2.2.2.2.2 q hq).1, fun e => (Tr.put_mem cmp x y e).elim (fun e => absurd (HV.out.1 q hq) (by omega)) (P.out.2.2.2.2.2.2.2.2.2 q hq).2⟩
  have hN : (Tr.put cmp n x y t).1.blocks.Nodup ∧ (Tr.put cmp n x y t).1.Fit ∧ (Tr.put cmp n x y t).1.Bal ∧ (Tr.put cmp n x y t).1.list = (putL cmp x y l).1 :=
    ⟨Tr.put_nodup cmp x y P.out.2.2.1 (fun q => absurd (P.out.2.1.lt _ q) (Nat.not_lt.mpr hn)), Tr.put_fit cmp n x y P.out.2.2.2.1, (Tr.put_bal n x y t P.out.2.2.2.1 P.out.2.2.2.2.1).1, hpl.1⟩
  have hS : Srt cmp (putL cmp x y l).1 ∧ ∀ p ∈ (putL cmp x y l).1, OK p.1 := ⟨putL_srt OO.out x y HX.out l P.out.2.2.2.2.2.2.2.1 P.out.2.2.2.2.2.2.2.2.1, fun p hp => (putL_mem x y l p hp).elim (fun e => by rw [e]; exact HX.out) (P.out.2.2.2.2.2.2.2.2.1 p)⟩
  have hO3 : On (fun q => ¬ av q) w1 (w2.setCell ⟨gg, 1, none⟩ (.pointer (Tr.put cmp n x y t).1.at_)) := (ho2.mono (fun q hq hv => (P.out.2.2.2.2.2.2.2.2.2 q hv).2 hq)).trans (o3.mono (fun q e hv => (P.out.2.2.2.2.2.2.2.2.2 q hv).1 e))
  have hl3 := hl2.on o3 (fun q hq e => gn (e ▸ hq))
  have hlen := putL_len (cmp := cmp) x y l
  have R := Aside0.mk (And.intro h3 (And.intro hl3 (And.intro hN (And.intro hav' (And.intro hS (And.intro hO3 (And.intro gn hlen)))))))
  clear hpl h2 h3 o3 hav' hN hS hO3 hl3 hlen hl2 ho2 gn hn
  cases hp : (putL cmp x y l).2 with
  | true =>
    have HP := Aside0.mk hp
    clear hp
    go_wp2
    go_ret
    refine ⟨congrArg (fun b => Ending.returned (.bool b)) HP.out.symm, ⟨(Tr.put cmp n x y t).1, ?_, R.out.2.1, R.out.2.2.1.1, R.out.2.2.1.2.1, R.out.2.2.1.2.2.1, R.out.2.2.2.2.2.2.1, R.out.2.2.1.2.2.2, R.out.2.2.2.2.1.1, R.out.2.2.2.2.1.2, R.out.2.2.2.1⟩, R.out.2.2.2.2.2.1⟩
    have := R.out.2.2.2.2.2.2.2
    rw [HP.out, if_pos rfl] at this
    rw [this]; exact R.out.1
  | false =>
    have HP := Aside0.mk hp
    clear hp
    have d2 : (w2.setCell ⟨gg, 1, none⟩ (.pointer (Tr.put cmp n x y t).1.at_)).cell? ⟨gg, 2, none⟩ = some (.int .i64 (l.length : Int)) := (blk_cell R.out.1 2).trans rfl
    have f2 := blk_frozen R.out.1 2
    have hw := HW.out
    have h4 : ((w2.setCell ⟨gg, 1, none⟩ (.pointer (Tr.put cmp n x y t).1.at_)).setCell ⟨gg, 2, none⟩ (.int .i64 ((l.length + 1 : Nat) : Int))).heap[gg]? = some (.cells #[.func (.func fc) #[] #[], .pointer (Tr.put cmp n x y t).1.at_, .int .i64 ((l.length + 1 : Nat) : Int)] 127 (0, 0)) := blk_put R.out.1 2 _ rfl
    have o4 : On (fun q => q = gg) (w2.setCell ⟨gg, 1, none⟩ (.pointer (Tr.put cmp n x y t).1.at_)) ((w2.setCell ⟨gg, 1, none⟩ (.pointer (Tr.put cmp n x y t).1.at_)).setCell ⟨gg, 2, none⟩ (.int .i64 ((l.length + 1 : Nat) : Int))) := On.set (P := fun q => q = gg) (On.refl _ _) (p := ⟨gg, 2, none⟩) rfl _
    have R4 := Aside0.mk (And.intro h4 o4)
    clear h4 o4
    go_wp2
    go_ret
    refine ⟨congrArg (fun b => Ending.returned (.bool b)) HP.out.symm, ⟨(Tr.put cmp n x y t).1, ?_, R.out.2.1.on R4.out.2 (fun q hq e => R.out.2.2.2.2.2.2.1 (e ▸ hq)), R.out.2.2.1.1, R.out.2.2.1.2.1, R.out.2.2.1.2.2.1, R.out.2.2.2.2.2.2.1, R.out.2.2.1.2.2.2, R.out.2.2.2.2.1.1, R.out.2.2.2.2.1.2, R.out.2.2.2.1⟩, R.out.2.2.2.2.2.1.trans (R4.out.2.mono (fun q e hv => (R.out.2.2.2.1 q hv).1 e))⟩
    have := R.out.2.2.2.2.2.2.2
    rw [HP.out, if_neg (by decide)] at this
    rw [this]; exact R4.out.1
set_option maxHeartbeats 4000000 in
set_option maxRecDepth 100000 in
theorem Walk_calls {σ : Type} (fc : Nat) (hfc : ∀ args W, (callFunc fc args).run Try.prog W = .ok (.enter fc args) W) (cmp : Int → Int → Int) (OK : Int → Prop) (HC : ∀ (x y : Int) (W : World), OK x → OK y → Calls Try.prog fc #[kv x, kv y] W fun e w' => e = .returned (.int .i64 (cmp x y)) ∧ Below W.heap.size W w') (O : Ordr cmp OK)
    (gg : Nat) (av wr : Nat → Prop) (hwr : ∀ q, wr q → av q) (l : List (Int × ByteArray)) (x : Int) (hx : OK x) (fs : Nat) (hfs : ∀ args W, (callFunc fs args).run Try.prog W = .ok (.enter fs args) W) (caps : Array Value) (I : σ → World → Prop) (step : σ → Int → ByteArray → σ × Bool) (KV : Int → ByteArray → Prop) (mu : σ → Nat) (M : Nat) (hmu : ∀ s k v, KV k v → mu (step s k v).1 ≤ mu s + 1)
    (IB : ∀ s W W', I s W → Below W.heap.size W W' → I s W')
    (HS : ∀ s k v W, KV k v → mu s < M → I s W → Calls Try.prog fs (#[kv k, vv v] ++ caps) W fun e w' => e = .returned (.bool (step s k v).2) ∧ I (step s k v).1 w' ∧ On wr W w')
    (hkv : ∀ p ∈ l, KV p.1 p.2) (s : σ) (hM : mu s + l.length ≤ M) (w : World) (hg : Grv cmp OK gg fc av l w) (hi : I s w) :
    Calls Try.prog 58 #[.pointer (some ⟨gg, 0, none⟩), kv x, .func (.func fs) #[] caps] w fun e w' => e = .returned (.tuple #[]) ∧ I (goL step (l.filter (fun p => !decide (cmp p.1 x < 0))) s).1 w' ∧ Grv cmp OK gg fc av l w' ∧ On wr w w' := by
  have G := Aside0.mk hg
  obtain ⟨t, h0, hl, hn, hf, hb, hg', he, hs, hk, ha⟩ := hg
  have c0 : w.cell? ⟨gg, 0, none⟩ = some (.func (.func fc) #[] #[]) := (blk_cell h0 0).trans rfl
  have c1 : w.cell? ⟨gg, 1, none⟩ = some (.pointer t.at_) := (blk_cell h0 1).trans rfl
  have WC := Aside0.mk (walk_calls fc hfc cmp OK HC gg x hx fs hfs caps (fun s W => I s W ∧ On wr w W) step KV mu M hmu
    (fun s W W' h hB => ⟨IB s W W' h.1 hB, h.2.trans (On.of_below hB)⟩)
    (fun s W h => (blk_cell (h.2.blk h0 (fun q => (ha _ (hwr _ q)).1 rfl)) 0).trans rfl)
    (fun s k v W hkv hm h => (HS s k v W hkv hm h.1).mono (fun e w' h' => ⟨h'.1, h'.2.1, h.2.trans h'.2.2⟩))
    t s w (fun s W h => hl.on h.2 (fun q hq p => (ha q (hwr q p)).2 hq)) (by rw [he]; exact fun p hp => ⟨hk p hp, hkv p hp⟩) (by rw [Tr.count_len, he]; exact hM) ⟨hi, On.refl _ _⟩)
  have WL := Aside0.mk (Tr.walk_list O step x hx t s (by rw [he]; exact hs) (by rw [he]; exact hk))
  have hnf := fun wx => run_neq_func_nil' wx 89 (.func fs) #[] caps Try.underlying89
  have H0 := Aside0.mk h0
  clear h0 hl hn hf hb hg' hs hk ha c0 HC O hx IB HS hkv hi hmu hM
  go_enter Try.func58, Try.ntmps58
  go_wp2_with fail
  go_at_call 84
  refine (keeps_calls gg fc _ _ w H0.out).mono ?_
  rintro e w1 ⟨rfl, rfl⟩
  go_wp2_with fail
  go_at_call 86
  refine WC.out.mono ?_
  rintro e w2 ⟨rfl, hi2⟩
  rw [WL.out, he] at hi2
  have H2 := Aside0.mk hi2
  clear hi2
  go_wp2
  go_end0
  exact ⟨rfl, H2.out.1, G.out.on H2.out.2 hwr, H2.out.2⟩
end Go.Proofs.YtbajekndbamcmaaW.GroveIS

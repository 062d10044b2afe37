/- The medium, by hand: what its methods do to its block. No condition. -/
import Derived.Test.YtkolcgofhjbebaaProg
import Derived.Test.YtkolcgofhjbebaaWFn
import Derived.Test.YtkolcgofhjbebaaWFrz
import Derived.WalkKit
import Derived.Deep.RegionHeld3
import Derived.StillTailTactics
import Derived.Test.YtkolcgofhjbebaaWReg
namespace Go.Proofs.YtkolcgofhjbebaaW.PrintMed
open Go.RowKit Go.Proofs.YtkolcgofhjbebaaW.PrintWords Go.Proofs.YtkolcgofhjbebaaW.PrintLast Go.Proofs.YtkolcgofhjbebaaW.PrintMore Go.Proofs.YtkolcgofhjbebaaW.PrintReg
set_option linter.unusedVariables false
set_option linter.unusedSimpArgs false

theorem info5 : (Try.prog.info? 5).map (fun i => (i.zero, i.size, i.bytes)) = some (some (.int .u8 0), 1, 1) := by kernel_rfl
/-- A medium (block g): its bytes, how many are synced; its blocks are among P. -/
def Med (base : Nat) (w : World) (g : Nat) (P : Nat → Prop) (bs : List Int) (s : Nat) : Prop :=
  ∃ v, w.heap[g]? = some (.cells #[v, .int .i64 s] 60 (0, 0)) ∧ base ≤ g ∧ P g ∧ Kd.R (Kd.int .u8) 5 w base (fun k => P k ∧ k ≠ g) v bs ∧ s ≤ bs.length
/-- Nothing but blocks of P is written. -/
structure Fr (base : Nat) (P : Nat → Prop) (w w' : World) : Prop where
  below : Below base w w'
  block : ∀ k, k < w.heap.size → ¬ P k → w'.heap[k]? = w.heap[k]?
theorem Fr.refl (base : Nat) (P : Nat → Prop) (w : World) : Fr base P w w := ⟨Below.refl _ _, fun _ _ _ => rfl⟩
theorem Fr.step {base : Nat} {P : Nat → Prop} {w w1 w2 : World} (h : Fr base P w w1) (k : Below w1.heap.size w1 w2) (hb : base ≤ w1.heap.size) : Fr base P w w2 :=
  ⟨below_then h.below hb k, fun i hi hp => (k.block i (Nat.lt_of_lt_of_le hi h.below.size)).trans (h.block i hi hp)⟩
theorem Fr.set {base : Nat} {P : Nat → Prop} {w w1 : World} (h : Fr base P w w1) {p : Addr} (hp : P p.block) (hb : base ≤ p.block) (u : Value) : Fr base P w (w1.setCell p u) :=
  ⟨h.below.setCell hb u, fun i hi hn => (Below.heap_setCell w1 p u i (fun e => hn (e ▸ hp))).trans (h.block i hi hn)⟩
theorem Fr.grown {base : Nat} {P : Nat → Prop} {w w1 w2 : World} (h : Fr base P w w1) {row : Option Nat} (k : w1.grownBy w2 row) (hb : base ≤ w1.heap.size) (hr : ∀ q, row = some q → base ≤ q ∧ P q) : Fr base P w w2 :=
  ⟨h.below.grown k hb (fun q e => (hr q e).1), fun i hi hn => (k.block i (Nat.lt_of_lt_of_le hi h.below.size) (fun e => hn (hr i e.symm).2)).trans (h.block i hi hn)⟩
/-- A thing of its own stands where other blocks are written. -/
theorem R_fr {α : Type} {d : Kd α} {e base b0 : Nat} {ok P : Nat → Prop} {w w1 : World} {v : Value} {xs : List α} (h : d.R e w base ok v xs) (f : Fr b0 P w w1) (hd : ∀ k, ok k → ¬ P k) : d.R e w1 base ok v xs :=
  Kd.R_step h (fun k hk hlt => f.block k hlt (hd k hk))
theorem Med.fr {base b0 : Nat} {w w1 : World} {g : Nat} {P Q : Nat → Prop} {bs : List Int} {s : Nat} (h : Med base w g P bs s) (f : Fr b0 Q w w1) (hd : ∀ k, P k → ¬ Q k) : Med base w1 g P bs s := by
  obtain ⟨v, h1, h2, h3, h4, h5⟩ := h
  exact ⟨v, (f.block g (blk_lt h1) (hd g h3)).trans h1, h2, h3, R_fr h4 f (fun k hk => hd k hk.1), h5⟩
theorem Med.below {base : Nat} {w w1 : World} {g : Nat} {P : Nat → Prop} {bs : List Int} {s : Nat} (h : Med base w g P bs s) (k : Below w.heap.size w w1) : Med base w1 g P bs s := by
  obtain ⟨v, h1, h2, h3, h4, h5⟩ := h
  exact ⟨v, blk_below h1 k, h2, h3, Kd.R_below h4 k, h5⟩
theorem Med.mono {base : Nat} {w : World} {g : Nat} {P Q : Nat → Prop} {bs : List Int} {s : Nat} (h : Med base w g P bs s) (hq : ∀ k, P k → Q k) : Med base w g Q bs s := by
  obtain ⟨v, h1, h2, h3, h4, h5⟩ := h
  exact ⟨v, h1, h2, hq _ h3, Kd.R_mono h4 (fun k hk => ⟨hq _ hk.1, hk.2⟩), h5⟩

set_option maxHeartbeats 2000000 in
theorem new_calls (w : World) : Calls Try.prog 12 #[] w fun e w' => ∃ g, e = .returned (.pointer (some ⟨g, 0, none⟩)) ∧ g = w.heap.size ∧ w'.heap[g]? = some (.cells #[.slice none 0 0, .int .i64 0] 60 (0, 0)) ∧ Below w.heap.size w w' := by
  go_enter Try.func12, Try.ntmps12
  go_wp2_with ((with_reducible refine gate_dst (N := 2) rfl ?_); refine box_event ?hg (N := 2) ?hd (cs := #[.slice none 0 0, .int .i64 0]) (t := 60) ?hr ?_; (case hd => rfl); (case hg => rfl); (case hr => first | (go_simp; done) | (go_simp; rfl)); intro g hg w2 hbox hb; have HX := Aside0.mk (And.intro hg (And.intro hbox hb)); clear hg hbox hb)
  go_ret
  exact ⟨_, rfl, HX.out⟩
theorem med_new {w w' : World} {base g : Nat} (hg : g = w.heap.size) (hb : base ≤ w.heap.size) (h : w'.heap[g]? = some (.cells #[.slice none 0 0, .int .i64 0] 60 (0, 0))) : Med base w' g (fun k => w.heap.size ≤ k) [] 0 :=
  ⟨_, h, by omega, by show w.heap.size ≤ g; omega, Kd.R_nil _ _ _ _ _, Nat.le_refl _⟩

set_option maxHeartbeats 2000000 in
theorem append_calls (base g : Nat) (A : Option Addr) (c : Nat) (bs l : List Int) (s : Nat) (P : Nat → Prop) (w : World) (HM : Med base w g P bs s) (HC : Kd.C (Kd.int .u8) w A l.length l) (hl : (bs.length + l.length) * 1 ≤ 140737488355328) (hb : base ≤ w.heap.size) (hP : ∀ k, P k → base ≤ k) :
    Calls Try.prog 13 #[.pointer (some ⟨g, 0, none⟩), .slice A l.length c] w fun e w' => e = .returned (.tuple #[]) ∧ Med base w' g (fun k => P k ∨ w.heap.size ≤ k) (bs ++ l) s ∧ Fr base P w w' := by
  obtain ⟨v, h1, h2, h3, h4, h5⟩ := HM
  obtain ⟨Av, cv, rfl, _, _⟩ := Kd.R_reads h4
  have hgl := blk_lt h1
  have hne : ∀ k, (Value.slice Av bs.length cv).ownBlock = some k → P k ∧ k ≠ g := h4.1
  have c0 : w.cell? ⟨g, 0, none⟩ = some (.slice Av bs.length cv) := (blk_cell h1 0).trans rfl
  have hn := fun wx => run_neq_ptr_nil (P := Try.prog) wx 24 60 ⟨g, 0, none⟩ Try.underlying24
  have HX := Aside0.mk (And.intro h1 (And.intro h2 (And.intro h3 (And.intro h4 (And.intro h5 (And.intro HC (And.intro hl (And.intro hb (And.intro hP (And.intro hgl hne))))))))))
  clear h1 h2 h3 h4 h5 HC hl hb hP hgl hne
  go_enter Try.func13, Try.ntmps13
  go_wp2_with ((with_reducible refine gate_builtin (b := .append) (xs := #[.tmp 10, .tmp 11]) rfl ?_); at_builtin; refine Kd.R_append_rows (Kd.int .u8) (Rr := Kd.K (Kd.int .u8) w) (w0 := w) base rfl (.tmp 10) (.tmp 11) 22 5 (.int .u8 0) 1 rfl Try.underlying22 info5 rfl (by decide) (by omega) (.slice Av bs.length cv) bs l _ _ _ (fun k => (P k ∨ w.heap.size ≤ k) ∧ k ≠ g) (fun _ => False) rfl rfl ?aO ?aR (fun _ _ h => h) (fun _ h => h.elim) ?aF ?aB ?aS ?aL ?_; (case aO => exact Kd.R_mono HX.out.2.2.2.1 (fun k hk => ⟨Or.inl hk.1, hk.2⟩)); (case aR => exact HX.out.2.2.2.2.2.1); (case aF => exact fun k hk => ⟨Or.inr hk, by have := HX.out.2.2.2.2.2.2.2.2.2.1; omega⟩); (case aB => exact Below.refl _ _); (case aS => exact HX.out.2.2.2.2.2.2.2.1); (case aL => exact HX.out.2.2.2.2.2.2.1); intro v1 w1 ho1 hb1 hg1 hat1; have hblk : w1.heap[g]? = some (.cells #[.slice Av bs.length cv, .int .i64 s] 60 (0, 0)) := (hg1.block g HX.out.2.2.2.2.2.2.2.2.2.1 (fun e => (HX.out.2.2.2.2.2.2.2.2.2.2 g e.symm).2 rfl)).trans HX.out.1; have hcz : w1.cell? ⟨g, 0, none⟩ = some (.slice Av bs.length cv) := (blk_cell hblk 0).trans rfl; have hfz := blk_frozen hblk 0; have HY := Aside0.mk (And.intro hblk (And.intro ho1 (And.intro hb1 (And.intro hg1 hat1)))); clear hb1 hg1 hat1 hblk c0; obtain ⟨A1, c1, rfl, _, _⟩ := Kd.R_reads ho1; clear ho1)
  refine bodyPost_end (results_none rfl _ _ _) rfl ?_
  obtain ⟨h1, h2, h3, h4, h5, HC, hl, hb, hP, hgl, hne⟩ := HX.out
  obtain ⟨hblk, ho1, hb1, hg1, _⟩ := HY.out
  rw [List.length_append] at ho1
  have hf : Fr base P w w1 := (Fr.refl base P w).grown hg1 hb (fun q e => ⟨hP q (hne q e).1, (hne q e).1⟩)
  exact ⟨rfl, ⟨_, blk_put hblk 0 _ rfl, h2, Or.inl h3, Kd.R_far ho1 (fun k hk => hk.2) _, by rw [List.length_append]; omega⟩, hf.set h3 h2 _⟩

set_option maxHeartbeats 2000000 in
theorem sync_calls (base g : Nat) (bs : List Int) (s : Nat) (P : Nat → Prop) (w : World) (HM : Med base w g P bs s) :
    Calls Try.prog 14 #[.pointer (some ⟨g, 0, none⟩)] w fun e w' => e = .returned (.tuple #[]) ∧ Med base w' g P bs bs.length ∧ Fr base P w w' := by
  obtain ⟨v, h1, h2, h3, h4, h5⟩ := HM
  obtain ⟨Av, cv, rfl, _, _⟩ := Kd.R_reads h4
  have hgl := blk_lt h1
  have c0 : w.cell? ⟨g, 0, none⟩ = some (.slice Av bs.length cv) := (blk_cell h1 0).trans rfl
  have c1 : w.cell? ⟨g, 1, none⟩ = some (.int .i64 s) := (blk_cell h1 1).trans rfl
  have f1 := blk_frozen h1 1
  have hn := fun wx => run_neq_ptr_nil (P := Try.prog) wx 24 60 ⟨g, 0, none⟩ Try.underlying24
  have HX := Aside0.mk (And.intro h1 (And.intro h2 (And.intro h3 (And.intro h4 h5))))
  clear h1 h2 h3 h4 h5
  go_enter Try.func14, Try.ntmps14
  go_wp2
  refine bodyPost_end (results_none rfl _ _ _) rfl ?_
  obtain ⟨h1, h2, h3, h4, h5⟩ := HX.out
  exact ⟨rfl, ⟨_, blk_put h1 1 _ rfl, h2, h3, Kd.R_far h4 (fun k hk => hk.2) _, Nat.le_refl _⟩, (Fr.refl base P w).set h3 h2 _⟩

set_option maxHeartbeats 2000000 in
theorem loose_calls (base g : Nat) (bs : List Int) (s : Nat) (P : Nat → Prop) (w : World) (HM : Med base w g P bs s) (hl : bs.length ≤ 140737488355328) :
    Calls Try.prog 15 #[.pointer (some ⟨g, 0, none⟩)] w fun e w' => e = .returned (.int .i64 ((bs.length - s : Nat) : Int)) ∧ Below w.heap.size w w' := by
  obtain ⟨v, h1, h2, h3, h4, h5⟩ := HM
  obtain ⟨Av, cv, rfl, _, _⟩ := Kd.R_reads h4
  have c0 : w.cell? ⟨g, 0, none⟩ = some (.slice Av bs.length cv) := (blk_cell h1 0).trans rfl
  have c1 : w.cell? ⟨g, 1, none⟩ = some (.int .i64 s) := (blk_cell h1 1).trans rfl
  have hn := fun wx => run_eql_ptr_nil (P := Try.prog) wx 24 60 ⟨g, 0, none⟩ Try.underlying24
  have HX := Aside0.mk (And.intro h5 hl)
  have HB := Aside0.mk (Below.refl w.heap.size w)
  clear h1 h2 h3 h4 h5 hl
  go_enter Try.func15, Try.ntmps15
  go_wp2
  go_region_held3 (fun w' => w'.cell? ⟨g, 0, none⟩ = some (.slice Av bs.length cv) ∧ w'.cell? ⟨g, 1, none⟩ = some (.int .i64 s) ∧ Aside0 (Below w.heap.size w w'))
    (((try dsimp only); (repeat' apply And.intro) <;> (first | go_keep | assumption | (go_split_ands; assumption) | (go_split_ands; apply aside_drew; assumption) | (go_split_ands; apply aside_step; assumption; assumption) | (go_split_ands; apply cell_keep; assumption; assumption))))
    (fail)
  go_wp2
  go_split_ands
  go_ret
  exact ⟨ret_int (by have := HX.out; rw [i64_w]; unfold wrap64; omega), Aside0.out (by assumption)⟩

set_option maxHeartbeats 2000000 in
theorem clone_calls (A0 : Option Addr) (c0 : Nat) (l0 : List Int) (w : World) (hr0 : Kd.C (Kd.int .u8) w A0 l0.length l0) (hl : l0.length * 1 ≤ 140737488355328) :
    Calls Try.prog 30 #[.slice A0 l0.length c0] w fun e w' => ∃ v, e = .returned v ∧ Kd.R (Kd.int .u8) 5 w' w.heap.size (fun _ => True) v l0 ∧ Below w.heap.size w w' := by
  have he := fun wx => run_eql_row_nil (P := Try.prog) wx 22 _ A0 l0.length c0 Try.underlying22
  cases A0 with
  | none =>
    obtain rfl := C_none hr0
    have he0 : ∀ wx, (binOp .eql 22 (.slice none 0 c0) (.slice none 0 0)).run Try.prog wx = .ok (.bool true) wx := fun wx => he wx
    clear hr0 hl he
    go_enter Try.func30, Try.ntmps30
    go_wp2
    go_ret
    exact ⟨_, rfl, Kd.R_nil _ _ _ _ _, Below.refl _ _⟩
  | some ad =>
    have HR := Aside0.mk hr0
    have HL := Aside0.mk hl
    clear hr0 hl
    go_enter Try.func30, Try.ntmps30
    go_wp2_with (first
      | ((with_reducible refine gate_dst (N := 5) rfl ?_); refine Kd.R_lit (Kd.int .u8) w.heap.size 5 ?hg (N := 5) ?hd (xs := ([] : List Int)) (inner := []) (ok := fun _ => True) (okp := fun _ => True) ?hr ?hp (fun _ hk => hk) trivial (Below.refl _ _) (Nat.le_refl _) (by simp) ?_; (case hd => rfl); (case hg => rfl); (case hr => first | (go_simp; done) | (go_simp; rfl)); (case hp => exact (Reps.none _ _)); intro v1 w1 ho1 hb1 hg_ hnew_; have HO := Aside0.mk ho1; have HB := Aside0.mk hb1; clear hg_ hnew_ ho1 hb1)
      | ((with_reducible refine gate_builtin (b := .append) (xs := #[.tmp 5, .tmp 6]) rfl ?_); at_builtin; refine Kd.R_append_rows (Kd.int .u8) (Rr := Kd.K (Kd.int .u8) w1) (w0 := w) w.heap.size rfl (.tmp 5) (.tmp 6) 22 5 (.int .u8 0) 1 rfl Try.underlying22 info5 rfl (by decide) (by omega) v1 [] l0 _ _ _ (fun _ => True) (fun _ => False) rfl rfl ?aO ?aR (fun _ _ h => h) (fun _ h => h.elim) (fun _ _ => trivial) ?aB ?aS ?aL ?_; (case aO => exact HO.out); (case aR => exact Kd.C_below HR.out HB.out); (case aB => exact HB.out); (case aS => exact below_size HB.out); (case aL => have := HL.out; simpa using this); intro v2 w2 ho2 hb2 hg2 hat2; have HO2 := Aside0.mk ho2; have HB2 := Aside0.mk hb2; clear ho2 hb2 hg2 hat2))
    go_ret
    exact ⟨_, rfl, HO2.out, HB2.out⟩
theorem clone_any (A0 : Option Addr) (c0 : Nat) (l0 : List Int) (w : World) (hr0 : Kd.C (Kd.int .u8) w A0 l0.length l0) (hl : l0.length * 1 ≤ 140737488355328) :
    Calls Try.prog 30 #[.slice A0 l0.length c0] w fun e w' => ∃ A c, e = .returned (.slice A l0.length c) ∧ Kd.R (Kd.int .u8) 5 w' w.heap.size (fun _ => True) (.slice A l0.length c) l0 ∧ Below w.heap.size w w' :=
  (clone_calls A0 c0 l0 w hr0 hl).mono (fun e w' h => by
    obtain ⟨v, rfl, h1, h2⟩ := h
    obtain ⟨A, c, rfl, _, _⟩ := Kd.R_reads h1
    exact ⟨A, c, rfl, h1, h2⟩)

set_option maxHeartbeats 2000000 in
theorem bytes_calls (base g : Nat) (bs : List Int) (s : Nat) (P : Nat → Prop) (w : World) (HM : Med base w g P bs s) (hl : bs.length * 1 ≤ 140737488355328) :
    Calls Try.prog 17 #[.pointer (some ⟨g, 0, none⟩)] w fun e w' => ∃ A c, e = .returned (.slice A bs.length c) ∧ Kd.R (Kd.int .u8) 5 w' w.heap.size (fun _ => True) (.slice A bs.length c) bs ∧ Below w.heap.size w w' := by
  obtain ⟨v, h1, h2, h3, h4, h5⟩ := HM
  obtain ⟨Av, cv, rfl, _, hc⟩ := Kd.R_reads h4
  have c0 : w.cell? ⟨g, 0, none⟩ = some (.slice Av bs.length cv) := (blk_cell h1 0).trans rfl
  have hn := fun wx => run_eql_ptr_nil (P := Try.prog) wx 24 60 ⟨g, 0, none⟩ Try.underlying24
  have F := Aside0.mk (clone_any Av cv bs w hc hl)
  clear h1 h2 h3 h4 h5 hc hl
  go_enter Try.func17, Try.ntmps17
  go_wp2_with (go_at_call 30; refine F.out.mono ?_; rintro z w1 ⟨A1, c1, rfl, hz⟩; have HZ := Aside0.mk hz; clear hz)
  go_ret
  exact ⟨_, _, rfl, HZ.out⟩

set_option maxHeartbeats 2000000 in
theorem swap_calls (base g : Nat) (A : Option Addr) (c : Nat) (bs l : List Int) (s : Nat) (P : Nat → Prop) (w : World) (HM : Med base w g P bs s) (HC : Kd.C (Kd.int .u8) w A l.length l) (hl : l.length * 1 ≤ 140737488355328) (hb : base ≤ w.heap.size) :
    Calls Try.prog 18 #[.pointer (some ⟨g, 0, none⟩), .slice A l.length c] w fun e w' => e = .returned (.tuple #[]) ∧ Med base w' g (fun k => P k ∨ w.heap.size ≤ k) l l.length ∧ Fr base P w w' := by
  obtain ⟨v, h1, h2, h3, h4, h5⟩ := HM
  obtain ⟨Av, cv, rfl, _, _⟩ := Kd.R_reads h4
  have hgl := blk_lt h1
  have hn := fun wx => run_neq_ptr_nil (P := Try.prog) wx 24 60 ⟨g, 0, none⟩ Try.underlying24
  have F := Aside0.mk (clone_any A c l w HC hl)
  have HX := Aside0.mk (And.intro h1 (And.intro h2 (And.intro h3 (And.intro hb hgl))))
  clear h1 h2 h3 h4 h5 HC hl hb hgl
  go_enter Try.func18, Try.ntmps18
  go_wp2_with (go_at_call 30; refine F.out.mono ?_; rintro z w1 ⟨A1, c1, rfl, hz⟩; have hblk : w1.heap[g]? = some (.cells #[.slice Av bs.length cv, .int .i64 s] 60 (0, 0)) := blk_below HX.out.1 hz.2; have c0 : w1.cell? ⟨g, 0, none⟩ = some (.slice Av bs.length cv) := (blk_cell hblk 0).trans rfl; have c1' : w1.cell? ⟨g, 1, none⟩ = some (.int .i64 s) := (blk_cell hblk 1).trans rfl; have f0 := blk_frozen hblk 0; have f1 := blk_frozen hblk 1; have HZ := Aside0.mk (And.intro hblk hz); clear hz hblk)
  refine bodyPost_end (results_none rfl _ _ _) rfl ?_
  obtain ⟨h1, h2, h3, hb, hgl⟩ := HX.out
  obtain ⟨hblk, hr, hbw⟩ := HZ.out
  have hf : Fr base P w w1 := (Fr.refl base P w).step hbw hb
  refine ⟨rfl, ⟨_, blk_put (blk_put hblk 0 _ rfl) 1 _ rfl, h2, Or.inl h3, ?_, Nat.le_refl _⟩, (hf.set h3 h2 _).set h3 h2 _⟩
  exact Kd.R_far (Kd.R_far (Kd.R_lower (Kd.R_mono (Kd.R_bound hr) (fun k hk => ⟨Or.inr hk.2.1, by have := hk.2.1; omega⟩)) hb) (fun k hk => hk.2) _) (fun k hk => hk.2) _

set_option maxHeartbeats 2000000 in
theorem copy_calls (base g : Nat) (bs : List Int) (s : Nat) (P : Nat → Prop) (w : World) (HM : Med base w g P bs s) (hl : bs.length * 1 ≤ 140737488355328) (hb : base ≤ w.heap.size) :
    Calls Try.prog 28 #[.pointer (some ⟨g, 0, none⟩)] w fun e w' => ∃ g', e = .returned (.pointer (some ⟨g', 0, none⟩)) ∧ Med base w' g' (fun k => w.heap.size ≤ k) bs s ∧ Below w.heap.size w w' := by
  obtain ⟨v, h1, h2, h3, h4, h5⟩ := HM
  obtain ⟨Av, cv, rfl, _, hc⟩ := Kd.R_reads h4
  have c0 : w.cell? ⟨g, 0, none⟩ = some (.slice Av bs.length cv) := (blk_cell h1 0).trans rfl
  have c1 : w.cell? ⟨g, 1, none⟩ = some (.int .i64 s) := (blk_cell h1 1).trans rfl
  have hn := fun wx => run_eql_ptr_nil (P := Try.prog) wx 24 60 ⟨g, 0, none⟩ Try.underlying24
  have F := Aside0.mk (fun wx (hw : Below w.heap.size w wx) => clone_any Av cv bs wx (Kd.C_below hc hw) hl)
  have HX := Aside0.mk (And.intro h5 hb)
  have HB := Aside0.mk (Below.refl w.heap.size w)
  clear h1 h2 h3 h4 h5 hc hl hb
  go_enter Try.func28, Try.ntmps28
  go_wp2
  go_region_held3 (fun w' => w'.cell? ⟨g, 0, none⟩ = some (.slice Av bs.length cv) ∧ w'.cell? ⟨g, 1, none⟩ = some (.int .i64 s) ∧ Aside0 (Below w.heap.size w w'))
    (((try dsimp only); (repeat' apply And.intro) <;> (first | go_keep | assumption | (go_split_ands; assumption) | (go_split_ands; apply aside_drew; assumption) | (go_split_ands; apply aside_step; assumption; assumption) | (go_split_ands; apply cell_keep; assumption; assumption) | (go_split_ands; exact ⟨below_alloc (Aside0.out (by assumption)) _⟩))))
    (first | (go_at_call 30; refine (F.out _ (by go_split_ands; exact Aside0.out (by assumption))).mono ?_; rintro z w1 ⟨A1, c1, rfl, hr, hb⟩; have HZ := Aside0.mk (And.intro hr hb); clear hr))
  go_wp2
  go_split_ands
  go_ret
  obtain ⟨hr, hbw⟩ := HZ.out
  obtain ⟨h5, hb0⟩ := HX.out
  have hsz : w.heap.size ≤ w1.heap.size := hbw.size
  refine ⟨w1.heap.size, rfl, ⟨_, heap_alloc_new w1 _, by omega, hsz, ?_, h5⟩, Aside0.out (by assumption)⟩
  exact Kd.R_alloc (Kd.R_lower (Kd.R_mono (Kd.R_bound hr) (fun k hk => ⟨hk.2.1, Nat.ne_of_lt hk.2.2.1⟩)) hb0) _

/-- How many bytes a crash leaves. -/
def kept (n s : Nat) (keep : Int) : Nat := s + (min (max keep 0) ((n - s : Nat) : Int)).toNat
set_option maxHeartbeats 2000000 in
theorem crash_calls (base g : Nat) (keep : Int) (bs : List Int) (s : Nat) (P : Nat → Prop) (w : World) (HM : Med base w g P bs s) (hl : bs.length ≤ 140737488355328) :
    Calls Try.prog 16 #[.pointer (some ⟨g, 0, none⟩), .int .i64 keep] w fun e w' => e = .returned (.tuple #[]) ∧ Med base w' g P (bs.take (kept bs.length s keep)) (kept bs.length s keep) ∧ Fr base P w w' := by
  have HM0 := Aside0.mk HM
  obtain ⟨v, h1, h2, h3, h4, h5⟩ := HM
  obtain ⟨Av, cv, rfl, hcap, _⟩ := Kd.R_reads h4
  obtain ⟨L, hL⟩ : ∃ L : Int, L = ((bs.length - s : Nat) : Int) := ⟨_, rfl⟩
  obtain ⟨S, hS⟩ : ∃ S : Int, S = (s : Int) := ⟨_, rfl⟩
  have c0 : w.cell? ⟨g, 0, none⟩ = some (.slice Av bs.length cv) := (blk_cell h1 0).trans rfl
  have c1 : w.cell? ⟨g, 1, none⟩ = some (.int .i64 S) := (blk_cell h1 1).trans (by rw [hS]; rfl)
  have hn := fun wx => run_neq_ptr_nil (P := Try.prog) wx 24 60 ⟨g, 0, none⟩ Try.underlying24
  have F := Aside0.mk (fun wx (hw : Below w.heap.size w wx) => by have := loose_calls base g bs s P wx (HM0.out.below hw) hl; rw [← hL] at this; exact this)
  obtain ⟨i0, hi0, _⟩ := Option.map_eq_some_iff.1 info5
  have hcut : ∀ J : Int, 0 ≤ J → J ≤ bs.length → ∀ W : World, (Instr.slice 22 (.slice Av bs.length cv) none (some (.int .i64 J)) none).run Try.prog W = .ok (.slice Av J.toNat cv) W :=
    fun J h0 hJ => cut_to (P := Try.prog) 22 5 .i64 Try.underlying22 hi0 Av bs.length cv J h0 hJ hcap
  have hK : ∀ J : Int, J = S + min (max keep 0) L → kept bs.length s keep = J.toNat := by
    intro J hJ; subst hJ hS; unfold kept; rw [← hL]; omega
  have hw : ∀ x : Int, 0 ≤ x → x ≤ L → IntKind.i64.wrap (S + x) = S + x ∧ S + x ≤ bs.length ∧ 0 ≤ S + x := by
    intro x hx hxl; rw [i64_w]; unfold wrap64; omega
  have hL0 : 0 ≤ L := by omega
  have fin : ∀ (J : Int) (w1 : World), 0 ≤ J → J ≤ bs.length → kept bs.length s keep = J.toNat → Below w.heap.size w w1 → Med base ((w1.setCell ⟨g, 0, none⟩ (.slice Av J.toNat cv)).setCell ⟨g, 1, none⟩ (.int .i64 (J.toNat : Int))) g P (bs.take (kept bs.length s keep)) (kept bs.length s keep) ∧ Fr base P w ((w1.setCell ⟨g, 0, none⟩ (.slice Av J.toNat cv)).setCell ⟨g, 1, none⟩ (.int .i64 (J.toNat : Int))) := by
    intro J w1 hJ0 hJ hk hb
    rw [hk]
    have hbase : base ≤ w.heap.size := Nat.le_of_lt (Nat.lt_of_le_of_lt h2 (blk_lt h1))
    have hf : Fr base P w w1 := (Fr.refl base P w).step hb hbase
    refine ⟨⟨_, blk_put (blk_put (blk_below h1 hb) 0 _ rfl) 1 _ rfl, h2, h3, ?_, by rw [List.length_take]; omega⟩, (hf.set h3 h2 _).set h3 h2 _⟩
    exact Kd.R_far (Kd.R_far (Kd.R_take (Kd.R_below h4 hb) (by omega)) (fun k hk => hk.2) _) (fun k hk => hk.2) _
  have HX := Aside0.mk (And.intro h1 fin)
  clear h2 h3 h4 h5 hl hcap HM0 fin h1
  have go : ∀ (x : Int), 0 ≤ x → x ≤ L → x = min (max keep 0) L → ((keep < 0 ∧ x = 0) ∨ (¬ keep < 0 ∧ L < keep ∧ x = L) ∨ (¬ keep < 0 ∧ ¬ L < keep ∧ x = keep)) →
      Calls Try.prog 16 #[.pointer (some ⟨g, 0, none⟩), .int .i64 keep] w fun e w' => e = .returned (.tuple #[]) ∧ Med base w' g P (bs.take (kept bs.length s keep)) (kept bs.length s keep) ∧ Fr base P w w' := by
    intro x hx0 hxL hx hc
    obtain ⟨hwx, hJ, hJ0⟩ := hw x hx0 hxL
    have hk := hK (S + x) (by rw [hx])
    obtain ⟨J, hJe⟩ : ∃ J : Int, J = S + x := ⟨_, rfl⟩
    rw [← hJe] at hwx hJ hJ0 hk
    have hcut := hcut J hJ0 hJ
    have HK := Aside0.mk (And.intro hJ0 (And.intro hJ hk))
    clear hK hw hJ hJ0 hk hx
    rcases hc with ⟨hk, rfl⟩ | ⟨hk, hm, rfl⟩ | ⟨hk, hm, rfl⟩
    · have hw2 : IntKind.i64.wrap S = J := by rw [show S = J by omega]; exact hwx
      have hl1 : (L < 0) = False := eq_false (by omega)
      clear hL hS hJe hxL hL0 hx0 hwx
      go_enter Try.func16, Try.ntmps16
      go_wp2
      refine wp_region_steps 19 rfl rfl (by kernel_rfl) (fun LL a wx => ∃ u : Nat → Value, Aside0 (a = { tmps := List.toArray (.pointer (some ⟨g, 0, none⟩) :: .int .i64 keep :: undef :: undef :: .pointer (some ⟨g, 0, none⟩) :: .bool true :: u 6 :: u 7 :: u 8 :: u 9 :: u 10 :: u 11 :: u 12 :: u 13 :: u 14 :: u 15 :: u 16 :: u 17 :: u 18 :: u 19 :: u 20 :: u 21 :: u 22 :: u 23 :: undef :: undef :: undef :: undef :: undef :: undef :: undef :: undef :: []), defers := [] } ∧ Aside0 (LL 0 = true → u 6 = .pointer (some ⟨g, 0, none⟩)) ∧ Aside0 (LL 1 = true → u 7 = .pointer (some ⟨g, 0, none⟩)) ∧ Aside0 (LL 2 = true → u 8 = .pointer (some ⟨g, 0, none⟩)) ∧ Aside0 (LL 3 = true → u 9 = .pointer (some ⟨g, 0, none⟩)) ∧ Aside0 (LL 4 = true → u 10 = .slice Av bs.length cv) ∧ Aside0 (LL 5 = true → u 11 = .pointer (some ⟨g, 0, none⟩)) ∧ Aside0 (LL 6 = true → u 12 = .pointer (some ⟨g, 0, none⟩)) ∧ Aside0 (LL 7 = true → u 13 = .pointer (some ⟨g, 1, none⟩)) ∧ Aside0 (LL 8 = true → u 14 = .int .i64 S) ∧ Aside0 (LL 9 = true → u 15 = .int .i64 keep) ∧ Aside0 (LL 10 = true → u 16 = .int .i64 0) ∧ Aside0 (LL 11 = true → u 17 = .pointer (some ⟨g, 0, none⟩)) ∧ Aside0 (LL 12 = true → u 18 = .int .i64 L) ∧ Aside0 (LL 13 = true → u 19 = .int .i64 0) ∧ Aside0 (LL 14 = true → u 20 = .int .i64 J) ∧ Aside0 (LL 15 = true → u 21 = .slice Av J.toNat cv) ∧ Aside0 (LL 16 = true → u 22 = .pointer (some ⟨g, 0, none⟩)) ∧ Aside0 (LL 17 = true → u 23 = .pointer (some ⟨g, 0, none⟩)) ∧ Aside0 (LL 18 = false → Below w.heap.size w wx) ∧ Aside0 (LL 18 = true → ∃ w1, Below w.heap.size w w1 ∧ wx = w1.setCell ⟨g, 0, none⟩ (.slice Av J.toNat cv)) ∧ Aside0 (LL 18 = true → LL 4 = true ∧ LL 8 = true ∧ LL 12 = true))) ?_ ?_ ?_
      · exact ⟨fun _ => undef, ⟨rfl, ⟨fun h => absurd h (by decide)⟩, ⟨fun h => absurd h (by decide)⟩, ⟨fun h => absurd h (by decide)⟩, ⟨fun h => absurd h (by decide)⟩, ⟨fun h => absurd h (by decide)⟩, ⟨fun h => absurd h (by decide)⟩, ⟨fun h => absurd h (by decide)⟩, ⟨fun h => absurd h (by decide)⟩, ⟨fun h => absurd h (by decide)⟩, ⟨fun h => absurd h (by decide)⟩, ⟨fun h => absurd h (by decide)⟩, ⟨fun h => absurd h (by decide)⟩, ⟨fun h => absurd h (by decide)⟩, ⟨fun h => absurd h (by decide)⟩, ⟨fun h => absurd h (by decide)⟩, ⟨fun h => absurd h (by decide)⟩, ⟨fun h => absurd h (by decide)⟩, ⟨fun h => absurd h (by decide)⟩, ⟨fun _ => below_drew (Below.refl _ _)⟩, ⟨fun h => absurd h (by decide)⟩, ⟨fun h => absurd h (by decide)⟩⟩⟩
      · refine Steps.cons ?_ (Steps.cons ?_ (Steps.cons ?_ (Steps.cons ?_ (Steps.cons ?_ (Steps.cons ?_ (Steps.cons ?_ (Steps.cons ?_ (Steps.cons ?_ (Steps.cons ?_ (Steps.cons ?_ (Steps.cons ?_ (Steps.cons ?_ (Steps.cons ?_ (Steps.cons ?_ (Steps.cons ?_ (Steps.cons ?_ (Steps.cons ?_ (Steps.cons ?_ (Steps.nil)))))))))))))))))))
        · intro LL a wx hI hLk hd K' hK
          obtain ⟨u, hI⟩ := hI
          obtain rfl := hI.out.1
          rw [if_pos (by rfl)]
          go_simp
          exact hK.out _ _ ⟨(put1 u 6 (.pointer (some ⟨g, 0, none⟩))), ⟨rfl, ⟨fun _ => rfl⟩, hI.out.2.2.1, hI.out.2.2.2.1, hI.out.2.2.2.2.1, hI.out.2.2.2.2.2.1, hI.out.2.2.2.2.2.2.1, hI.out.2.2.2.2.2.2.2.1, hI.out.2.2.2.2.2.2.2.2.1, hI.out.2.2.2.2.2.2.2.2.2.1, hI.out.2.2.2.2.2.2.2.2.2.2.1, hI.out.2.2.2.2.2.2.2.2.2.2.2.1, hI.out.2.2.2.2.2.2.2.2.2.2.2.2.1, hI.out.2.2.2.2.2.2.2.2.2.2.2.2.2.1, hI.out.2.2.2.2.2.2.2.2.2.2.2.2.2.2.1, hI.out.2.2.2.2.2.2.2.2.2.2.2.2.2.2.2.1, hI.out.2.2.2.2.2.2.2.2.2.2.2.2.2.2.2.2.1, hI.out.2.2.2.2.2.2.2.2.2.2.2.2.2.2.2.2.2.1, hI.out.2.2.2.2.2.2.2.2.2.2.2.2.2.2.2.2.2.2.1, hI.out.2.2.2.2.2.2.2.2.2.2.2.2.2.2.2.2.2.2.2.1, hI.out.2.2.2.2.2.2.2.2.2.2.2.2.2.2.2.2.2.2.2.2.1, hI.out.2.2.2.2.2.2.2.2.2.2.2.2.2.2.2.2.2.2.2.2.2⟩⟩
        · intro LL a wx hI hLk hd K' hK
          obtain ⟨u, hI⟩ := hI
          obtain rfl := hI.out.1
          rw [if_pos (by rfl)]
          go_simp
          exact hK.out _ _ ⟨(put1 u 7 (.pointer (some ⟨g, 0, none⟩))), ⟨rfl, hI.out.2.1, ⟨fun _ => rfl⟩, hI.out.2.2.2.1, hI.out.2.2.2.2.1, hI.out.2.2.2.2.2.1, hI.out.2.2.2.2.2.2.1, hI.out.2.2.2.2.2.2.2.1, hI.out.2.2.2.2.2.2.2.2.1, hI.out.2.2.2.2.2.2.2.2.2.1, hI.out.2.2.2.2.2.2.2.2.2.2.1, hI.out.2.2.2.2.2.2.2.2.2.2.2.1, hI.out.2.2.2.2.2.2.2.2.2.2.2.2.1, hI.out.2.2.2.2.2.2.2.2.2.2.2.2.2.1, hI.out.2.2.2.2.2.2.2.2.2.2.2.2.2.2.1, hI.out.2.2.2.2.2.2.2.2.2.2.2.2.2.2.2.1, hI.out.2.2.2.2.2.2.2.2.2.2.2.2.2.2.2.2.1, hI.out.2.2.2.2.2.2.2.2.2.2.2.2.2.2.2.2.2.1, hI.out.2.2.2.2.2.2.2.2.2.2.2.2.2.2.2.2.2.2.1, hI.out.2.2.2.2.2.2.2.2.2.2.2.2.2.2.2.2.2.2.2.1, hI.out.2.2.2.2.2.2.2.2.2.2.2.2.2.2.2.2.2.2.2.2.1, hI.out.2.2.2.2.2.2.2.2.2.2.2.2.2.2.2.2.2.2.2.2.2⟩⟩
        · intro LL a wx hI hLk hd K' hK
          obtain ⟨u, hI⟩ := hI
          obtain rfl := hI.out.1
          have e1 := hI.out.2.2.1.out (hd 1 rfl)
          rw [if_pos (by rfl)]
          go_simp
          exact hK.out _ _ ⟨(put1 (put1 u 7 (.pointer (some ⟨g, 0, none⟩))) 8 (.pointer (some ⟨g, 0, none⟩))), ⟨rfl, hI.out.2.1, ⟨fun _ => rfl⟩, ⟨fun _ => rfl⟩, hI.out.2.2.2.2.1, hI.out.2.2.2.2.2.1, hI.out.2.2.2.2.2.2.1, hI.out.2.2.2.2.2.2.2.1, hI.out.2.2.2.2.2.2.2.2.1, hI.out.2.2.2.2.2.2.2.2.2.1, hI.out.2.2.2.2.2.2.2.2.2.2.1, hI.out.2.2.2.2.2.2.2.2.2.2.2.1, hI.out.2.2.2.2.2.2.2.2.2.2.2.2.1, hI.out.2.2.2.2.2.2.2.2.2.2.2.2.2.1, hI.out.2.2.2.2.2.2.2.2.2.2.2.2.2.2.1, hI.out.2.2.2.2.2.2.2.2.2.2.2.2.2.2.2.1, hI.out.2.2.2.2.2.2.2.2.2.2.2.2.2.2.2.2.1, hI.out.2.2.2.2.2.2.2.2.2.2.2.2.2.2.2.2.2.1, hI.out.2.2.2.2.2.2.2.2.2.2.2.2.2.2.2.2.2.2.1, hI.out.2.2.2.2.2.2.2.2.2.2.2.2.2.2.2.2.2.2.2.1, hI.out.2.2.2.2.2.2.2.2.2.2.2.2.2.2.2.2.2.2.2.2.1, hI.out.2.2.2.2.2.2.2.2.2.2.2.2.2.2.2.2.2.2.2.2.2⟩⟩
        · intro LL a wx hI hLk hd K' hK
          obtain ⟨u, hI⟩ := hI
          obtain rfl := hI.out.1
          have e2 := hI.out.2.2.2.1.out (hd 2 rfl)
          rw [if_pos (by rfl)]
          go_simp
          exact hK.out _ _ ⟨(put1 (put1 u 8 (.pointer (some ⟨g, 0, none⟩))) 9 (.pointer (some ⟨g, 0, none⟩))), ⟨rfl, hI.out.2.1, hI.out.2.2.1, ⟨fun _ => rfl⟩, ⟨fun _ => rfl⟩, hI.out.2.2.2.2.2.1, hI.out.2.2.2.2.2.2.1, hI.out.2.2.2.2.2.2.2.1, hI.out.2.2.2.2.2.2.2.2.1, hI.out.2.2.2.2.2.2.2.2.2.1, hI.out.2.2.2.2.2.2.2.2.2.2.1, hI.out.2.2.2.2.2.2.2.2.2.2.2.1, hI.out.2.2.2.2.2.2.2.2.2.2.2.2.1, hI.out.2.2.2.2.2.2.2.2.2.2.2.2.2.1, hI.out.2.2.2.2.2.2.2.2.2.2.2.2.2.2.1, hI.out.2.2.2.2.2.2.2.2.2.2.2.2.2.2.2.1, hI.out.2.2.2.2.2.2.2.2.2.2.2.2.2.2.2.2.1, hI.out.2.2.2.2.2.2.2.2.2.2.2.2.2.2.2.2.2.1, hI.out.2.2.2.2.2.2.2.2.2.2.2.2.2.2.2.2.2.2.1, hI.out.2.2.2.2.2.2.2.2.2.2.2.2.2.2.2.2.2.2.2.1, hI.out.2.2.2.2.2.2.2.2.2.2.2.2.2.2.2.2.2.2.2.2.1, hI.out.2.2.2.2.2.2.2.2.2.2.2.2.2.2.2.2.2.2.2.2.2⟩⟩
        · intro LL a wx hI hLk hd K' hK
          obtain ⟨u, hI⟩ := hI
          obtain rfl := hI.out.1
          have e3 := hI.out.2.2.2.2.1.out (hd 3 rfl)
          have hb := hI.out.2.2.2.2.2.2.2.2.2.2.2.2.2.2.2.2.2.2.2.1
          have hz := hI.out.2.2.2.2.2.2.2.2.2.2.2.2.2.2.2.2.2.2.2.2.2
          have hb0 := hb.out (by cases h : LL 18 with | false => rfl | true => exact absurd ((hz.out h).1) (by rw [hLk]; decide))
          have d0 : wx.cell? ⟨g, 0, none⟩ = some (.slice Av bs.length cv) := cell_keep hb0 c0
          have d1 : wx.cell? ⟨g, 1, none⟩ = some (.int .i64 S) := cell_keep hb0 c1
          clear hb0
          rw [if_pos (by rfl)]
          go_simp
          exact hK.out _ _ ⟨(put1 (put1 u 9 (.pointer (some ⟨g, 0, none⟩))) 10 (.slice Av bs.length cv)), ⟨rfl, hI.out.2.1, hI.out.2.2.1, hI.out.2.2.2.1, ⟨fun _ => rfl⟩, ⟨fun _ => rfl⟩, hI.out.2.2.2.2.2.2.1, hI.out.2.2.2.2.2.2.2.1, hI.out.2.2.2.2.2.2.2.2.1, hI.out.2.2.2.2.2.2.2.2.2.1, hI.out.2.2.2.2.2.2.2.2.2.2.1, hI.out.2.2.2.2.2.2.2.2.2.2.2.1, hI.out.2.2.2.2.2.2.2.2.2.2.2.2.1, hI.out.2.2.2.2.2.2.2.2.2.2.2.2.2.1, hI.out.2.2.2.2.2.2.2.2.2.2.2.2.2.2.1, hI.out.2.2.2.2.2.2.2.2.2.2.2.2.2.2.2.1, hI.out.2.2.2.2.2.2.2.2.2.2.2.2.2.2.2.2.1, hI.out.2.2.2.2.2.2.2.2.2.2.2.2.2.2.2.2.2.1, hI.out.2.2.2.2.2.2.2.2.2.2.2.2.2.2.2.2.2.2.1, hI.out.2.2.2.2.2.2.2.2.2.2.2.2.2.2.2.2.2.2.2.1, hI.out.2.2.2.2.2.2.2.2.2.2.2.2.2.2.2.2.2.2.2.2.1, ⟨fun h => ⟨upd_old (hz.out h).1, upd_old (hz.out h).2.1, upd_old (hz.out h).2.2⟩⟩⟩⟩
        · intro LL a wx hI hLk hd K' hK
          obtain ⟨u, hI⟩ := hI
          obtain rfl := hI.out.1
          rw [if_pos (by rfl)]
          go_simp
          exact hK.out _ _ ⟨(put1 u 11 (.pointer (some ⟨g, 0, none⟩))), ⟨rfl, hI.out.2.1, hI.out.2.2.1, hI.out.2.2.2.1, hI.out.2.2.2.2.1, hI.out.2.2.2.2.2.1, ⟨fun _ => rfl⟩, hI.out.2.2.2.2.2.2.2.1, hI.out.2.2.2.2.2.2.2.2.1, hI.out.2.2.2.2.2.2.2.2.2.1, hI.out.2.2.2.2.2.2.2.2.2.2.1, hI.out.2.2.2.2.2.2.2.2.2.2.2.1, hI.out.2.2.2.2.2.2.2.2.2.2.2.2.1, hI.out.2.2.2.2.2.2.2.2.2.2.2.2.2.1, hI.out.2.2.2.2.2.2.2.2.2.2.2.2.2.2.1, hI.out.2.2.2.2.2.2.2.2.2.2.2.2.2.2.2.1, hI.out.2.2.2.2.2.2.2.2.2.2.2.2.2.2.2.2.1, hI.out.2.2.2.2.2.2.2.2.2.2.2.2.2.2.2.2.2.1, hI.out.2.2.2.2.2.2.2.2.2.2.2.2.2.2.2.2.2.2.1, hI.out.2.2.2.2.2.2.2.2.2.2.2.2.2.2.2.2.2.2.2.1, hI.out.2.2.2.2.2.2.2.2.2.2.2.2.2.2.2.2.2.2.2.2.1, hI.out.2.2.2.2.2.2.2.2.2.2.2.2.2.2.2.2.2.2.2.2.2⟩⟩
        · intro LL a wx hI hLk hd K' hK
          obtain ⟨u, hI⟩ := hI
          obtain rfl := hI.out.1
          have e5 := hI.out.2.2.2.2.2.2.1.out (hd 5 rfl)
          rw [if_pos (by rfl)]
          go_simp
          exact hK.out _ _ ⟨(put1 (put1 u 11 (.pointer (some ⟨g, 0, none⟩))) 12 (.pointer (some ⟨g, 0, none⟩))), ⟨rfl, hI.out.2.1, hI.out.2.2.1, hI.out.2.2.2.1, hI.out.2.2.2.2.1, hI.out.2.2.2.2.2.1, ⟨fun _ => rfl⟩, ⟨fun _ => rfl⟩, hI.out.2.2.2.2.2.2.2.2.1, hI.out.2.2.2.2.2.2.2.2.2.1, hI.out.2.2.2.2.2.2.2.2.2.2.1, hI.out.2.2.2.2.2.2.2.2.2.2.2.1, hI.out.2.2.2.2.2.2.2.2.2.2.2.2.1, hI.out.2.2.2.2.2.2.2.2.2.2.2.2.2.1, hI.out.2.2.2.2.2.2.2.2.2.2.2.2.2.2.1, hI.out.2.2.2.2.2.2.2.2.2.2.2.2.2.2.2.1, hI.out.2.2.2.2.2.2.2.2.2.2.2.2.2.2.2.2.1, hI.out.2.2.2.2.2.2.2.2.2.2.2.2.2.2.2.2.2.1, hI.out.2.2.2.2.2.2.2.2.2.2.2.2.2.2.2.2.2.2.1, hI.out.2.2.2.2.2.2.2.2.2.2.2.2.2.2.2.2.2.2.2.1, hI.out.2.2.2.2.2.2.2.2.2.2.2.2.2.2.2.2.2.2.2.2.1, hI.out.2.2.2.2.2.2.2.2.2.2.2.2.2.2.2.2.2.2.2.2.2⟩⟩
        · intro LL a wx hI hLk hd K' hK
          obtain ⟨u, hI⟩ := hI
          obtain rfl := hI.out.1
          have e6 := hI.out.2.2.2.2.2.2.2.1.out (hd 6 rfl)
          rw [if_pos (by rfl)]
          go_simp
          exact hK.out _ _ ⟨(put1 (put1 u 12 (.pointer (some ⟨g, 0, none⟩))) 13 (.pointer (some ⟨g, 1, none⟩))), ⟨rfl, hI.out.2.1, hI.out.2.2.1, hI.out.2.2.2.1, hI.out.2.2.2.2.1, hI.out.2.2.2.2.2.1, hI.out.2.2.2.2.2.2.1, ⟨fun _ => rfl⟩, ⟨fun _ => rfl⟩, hI.out.2.2.2.2.2.2.2.2.2.1, hI.out.2.2.2.2.2.2.2.2.2.2.1, hI.out.2.2.2.2.2.2.2.2.2.2.2.1, hI.out.2.2.2.2.2.2.2.2.2.2.2.2.1, hI.out.2.2.2.2.2.2.2.2.2.2.2.2.2.1, hI.out.2.2.2.2.2.2.2.2.2.2.2.2.2.2.1, hI.out.2.2.2.2.2.2.2.2.2.2.2.2.2.2.2.1, hI.out.2.2.2.2.2.2.2.2.2.2.2.2.2.2.2.2.1, hI.out.2.2.2.2.2.2.2.2.2.2.2.2.2.2.2.2.2.1, hI.out.2.2.2.2.2.2.2.2.2.2.2.2.2.2.2.2.2.2.1, hI.out.2.2.2.2.2.2.2.2.2.2.2.2.2.2.2.2.2.2.2.1, hI.out.2.2.2.2.2.2.2.2.2.2.2.2.2.2.2.2.2.2.2.2.1, hI.out.2.2.2.2.2.2.2.2.2.2.2.2.2.2.2.2.2.2.2.2.2⟩⟩
        · intro LL a wx hI hLk hd K' hK
          obtain ⟨u, hI⟩ := hI
          obtain rfl := hI.out.1
          have e7 := hI.out.2.2.2.2.2.2.2.2.1.out (hd 7 rfl)
          have hb := hI.out.2.2.2.2.2.2.2.2.2.2.2.2.2.2.2.2.2.2.2.1
          have hz := hI.out.2.2.2.2.2.2.2.2.2.2.2.2.2.2.2.2.2.2.2.2.2
          have hb0 := hb.out (by cases h : LL 18 with | false => rfl | true => exact absurd ((hz.out h).2.1) (by rw [hLk]; decide))
          have d0 : wx.cell? ⟨g, 0, none⟩ = some (.slice Av bs.length cv) := cell_keep hb0 c0
          have d1 : wx.cell? ⟨g, 1, none⟩ = some (.int .i64 S) := cell_keep hb0 c1
          clear hb0
          rw [if_pos (by rfl)]
          go_simp
          exact hK.out _ _ ⟨(put1 (put1 u 13 (.pointer (some ⟨g, 1, none⟩))) 14 (.int .i64 S)), ⟨rfl, hI.out.2.1, hI.out.2.2.1, hI.out.2.2.2.1, hI.out.2.2.2.2.1, hI.out.2.2.2.2.2.1, hI.out.2.2.2.2.2.2.1, hI.out.2.2.2.2.2.2.2.1, ⟨fun _ => rfl⟩, ⟨fun _ => rfl⟩, hI.out.2.2.2.2.2.2.2.2.2.2.1, hI.out.2.2.2.2.2.2.2.2.2.2.2.1, hI.out.2.2.2.2.2.2.2.2.2.2.2.2.1, hI.out.2.2.2.2.2.2.2.2.2.2.2.2.2.1, hI.out.2.2.2.2.2.2.2.2.2.2.2.2.2.2.1, hI.out.2.2.2.2.2.2.2.2.2.2.2.2.2.2.2.1, hI.out.2.2.2.2.2.2.2.2.2.2.2.2.2.2.2.2.1, hI.out.2.2.2.2.2.2.2.2.2.2.2.2.2.2.2.2.2.1, hI.out.2.2.2.2.2.2.2.2.2.2.2.2.2.2.2.2.2.2.1, hI.out.2.2.2.2.2.2.2.2.2.2.2.2.2.2.2.2.2.2.2.1, hI.out.2.2.2.2.2.2.2.2.2.2.2.2.2.2.2.2.2.2.2.2.1, ⟨fun h => ⟨upd_old (hz.out h).1, upd_old (hz.out h).2.1, upd_old (hz.out h).2.2⟩⟩⟩⟩
        · intro LL a wx hI hLk hd K' hK
          obtain ⟨u, hI⟩ := hI
          obtain rfl := hI.out.1
          rw [if_pos (by rfl)]
          go_simp
          exact hK.out _ _ ⟨(put1 u 15 (.int .i64 keep)), ⟨rfl, hI.out.2.1, hI.out.2.2.1, hI.out.2.2.2.1, hI.out.2.2.2.2.1, hI.out.2.2.2.2.2.1, hI.out.2.2.2.2.2.2.1, hI.out.2.2.2.2.2.2.2.1, hI.out.2.2.2.2.2.2.2.2.1, hI.out.2.2.2.2.2.2.2.2.2.1, ⟨fun _ => rfl⟩, hI.out.2.2.2.2.2.2.2.2.2.2.2.1, hI.out.2.2.2.2.2.2.2.2.2.2.2.2.1, hI.out.2.2.2.2.2.2.2.2.2.2.2.2.2.1, hI.out.2.2.2.2.2.2.2.2.2.2.2.2.2.2.1, hI.out.2.2.2.2.2.2.2.2.2.2.2.2.2.2.2.1, hI.out.2.2.2.2.2.2.2.2.2.2.2.2.2.2.2.2.1, hI.out.2.2.2.2.2.2.2.2.2.2.2.2.2.2.2.2.2.1, hI.out.2.2.2.2.2.2.2.2.2.2.2.2.2.2.2.2.2.2.1, hI.out.2.2.2.2.2.2.2.2.2.2.2.2.2.2.2.2.2.2.2.1, hI.out.2.2.2.2.2.2.2.2.2.2.2.2.2.2.2.2.2.2.2.2.1, hI.out.2.2.2.2.2.2.2.2.2.2.2.2.2.2.2.2.2.2.2.2.2⟩⟩
        · intro LL a wx hI hLk hd K' hK
          obtain ⟨u, hI⟩ := hI
          obtain rfl := hI.out.1
          have e9 := hI.out.2.2.2.2.2.2.2.2.2.2.1.out (hd 9 rfl)
          rw [if_pos (by rfl)]
          go_simp
          exact hK.out _ _ ⟨(put1 (put1 u 15 (.int .i64 keep)) 16 (.int .i64 0)), ⟨rfl, hI.out.2.1, hI.out.2.2.1, hI.out.2.2.2.1, hI.out.2.2.2.2.1, hI.out.2.2.2.2.2.1, hI.out.2.2.2.2.2.2.1, hI.out.2.2.2.2.2.2.2.1, hI.out.2.2.2.2.2.2.2.2.1, hI.out.2.2.2.2.2.2.2.2.2.1, ⟨fun _ => rfl⟩, ⟨fun _ => rfl⟩, hI.out.2.2.2.2.2.2.2.2.2.2.2.2.1, hI.out.2.2.2.2.2.2.2.2.2.2.2.2.2.1, hI.out.2.2.2.2.2.2.2.2.2.2.2.2.2.2.1, hI.out.2.2.2.2.2.2.2.2.2.2.2.2.2.2.2.1, hI.out.2.2.2.2.2.2.2.2.2.2.2.2.2.2.2.2.1, hI.out.2.2.2.2.2.2.2.2.2.2.2.2.2.2.2.2.2.1, hI.out.2.2.2.2.2.2.2.2.2.2.2.2.2.2.2.2.2.2.1, hI.out.2.2.2.2.2.2.2.2.2.2.2.2.2.2.2.2.2.2.2.1, hI.out.2.2.2.2.2.2.2.2.2.2.2.2.2.2.2.2.2.2.2.2.1, hI.out.2.2.2.2.2.2.2.2.2.2.2.2.2.2.2.2.2.2.2.2.2⟩⟩
        · intro LL a wx hI hLk hd K' hK
          obtain ⟨u, hI⟩ := hI
          obtain rfl := hI.out.1
          rw [if_pos (by rfl)]
          go_simp
          exact hK.out _ _ ⟨(put1 u 17 (.pointer (some ⟨g, 0, none⟩))), ⟨rfl, hI.out.2.1, hI.out.2.2.1, hI.out.2.2.2.1, hI.out.2.2.2.2.1, hI.out.2.2.2.2.2.1, hI.out.2.2.2.2.2.2.1, hI.out.2.2.2.2.2.2.2.1, hI.out.2.2.2.2.2.2.2.2.1, hI.out.2.2.2.2.2.2.2.2.2.1, hI.out.2.2.2.2.2.2.2.2.2.2.1, hI.out.2.2.2.2.2.2.2.2.2.2.2.1, ⟨fun _ => rfl⟩, hI.out.2.2.2.2.2.2.2.2.2.2.2.2.2.1, hI.out.2.2.2.2.2.2.2.2.2.2.2.2.2.2.1, hI.out.2.2.2.2.2.2.2.2.2.2.2.2.2.2.2.1, hI.out.2.2.2.2.2.2.2.2.2.2.2.2.2.2.2.2.1, hI.out.2.2.2.2.2.2.2.2.2.2.2.2.2.2.2.2.2.1, hI.out.2.2.2.2.2.2.2.2.2.2.2.2.2.2.2.2.2.2.1, hI.out.2.2.2.2.2.2.2.2.2.2.2.2.2.2.2.2.2.2.2.1, hI.out.2.2.2.2.2.2.2.2.2.2.2.2.2.2.2.2.2.2.2.2.1, hI.out.2.2.2.2.2.2.2.2.2.2.2.2.2.2.2.2.2.2.2.2.2⟩⟩
        · intro LL a wx hI hLk hd K' hK
          obtain ⟨u, hI⟩ := hI
          obtain rfl := hI.out.1
          have e11 := hI.out.2.2.2.2.2.2.2.2.2.2.2.2.1.out (hd 11 rfl)
          have hb := hI.out.2.2.2.2.2.2.2.2.2.2.2.2.2.2.2.2.2.2.2.1
          have hz := hI.out.2.2.2.2.2.2.2.2.2.2.2.2.2.2.2.2.2.2.2.2.2
          have hb0 := hb.out (by cases h : LL 18 with | false => rfl | true => exact absurd ((hz.out h).2.2) (by rw [hLk]; decide))
          rw [if_pos (by rfl)]
          go_simp
          go_at_call 15
          refine (F.out _ hb0).mono ?_
          rintro z w1 ⟨rfl, hb1⟩
          exact hK.out _ _ ⟨(put1 (put1 u 17 (.pointer (some ⟨g, 0, none⟩))) 18 (.int .i64 L)), ⟨rfl, hI.out.2.1, hI.out.2.2.1, hI.out.2.2.2.1, hI.out.2.2.2.2.1, hI.out.2.2.2.2.2.1, hI.out.2.2.2.2.2.2.1, hI.out.2.2.2.2.2.2.2.1, hI.out.2.2.2.2.2.2.2.2.1, hI.out.2.2.2.2.2.2.2.2.2.1, hI.out.2.2.2.2.2.2.2.2.2.2.1, hI.out.2.2.2.2.2.2.2.2.2.2.2.1, ⟨fun _ => rfl⟩, ⟨fun _ => rfl⟩, hI.out.2.2.2.2.2.2.2.2.2.2.2.2.2.2.1, hI.out.2.2.2.2.2.2.2.2.2.2.2.2.2.2.2.1, hI.out.2.2.2.2.2.2.2.2.2.2.2.2.2.2.2.2.1, hI.out.2.2.2.2.2.2.2.2.2.2.2.2.2.2.2.2.2.1, hI.out.2.2.2.2.2.2.2.2.2.2.2.2.2.2.2.2.2.2.1, ⟨fun _ => below_step hb0 hb1⟩, ⟨fun h => absurd (hz.out h).2.2 (by rw [hLk]; decide)⟩, ⟨fun h => ⟨upd_old (hz.out h).1, upd_old (hz.out h).2.1, upd_old (hz.out h).2.2⟩⟩⟩⟩
        · intro LL a wx hI hLk hd K' hK
          obtain ⟨u, hI⟩ := hI
          obtain rfl := hI.out.1
          have e10 := hI.out.2.2.2.2.2.2.2.2.2.2.2.1.out (hd 10 rfl)
          have e12 := hI.out.2.2.2.2.2.2.2.2.2.2.2.2.2.1.out (hd 12 rfl)
          rw [if_pos (by rfl)]
          go_simp
          exact hK.out _ _ ⟨(put1 (put1 (put1 u 16 (.int .i64 0)) 18 (.int .i64 L)) 19 (.int .i64 0)), ⟨rfl, hI.out.2.1, hI.out.2.2.1, hI.out.2.2.2.1, hI.out.2.2.2.2.1, hI.out.2.2.2.2.2.1, hI.out.2.2.2.2.2.2.1, hI.out.2.2.2.2.2.2.2.1, hI.out.2.2.2.2.2.2.2.2.1, hI.out.2.2.2.2.2.2.2.2.2.1, hI.out.2.2.2.2.2.2.2.2.2.2.1, ⟨fun _ => rfl⟩, hI.out.2.2.2.2.2.2.2.2.2.2.2.2.1, ⟨fun _ => rfl⟩, ⟨fun _ => rfl⟩, hI.out.2.2.2.2.2.2.2.2.2.2.2.2.2.2.2.1, hI.out.2.2.2.2.2.2.2.2.2.2.2.2.2.2.2.2.1, hI.out.2.2.2.2.2.2.2.2.2.2.2.2.2.2.2.2.2.1, hI.out.2.2.2.2.2.2.2.2.2.2.2.2.2.2.2.2.2.2.1, hI.out.2.2.2.2.2.2.2.2.2.2.2.2.2.2.2.2.2.2.2.1, hI.out.2.2.2.2.2.2.2.2.2.2.2.2.2.2.2.2.2.2.2.2.1, hI.out.2.2.2.2.2.2.2.2.2.2.2.2.2.2.2.2.2.2.2.2.2⟩⟩
        · intro LL a wx hI hLk hd K' hK
          obtain ⟨u, hI⟩ := hI
          obtain rfl := hI.out.1
          have e8 := hI.out.2.2.2.2.2.2.2.2.2.1.out (hd 8 rfl)
          have e13 := hI.out.2.2.2.2.2.2.2.2.2.2.2.2.2.2.1.out (hd 13 rfl)
          rw [if_pos (by rfl)]
          go_simp
          exact hK.out _ _ ⟨(put1 (put1 (put1 u 14 (.int .i64 S)) 19 (.int .i64 0)) 20 (.int .i64 J)), ⟨rfl, hI.out.2.1, hI.out.2.2.1, hI.out.2.2.2.1, hI.out.2.2.2.2.1, hI.out.2.2.2.2.2.1, hI.out.2.2.2.2.2.2.1, hI.out.2.2.2.2.2.2.2.1, hI.out.2.2.2.2.2.2.2.2.1, ⟨fun _ => rfl⟩, hI.out.2.2.2.2.2.2.2.2.2.2.1, hI.out.2.2.2.2.2.2.2.2.2.2.2.1, hI.out.2.2.2.2.2.2.2.2.2.2.2.2.1, hI.out.2.2.2.2.2.2.2.2.2.2.2.2.2.1, ⟨fun _ => rfl⟩, ⟨fun _ => rfl⟩, hI.out.2.2.2.2.2.2.2.2.2.2.2.2.2.2.2.2.1, hI.out.2.2.2.2.2.2.2.2.2.2.2.2.2.2.2.2.2.1, hI.out.2.2.2.2.2.2.2.2.2.2.2.2.2.2.2.2.2.2.1, hI.out.2.2.2.2.2.2.2.2.2.2.2.2.2.2.2.2.2.2.2.1, hI.out.2.2.2.2.2.2.2.2.2.2.2.2.2.2.2.2.2.2.2.2.1, hI.out.2.2.2.2.2.2.2.2.2.2.2.2.2.2.2.2.2.2.2.2.2⟩⟩
        · intro LL a wx hI hLk hd K' hK
          obtain ⟨u, hI⟩ := hI
          obtain rfl := hI.out.1
          have e4 := hI.out.2.2.2.2.2.1.out (hd 4 rfl)
          have e14 := hI.out.2.2.2.2.2.2.2.2.2.2.2.2.2.2.2.1.out (hd 14 rfl)
          rw [if_pos (by rfl)]
          go_simp
          exact hK.out _ _ ⟨(put1 (put1 (put1 u 10 (.slice Av bs.length cv)) 20 (.int .i64 J)) 21 (.slice Av J.toNat cv)), ⟨rfl, hI.out.2.1, hI.out.2.2.1, hI.out.2.2.2.1, hI.out.2.2.2.2.1, ⟨fun _ => rfl⟩, hI.out.2.2.2.2.2.2.1, hI.out.2.2.2.2.2.2.2.1, hI.out.2.2.2.2.2.2.2.2.1, hI.out.2.2.2.2.2.2.2.2.2.1, hI.out.2.2.2.2.2.2.2.2.2.2.1, hI.out.2.2.2.2.2.2.2.2.2.2.2.1, hI.out.2.2.2.2.2.2.2.2.2.2.2.2.1, hI.out.2.2.2.2.2.2.2.2.2.2.2.2.2.1, hI.out.2.2.2.2.2.2.2.2.2.2.2.2.2.2.1, ⟨fun _ => rfl⟩, ⟨fun _ => rfl⟩, hI.out.2.2.2.2.2.2.2.2.2.2.2.2.2.2.2.2.2.1, hI.out.2.2.2.2.2.2.2.2.2.2.2.2.2.2.2.2.2.2.1, hI.out.2.2.2.2.2.2.2.2.2.2.2.2.2.2.2.2.2.2.2.1, hI.out.2.2.2.2.2.2.2.2.2.2.2.2.2.2.2.2.2.2.2.2.1, hI.out.2.2.2.2.2.2.2.2.2.2.2.2.2.2.2.2.2.2.2.2.2⟩⟩
        · intro LL a wx hI hLk hd K' hK
          obtain ⟨u, hI⟩ := hI
          obtain rfl := hI.out.1
          have e0 := hI.out.2.1.out (hd 0 rfl)
          rw [if_pos (by rfl)]
          go_simp
          exact hK.out _ _ ⟨(put1 (put1 u 6 (.pointer (some ⟨g, 0, none⟩))) 22 (.pointer (some ⟨g, 0, none⟩))), ⟨rfl, ⟨fun _ => rfl⟩, hI.out.2.2.1, hI.out.2.2.2.1, hI.out.2.2.2.2.1, hI.out.2.2.2.2.2.1, hI.out.2.2.2.2.2.2.1, hI.out.2.2.2.2.2.2.2.1, hI.out.2.2.2.2.2.2.2.2.1, hI.out.2.2.2.2.2.2.2.2.2.1, hI.out.2.2.2.2.2.2.2.2.2.2.1, hI.out.2.2.2.2.2.2.2.2.2.2.2.1, hI.out.2.2.2.2.2.2.2.2.2.2.2.2.1, hI.out.2.2.2.2.2.2.2.2.2.2.2.2.2.1, hI.out.2.2.2.2.2.2.2.2.2.2.2.2.2.2.1, hI.out.2.2.2.2.2.2.2.2.2.2.2.2.2.2.2.1, hI.out.2.2.2.2.2.2.2.2.2.2.2.2.2.2.2.2.1, ⟨fun _ => rfl⟩, hI.out.2.2.2.2.2.2.2.2.2.2.2.2.2.2.2.2.2.2.1, hI.out.2.2.2.2.2.2.2.2.2.2.2.2.2.2.2.2.2.2.2.1, hI.out.2.2.2.2.2.2.2.2.2.2.2.2.2.2.2.2.2.2.2.2.1, hI.out.2.2.2.2.2.2.2.2.2.2.2.2.2.2.2.2.2.2.2.2.2⟩⟩
        · intro LL a wx hI hLk hd K' hK
          obtain ⟨u, hI⟩ := hI
          obtain rfl := hI.out.1
          have e16 := hI.out.2.2.2.2.2.2.2.2.2.2.2.2.2.2.2.2.2.1.out (hd 16 rfl)
          rw [if_pos (by rfl)]
          go_simp
          exact hK.out _ _ ⟨(put1 (put1 u 22 (.pointer (some ⟨g, 0, none⟩))) 23 (.pointer (some ⟨g, 0, none⟩))), ⟨rfl, hI.out.2.1, hI.out.2.2.1, hI.out.2.2.2.1, hI.out.2.2.2.2.1, hI.out.2.2.2.2.2.1, hI.out.2.2.2.2.2.2.1, hI.out.2.2.2.2.2.2.2.1, hI.out.2.2.2.2.2.2.2.2.1, hI.out.2.2.2.2.2.2.2.2.2.1, hI.out.2.2.2.2.2.2.2.2.2.2.1, hI.out.2.2.2.2.2.2.2.2.2.2.2.1, hI.out.2.2.2.2.2.2.2.2.2.2.2.2.1, hI.out.2.2.2.2.2.2.2.2.2.2.2.2.2.1, hI.out.2.2.2.2.2.2.2.2.2.2.2.2.2.2.1, hI.out.2.2.2.2.2.2.2.2.2.2.2.2.2.2.2.1, hI.out.2.2.2.2.2.2.2.2.2.2.2.2.2.2.2.2.1, ⟨fun _ => rfl⟩, ⟨fun _ => rfl⟩, hI.out.2.2.2.2.2.2.2.2.2.2.2.2.2.2.2.2.2.2.2.1, hI.out.2.2.2.2.2.2.2.2.2.2.2.2.2.2.2.2.2.2.2.2.1, hI.out.2.2.2.2.2.2.2.2.2.2.2.2.2.2.2.2.2.2.2.2.2⟩⟩
        · intro LL a wx hI hLk hd K' hK
          obtain ⟨u, hI⟩ := hI
          obtain rfl := hI.out.1
          have e17 := hI.out.2.2.2.2.2.2.2.2.2.2.2.2.2.2.2.2.2.2.1.out (hd 17 rfl)
          have e15 := hI.out.2.2.2.2.2.2.2.2.2.2.2.2.2.2.2.2.1.out (hd 15 rfl)
          have hb := hI.out.2.2.2.2.2.2.2.2.2.2.2.2.2.2.2.2.2.2.2.1
          have hb0 := hb.out hLk
          have d0 : wx.cell? ⟨g, 0, none⟩ = some (.slice Av bs.length cv) := cell_keep hb0 c0
          have e0 := blk_frozen (blk_below HX.out.1 hb0) 0
          rw [if_pos (by rfl)]
          go_simp
          exact hK.out _ _ ⟨(put1 (put1 u 23 (.pointer (some ⟨g, 0, none⟩))) 21 (.slice Av J.toNat cv)), ⟨rfl, hI.out.2.1, hI.out.2.2.1, hI.out.2.2.2.1, hI.out.2.2.2.2.1, hI.out.2.2.2.2.2.1, hI.out.2.2.2.2.2.2.1, hI.out.2.2.2.2.2.2.2.1, hI.out.2.2.2.2.2.2.2.2.1, hI.out.2.2.2.2.2.2.2.2.2.1, hI.out.2.2.2.2.2.2.2.2.2.2.1, hI.out.2.2.2.2.2.2.2.2.2.2.2.1, hI.out.2.2.2.2.2.2.2.2.2.2.2.2.1, hI.out.2.2.2.2.2.2.2.2.2.2.2.2.2.1, hI.out.2.2.2.2.2.2.2.2.2.2.2.2.2.2.1, hI.out.2.2.2.2.2.2.2.2.2.2.2.2.2.2.2.1, ⟨fun _ => rfl⟩, hI.out.2.2.2.2.2.2.2.2.2.2.2.2.2.2.2.2.2.1, ⟨fun _ => rfl⟩, ⟨fun h => Bool.noConfusion (show true = false from h)⟩, ⟨fun _ => ⟨wx, hb0, rfl⟩⟩, ⟨fun _ => ⟨hd 4 rfl, hd 8 rfl, hd 12 rfl⟩⟩⟩⟩
      · intro LL a wx hall hI
        obtain ⟨u, hI⟩ := hI
        obtain rfl := hI.out.1
        have hb := hI.out.2.2.2.2.2.2.2.2.2.2.2.2.2.2.2.2.2.2.2.1
        have hs := hI.out.2.2.2.2.2.2.2.2.2.2.2.2.2.2.2.2.2.2.2.2.1
        have hz := hI.out.2.2.2.2.2.2.2.2.2.2.2.2.2.2.2.2.2.2.2.2.2
        have e0 := hI.out.2.1.out (hall 0 (by decide))
        obtain ⟨w1, hb1, rfl⟩ := hs.out (hall 18 (by decide))
        have d0 : w1.cell? ⟨g, 0, none⟩ = some (.slice Av bs.length cv) := cell_keep hb1 c0
        have d1 : w1.cell? ⟨g, 1, none⟩ = some (.int .i64 S) := cell_keep hb1 c1
        have e0 := blk_frozen (blk_below HX.out.1 hb1) 0
        have e1 := blk_frozen (blk_below HX.out.1 hb1) 1
        have HB := Aside0.mk hb1
        clear hb hs hz hb1 hI
        go_wp2
        refine bodyPost_end (results_none rfl _ _ _) rfl ?_
        obtain ⟨h0, hJ, hk⟩ := HK.out
        rw [show max J 0 = ((J.toNat : Nat) : Int) by omega]
        exact ⟨rfl, HX.out.2 J w1 h0 hJ hk HB.out⟩
    · have hw2 : IntKind.i64.wrap (S + x) = J := by rw [← hJe]; exact hwx
      have hl0 : (keep < 0) = False := eq_false hk
      have hl1 : (x < keep) = True := eq_true hm
      clear hL hS hJe hxL hL0 hx0 hwx hk hm
      go_enter Try.func16, Try.ntmps16
      go_wp2
      refine wp_region_steps 19 rfl rfl (by kernel_rfl) (fun LL a wx => ∃ u : Nat → Value, Aside0 (a = { tmps := List.toArray (.pointer (some ⟨g, 0, none⟩) :: .int .i64 keep :: undef :: undef :: .pointer (some ⟨g, 0, none⟩) :: .bool true :: u 6 :: u 7 :: u 8 :: u 9 :: u 10 :: u 11 :: u 12 :: u 13 :: u 14 :: u 15 :: u 16 :: u 17 :: u 18 :: u 19 :: u 20 :: u 21 :: u 22 :: u 23 :: undef :: undef :: undef :: undef :: undef :: undef :: undef :: undef :: []), defers := [] } ∧ Aside0 (LL 0 = true → u 6 = .pointer (some ⟨g, 0, none⟩)) ∧ Aside0 (LL 1 = true → u 7 = .pointer (some ⟨g, 0, none⟩)) ∧ Aside0 (LL 2 = true → u 8 = .pointer (some ⟨g, 0, none⟩)) ∧ Aside0 (LL 3 = true → u 9 = .pointer (some ⟨g, 0, none⟩)) ∧ Aside0 (LL 4 = true → u 10 = .slice Av bs.length cv) ∧ Aside0 (LL 5 = true → u 11 = .pointer (some ⟨g, 0, none⟩)) ∧ Aside0 (LL 6 = true → u 12 = .pointer (some ⟨g, 0, none⟩)) ∧ Aside0 (LL 7 = true → u 13 = .pointer (some ⟨g, 1, none⟩)) ∧ Aside0 (LL 8 = true → u 14 = .int .i64 S) ∧ Aside0 (LL 9 = true → u 15 = .int .i64 keep) ∧ Aside0 (LL 10 = true → u 16 = .int .i64 keep) ∧ Aside0 (LL 11 = true → u 17 = .pointer (some ⟨g, 0, none⟩)) ∧ Aside0 (LL 12 = true → u 18 = .int .i64 x) ∧ Aside0 (LL 13 = true → u 19 = .int .i64 x) ∧ Aside0 (LL 14 = true → u 20 = .int .i64 J) ∧ Aside0 (LL 15 = true → u 21 = .slice Av J.toNat cv) ∧ Aside0 (LL 16 = true → u 22 = .pointer (some ⟨g, 0, none⟩)) ∧ Aside0 (LL 17 = true → u 23 = .pointer (some ⟨g, 0, none⟩)) ∧ Aside0 (LL 18 = false → Below w.heap.size w wx) ∧ Aside0 (LL 18 = true → ∃ w1, Below w.heap.size w w1 ∧ wx = w1.setCell ⟨g, 0, none⟩ (.slice Av J.toNat cv)) ∧ Aside0 (LL 18 = true → LL 4 = true ∧ LL 8 = true ∧ LL 12 = true))) ?_ ?_ ?_
      · exact ⟨fun _ => undef, ⟨rfl, ⟨fun h => absurd h (by decide)⟩, ⟨fun h => absurd h (by decide)⟩, ⟨fun h => absurd h (by decide)⟩, ⟨fun h => absurd h (by decide)⟩, ⟨fun h => absurd h (by decide)⟩, ⟨fun h => absurd h (by decide)⟩, ⟨fun h => absurd h (by decide)⟩, ⟨fun h => absurd h (by decide)⟩, ⟨fun h => absurd h (by decide)⟩, ⟨fun h => absurd h (by decide)⟩, ⟨fun h => absurd h (by decide)⟩, ⟨fun h => absurd h (by decide)⟩, ⟨fun h => absurd h (by decide)⟩, ⟨fun h => absurd h (by decide)⟩, ⟨fun h => absurd h (by decide)⟩, ⟨fun h => absurd h (by decide)⟩, ⟨fun h => absurd h (by decide)⟩, ⟨fun h => absurd h (by decide)⟩, ⟨fun _ => below_drew (Below.refl _ _)⟩, ⟨fun h => absurd h (by decide)⟩, ⟨fun h => absurd h (by decide)⟩⟩⟩
      · refine Steps.cons ?_ (Steps.cons ?_ (Steps.cons ?_ (Steps.cons ?_ (Steps.cons ?_ (Steps.cons ?_ (Steps.cons ?_ (Steps.cons ?_ (Steps.cons ?_ (Steps.cons ?_ (Steps.cons ?_ (Steps.cons ?_ (Steps.cons ?_ (Steps.cons ?_ (Steps.cons ?_ (Steps.cons ?_ (Steps.cons ?_ (Steps.cons ?_ (Steps.cons ?_ (Steps.nil)))))))))))))))))))
        · intro LL a wx hI hLk hd K' hK
          obtain ⟨u, hI⟩ := hI
          obtain rfl := hI.out.1
          rw [if_pos (by rfl)]
          go_simp
          exact hK.out _ _ ⟨(put1 u 6 (.pointer (some ⟨g, 0, none⟩))), ⟨rfl, ⟨fun _ => rfl⟩, hI.out.2.2.1, hI.out.2.2.2.1, hI.out.2.2.2.2.1, hI.out.2.2.2.2.2.1, hI.out.2.2.2.2.2.2.1, hI.out.2.2.2.2.2.2.2.1, hI.out.2.2.2.2.2.2.2.2.1, hI.out.2.2.2.2.2.2.2.2.2.1, hI.out.2.2.2.2.2.2.2.2.2.2.1, hI.out.2.2.2.2.2.2.2.2.2.2.2.1, hI.out.2.2.2.2.2.2.2.2.2.2.2.2.1, hI.out.2.2.2.2.2.2.2.2.2.2.2.2.2.1, hI.out.2.2.2.2.2.2.2.2.2.2.2.2.2.2.1, hI.out.2.2.2.2.2.2.2.2.2.2.2.2.2.2.2.1, hI.out.2.2.2.2.2.2.2.2.2.2.2.2.2.2.2.2.1, hI.out.2.2.2.2.2.2.2.2.2.2.2.2.2.2.2.2.2.1, hI.out.2.2.2.2.2.2.2.2.2.2.2.2.2.2.2.2.2.2.1, hI.out.2.2.2.2.2.2.2.2.2.2.2.2.2.2.2.2.2.2.2.1, hI.out.2.2.2.2.2.2.2.2.2.2.2.2.2.2.2.2.2.2.2.2.1, hI.out.2.2.2.2.2.2.2.2.2.2.2.2.2.2.2.2.2.2.2.2.2⟩⟩
        · intro LL a wx hI hLk hd K' hK
          obtain ⟨u, hI⟩ := hI
          obtain rfl := hI.out.1
          rw [if_pos (by rfl)]
          go_simp
          exact hK.out _ _ ⟨(put1 u 7 (.pointer (some ⟨g, 0, none⟩))), ⟨rfl, hI.out.2.1, ⟨fun _ => rfl⟩, hI.out.2.2.2.1, hI.out.2.2.2.2.1, hI.out.2.2.2.2.2.1, hI.out.2.2.2.2.2.2.1, hI.out.2.2.2.2.2.2.2.1, hI.out.2.2.2.2.2.2.2.2.1, hI.out.2.2.2.2.2.2.2.2.2.1, hI.out.2.2.2.2.2.2.2.2.2.2.1, hI.out.2.2.2.2.2.2.2.2.2.2.2.1, hI.out.2.2.2.2.2.2.2.2.2.2.2.2.1, hI.out.2.2.2.2.2.2.2.2.2.2.2.2.2.1, hI.out.2.2.2.2.2.2.2.2.2.2.2.2.2.2.1, hI.out.2.2.2.2.2.2.2.2.2.2.2.2.2.2.2.1, hI.out.2.2.2.2.2.2.2.2.2.2.2.2.2.2.2.2.1, hI.out.2.2.2.2.2.2.2.2.2.2.2.2.2.2.2.2.2.1, hI.out.2.2.2.2.2.2.2.2.2.2.2.2.2.2.2.2.2.2.1, hI.out.2.2.2.2.2.2.2.2.2.2.2.2.2.2.2.2.2.2.2.1, hI.out.2.2.2.2.2.2.2.2.2.2.2.2.2.2.2.2.2.2.2.2.1, hI.out.2.2.2.2.2.2.2.2.2.2.2.2.2.2.2.2.2.2.2.2.2⟩⟩
        · intro LL a wx hI hLk hd K' hK
          obtain ⟨u, hI⟩ := hI
          obtain rfl := hI.out.1
          have e1 := hI.out.2.2.1.out (hd 1 rfl)
          rw [if_pos (by rfl)]
          go_simp
          exact hK.out _ _ ⟨(put1 (put1 u 7 (.pointer (some ⟨g, 0, none⟩))) 8 (.pointer (some ⟨g, 0, none⟩))), ⟨rfl, hI.out.2.1, ⟨fun _ => rfl⟩, ⟨fun _ => rfl⟩, hI.out.2.2.2.2.1, hI.out.2.2.2.2.2.1, hI.out.2.2.2.2.2.2.1, hI.out.2.2.2.2.2.2.2.1, hI.out.2.2.2.2.2.2.2.2.1, hI.out.2.2.2.2.2.2.2.2.2.1, hI.out.2.2.2.2.2.2.2.2.2.2.1, hI.out.2.2.2.2.2.2.2.2.2.2.2.1, hI.out.2.2.2.2.2.2.2.2.2.2.2.2.1, hI.out.2.2.2.2.2.2.2.2.2.2.2.2.2.1, hI.out.2.2.2.2.2.2.2.2.2.2.2.2.2.2.1, hI.out.2.2.2.2.2.2.2.2.2.2.2.2.2.2.2.1, hI.out.2.2.2.2.2.2.2.2.2.2.2.2.2.2.2.2.1, hI.out.2.2.2.2.2.2.2.2.2.2.2.2.2.2.2.2.2.1, hI.out.2.2.2.2.2.2.2.2.2.2.2.2.2.2.2.2.2.2.1, hI.out.2.2.2.2.2.2.2.2.2.2.2.2.2.2.2.2.2.2.2.1, hI.out.2.2.2.2.2.2.2.2.2.2.2.2.2.2.2.2.2.2.2.2.1, hI.out.2.2.2.2.2.2.2.2.2.2.2.2.2.2.2.2.2.2.2.2.2⟩⟩
        · intro LL a wx hI hLk hd K' hK
          obtain ⟨u, hI⟩ := hI
          obtain rfl := hI.out.1
          have e2 := hI.out.2.2.2.1.out (hd 2 rfl)
          rw [if_pos (by rfl)]
          go_simp
          exact hK.out _ _ ⟨(put1 (put1 u 8 (.pointer (some ⟨g, 0, none⟩))) 9 (.pointer (some ⟨g, 0, none⟩))), ⟨rfl, hI.out.2.1, hI.out.2.2.1, ⟨fun _ => rfl⟩, ⟨fun _ => rfl⟩, hI.out.2.2.2.2.2.1, hI.out.2.2.2.2.2.2.1, hI.out.2.2.2.2.2.2.2.1, hI.out.2.2.2.2.2.2.2.2.1, hI.out.2.2.2.2.2.2.2.2.2.1, hI.out.2.2.2.2.2.2.2.2.2.2.1, hI.out.2.2.2.2.2.2.2.2.2.2.2.1, hI.out.2.2.2.2.2.2.2.2.2.2.2.2.1, hI.out.2.2.2.2.2.2.2.2.2.2.2.2.2.1, hI.out.2.2.2.2.2.2.2.2.2.2.2.2.2.2.1, hI.out.2.2.2.2.2.2.2.2.2.2.2.2.2.2.2.1, hI.out.2.2.2.2.2.2.2.2.2.2.2.2.2.2.2.2.1, hI.out.2.2.2.2.2.2.2.2.2.2.2.2.2.2.2.2.2.1, hI.out.2.2.2.2.2.2.2.2.2.2.2.2.2.2.2.2.2.2.1, hI.out.2.2.2.2.2.2.2.2.2.2.2.2.2.2.2.2.2.2.2.1, hI.out.2.2.2.2.2.2.2.2.2.2.2.2.2.2.2.2.2.2.2.2.1, hI.out.2.2.2.2.2.2.2.2.2.2.2.2.2.2.2.2.2.2.2.2.2⟩⟩
        · intro LL a wx hI hLk hd K' hK
          obtain ⟨u, hI⟩ := hI
          obtain rfl := hI.out.1
          have e3 := hI.out.2.2.2.2.1.out (hd 3 rfl)
          have hb := hI.out.2.2.2.2.2.2.2.2.2.2.2.2.2.2.2.2.2.2.2.1
          have hz := hI.out.2.2.2.2.2.2.2.2.2.2.2.2.2.2.2.2.2.2.2.2.2
          have hb0 := hb.out (by cases h : LL 18 with | false => rfl | true => exact absurd ((hz.out h).1) (by rw [hLk]; decide))
          have d0 : wx.cell? ⟨g, 0, none⟩ = some (.slice Av bs.length cv) := cell_keep hb0 c0
          have d1 : wx.cell? ⟨g, 1, none⟩ = some (.int .i64 S) := cell_keep hb0 c1
          clear hb0
          rw [if_pos (by rfl)]
          go_simp
          exact hK.out _ _ ⟨(put1 (put1 u 9 (.pointer (some ⟨g, 0, none⟩))) 10 (.slice Av bs.length cv)), ⟨rfl, hI.out.2.1, hI.out.2.2.1, hI.out.2.2.2.1, ⟨fun _ => rfl⟩, ⟨fun _ => rfl⟩, hI.out.2.2.2.2.2.2.1, hI.out.2.2.2.2.2.2.2.1, hI.out.2.2.2.2.2.2.2.2.1, hI.out.2.2.2.2.2.2.2.2.2.1, hI.out.2.2.2.2.2.2.2.2.2.2.1, hI.out.2.2.2.2.2.2.2.2.2.2.2.1, hI.out.2.2.2.2.2.2.2.2.2.2.2.2.1, hI.out.2.2.2.2.2.2.2.2.2.2.2.2.2.1, hI.out.2.2.2.2.2.2.2.2.2.2.2.2.2.2.1, hI.out.2.2.2.2.2.2.2.2.2.2.2.2.2.2.2.1, hI.out.2.2.2.2.2.2.2.2.2.2.2.2.2.2.2.2.1, hI.out.2.2.2.2.2.2.2.2.2.2.2.2.2.2.2.2.2.1, hI.out.2.2.2.2.2.2.2.2.2.2.2.2.2.2.2.2.2.2.1, hI.out.2.2.2.2.2.2.2.2.2.2.2.2.2.2.2.2.2.2.2.1, hI.out.2.2.2.2.2.2.2.2.2.2.2.2.2.2.2.2.2.2.2.2.1, ⟨fun h => ⟨upd_old (hz.out h).1, upd_old (hz.out h).2.1, upd_old (hz.out h).2.2⟩⟩⟩⟩
        · intro LL a wx hI hLk hd K' hK
          obtain ⟨u, hI⟩ := hI
          obtain rfl := hI.out.1
          rw [if_pos (by rfl)]
          go_simp
          exact hK.out _ _ ⟨(put1 u 11 (.pointer (some ⟨g, 0, none⟩))), ⟨rfl, hI.out.2.1, hI.out.2.2.1, hI.out.2.2.2.1, hI.out.2.2.2.2.1, hI.out.2.2.2.2.2.1, ⟨fun _ => rfl⟩, hI.out.2.2.2.2.2.2.2.1, hI.out.2.2.2.2.2.2.2.2.1, hI.out.2.2.2.2.2.2.2.2.2.1, hI.out.2.2.2.2.2.2.2.2.2.2.1, hI.out.2.2.2.2.2.2.2.2.2.2.2.1, hI.out.2.2.2.2.2.2.2.2.2.2.2.2.1, hI.out.2.2.2.2.2.2.2.2.2.2.2.2.2.1, hI.out.2.2.2.2.2.2.2.2.2.2.2.2.2.2.1, hI.out.2.2.2.2.2.2.2.2.2.2.2.2.2.2.2.1, hI.out.2.2.2.2.2.2.2.2.2.2.2.2.2.2.2.2.1, hI.out.2.2.2.2.2.2.2.2.2.2.2.2.2.2.2.2.2.1, hI.out.2.2.2.2.2.2.2.2.2.2.2.2.2.2.2.2.2.2.1, hI.out.2.2.2.2.2.2.2.2.2.2.2.2.2.2.2.2.2.2.2.1, hI.out.2.2.2.2.2.2.2.2.2.2.2.2.2.2.2.2.2.2.2.2.1, hI.out.2.2.2.2.2.2.2.2.2.2.2.2.2.2.2.2.2.2.2.2.2⟩⟩
        · intro LL a wx hI hLk hd K' hK
          obtain ⟨u, hI⟩ := hI
          obtain rfl := hI.out.1
          have e5 := hI.out.2.2.2.2.2.2.1.out (hd 5 rfl)
          rw [if_pos (by rfl)]
          go_simp
          exact hK.out _ _ ⟨(put1 (put1 u 11 (.pointer (some ⟨g, 0, none⟩))) 12 (.pointer (some ⟨g, 0, none⟩))), ⟨rfl, hI.out.2.1, hI.out.2.2.1, hI.out.2.2.2.1, hI.out.2.2.2.2.1, hI.out.2.2.2.2.2.1, ⟨fun _ => rfl⟩, ⟨fun _ => rfl⟩, hI.out.2.2.2.2.2.2.2.2.1, hI.out.2.2.2.2.2.2.2.2.2.1, hI.out.2.2.2.2.2.2.2.2.2.2.1, hI.out.2.2.2.2.2.2.2.2.2.2.2.1, hI.out.2.2.2.2.2.2.2.2.2.2.2.2.1, hI.out.2.2.2.2.2.2.2.2.2.2.2.2.2.1, hI.out.2.2.2.2.2.2.2.2.2.2.2.2.2.2.1, hI.out.2.2.2.2.2.2.2.2.2.2.2.2.2.2.2.1, hI.out.2.2.2.2.2.2.2.2.2.2.2.2.2.2.2.2.1, hI.out.2.2.2.2.2.2.2.2.2.2.2.2.2.2.2.2.2.1, hI.out.2.2.2.2.2.2.2.2.2.2.2.2.2.2.2.2.2.2.1, hI.out.2.2.2.2.2.2.2.2.2.2.2.2.2.2.2.2.2.2.2.1, hI.out.2.2.2.2.2.2.2.2.2.2.2.2.2.2.2.2.2.2.2.2.1, hI.out.2.2.2.2.2.2.2.2.2.2.2.2.2.2.2.2.2.2.2.2.2⟩⟩
        · intro LL a wx hI hLk hd K' hK
          obtain ⟨u, hI⟩ := hI
          obtain rfl := hI.out.1
          have e6 := hI.out.2.2.2.2.2.2.2.1.out (hd 6 rfl)
          rw [if_pos (by rfl)]
          go_simp
          exact hK.out _ _ ⟨(put1 (put1 u 12 (.pointer (some ⟨g, 0, none⟩))) 13 (.pointer (some ⟨g, 1, none⟩))), ⟨rfl, hI.out.2.1, hI.out.2.2.1, hI.out.2.2.2.1, hI.out.2.2.2.2.1, hI.out.2.2.2.2.2.1, hI.out.2.2.2.2.2.2.1, ⟨fun _ => rfl⟩, ⟨fun _ => rfl⟩, hI.out.2.2.2.2.2.2.2.2.2.1, hI.out.2.2.2.2.2.2.2.2.2.2.1, hI.out.2.2.2.2.2.2.2.2.2.2.2.1, hI.out.2.2.2.2.2.2.2.2.2.2.2.2.1, hI.out.2.2.2.2.2.2.2.2.2.2.2.2.2.1, hI.out.2.2.2.2.2.2.2.2.2.2.2.2.2.2.1, hI.out.2.2.2.2.2.2.2.2.2.2.2.2.2.2.2.1, hI.out.2.2.2.2.2.2.2.2.2.2.2.2.2.2.2.2.1, hI.out.2.2.2.2.2.2.2.2.2.2.2.2.2.2.2.2.2.1, hI.out.2.2.2.2.2.2.2.2.2.2.2.2.2.2.2.2.2.2.1, hI.out.2.2.2.2.2.2.2.2.2.2.2.2.2.2.2.2.2.2.2.1, hI.out.2.2.2.2.2.2.2.2.2.2.2.2.2.2.2.2.2.2.2.2.1, hI.out.2.2.2.2.2.2.2.2.2.2.2.2.2.2.2.2.2.2.2.2.2⟩⟩
        · intro LL a wx hI hLk hd K' hK
          obtain ⟨u, hI⟩ := hI
          obtain rfl := hI.out.1
          have e7 := hI.out.2.2.2.2.2.2.2.2.1.out (hd 7 rfl)
          have hb := hI.out.2.2.2.2.2.2.2.2.2.2.2.2.2.2.2.2.2.2.2.1
          have hz := hI.out.2.2.2.2.2.2.2.2.2.2.2.2.2.2.2.2.2.2.2.2.2
          have hb0 := hb.out (by cases h : LL 18 with | false => rfl | true => exact absurd ((hz.out h).2.1) (by rw [hLk]; decide))
          have d0 : wx.cell? ⟨g, 0, none⟩ = some (.slice Av bs.length cv) := cell_keep hb0 c0
          have d1 : wx.cell? ⟨g, 1, none⟩ = some (.int .i64 S) := cell_keep hb0 c1
          clear hb0
          rw [if_pos (by rfl)]
          go_simp
          exact hK.out _ _ ⟨(put1 (put1 u 13 (.pointer (some ⟨g, 1, none⟩))) 14 (.int .i64 S)), ⟨rfl, hI.out.2.1, hI.out.2.2.1, hI.out.2.2.2.1, hI.out.2.2.2.2.1, hI.out.2.2.2.2.2.1, hI.out.2.2.2.2.2.2.1, hI.out.2.2.2.2.2.2.2.1, ⟨fun _ => rfl⟩, ⟨fun _ => rfl⟩, hI.out.2.2.2.2.2.2.2.2.2.2.1, hI.out.2.2.2.2.2.2.2.2.2.2.2.1, hI.out.2.2.2.2.2.2.2.2.2.2.2.2.1, hI.out.2.2.2.2.2.2.2.2.2.2.2.2.2.1, hI.out.2.2.2.2.2.2.2.2.2.2.2.2.2.2.1, hI.out.2.2.2.2.2.2.2.2.2.2.2.2.2.2.2.1, hI.out.2.2.2.2.2.2.2.2.2.2.2.2.2.2.2.2.1, hI.out.2.2.2.2.2.2.2.2.2.2.2.2.2.2.2.2.2.1, hI.out.2.2.2.2.2.2.2.2.2.2.2.2.2.2.2.2.2.2.1, hI.out.2.2.2.2.2.2.2.2.2.2.2.2.2.2.2.2.2.2.2.1, hI.out.2.2.2.2.2.2.2.2.2.2.2.2.2.2.2.2.2.2.2.2.1, ⟨fun h => ⟨upd_old (hz.out h).1, upd_old (hz.out h).2.1, upd_old (hz.out h).2.2⟩⟩⟩⟩
        · intro LL a wx hI hLk hd K' hK
          obtain ⟨u, hI⟩ := hI
          obtain rfl := hI.out.1
          rw [if_pos (by rfl)]
          go_simp
          exact hK.out _ _ ⟨(put1 u 15 (.int .i64 keep)), ⟨rfl, hI.out.2.1, hI.out.2.2.1, hI.out.2.2.2.1, hI.out.2.2.2.2.1, hI.out.2.2.2.2.2.1, hI.out.2.2.2.2.2.2.1, hI.out.2.2.2.2.2.2.2.1, hI.out.2.2.2.2.2.2.2.2.1, hI.out.2.2.2.2.2.2.2.2.2.1, ⟨fun _ => rfl⟩, hI.out.2.2.2.2.2.2.2.2.2.2.2.1, hI.out.2.2.2.2.2.2.2.2.2.2.2.2.1, hI.out.2.2.2.2.2.2.2.2.2.2.2.2.2.1, hI.out.2.2.2.2.2.2.2.2.2.2.2.2.2.2.1, hI.out.2.2.2.2.2.2.2.2.2.2.2.2.2.2.2.1, hI.out.2.2.2.2.2.2.2.2.2.2.2.2.2.2.2.2.1, hI.out.2.2.2.2.2.2.2.2.2.2.2.2.2.2.2.2.2.1, hI.out.2.2.2.2.2.2.2.2.2.2.2.2.2.2.2.2.2.2.1, hI.out.2.2.2.2.2.2.2.2.2.2.2.2.2.2.2.2.2.2.2.1, hI.out.2.2.2.2.2.2.2.2.2.2.2.2.2.2.2.2.2.2.2.2.1, hI.out.2.2.2.2.2.2.2.2.2.2.2.2.2.2.2.2.2.2.2.2.2⟩⟩
        · intro LL a wx hI hLk hd K' hK
          obtain ⟨u, hI⟩ := hI
          obtain rfl := hI.out.1
          have e9 := hI.out.2.2.2.2.2.2.2.2.2.2.1.out (hd 9 rfl)
          rw [if_pos (by rfl)]
          go_simp
          exact hK.out _ _ ⟨(put1 (put1 u 15 (.int .i64 keep)) 16 (.int .i64 keep)), ⟨rfl, hI.out.2.1, hI.out.2.2.1, hI.out.2.2.2.1, hI.out.2.2.2.2.1, hI.out.2.2.2.2.2.1, hI.out.2.2.2.2.2.2.1, hI.out.2.2.2.2.2.2.2.1, hI.out.2.2.2.2.2.2.2.2.1, hI.out.2.2.2.2.2.2.2.2.2.1, ⟨fun _ => rfl⟩, ⟨fun _ => rfl⟩, hI.out.2.2.2.2.2.2.2.2.2.2.2.2.1, hI.out.2.2.2.2.2.2.2.2.2.2.2.2.2.1, hI.out.2.2.2.2.2.2.2.2.2.2.2.2.2.2.1, hI.out.2.2.2.2.2.2.2.2.2.2.2.2.2.2.2.1, hI.out.2.2.2.2.2.2.2.2.2.2.2.2.2.2.2.2.1, hI.out.2.2.2.2.2.2.2.2.2.2.2.2.2.2.2.2.2.1, hI.out.2.2.2.2.2.2.2.2.2.2.2.2.2.2.2.2.2.2.1, hI.out.2.2.2.2.2.2.2.2.2.2.2.2.2.2.2.2.2.2.2.1, hI.out.2.2.2.2.2.2.2.2.2.2.2.2.2.2.2.2.2.2.2.2.1, hI.out.2.2.2.2.2.2.2.2.2.2.2.2.2.2.2.2.2.2.2.2.2⟩⟩
        · intro LL a wx hI hLk hd K' hK
          obtain ⟨u, hI⟩ := hI
          obtain rfl := hI.out.1
          rw [if_pos (by rfl)]
          go_simp
          exact hK.out _ _ ⟨(put1 u 17 (.pointer (some ⟨g, 0, none⟩))), ⟨rfl, hI.out.2.1, hI.out.2.2.1, hI.out.2.2.2.1, hI.out.2.2.2.2.1, hI.out.2.2.2.2.2.1, hI.out.2.2.2.2.2.2.1, hI.out.2.2.2.2.2.2.2.1, hI.out.2.2.2.2.2.2.2.2.1, hI.out.2.2.2.2.2.2.2.2.2.1, hI.out.2.2.2.2.2.2.2.2.2.2.1, hI.out.2.2.2.2.2.2.2.2.2.2.2.1, ⟨fun _ => rfl⟩, hI.out.2.2.2.2.2.2.2.2.2.2.2.2.2.1, hI.out.2.2.2.2.2.2.2.2.2.2.2.2.2.2.1, hI.out.2.2.2.2.2.2.2.2.2.2.2.2.2.2.2.1, hI.out.2.2.2.2.2.2.2.2.2.2.2.2.2.2.2.2.1, hI.out.2.2.2.2.2.2.2.2.2.2.2.2.2.2.2.2.2.1, hI.out.2.2.2.2.2.2.2.2.2.2.2.2.2.2.2.2.2.2.1, hI.out.2.2.2.2.2.2.2.2.2.2.2.2.2.2.2.2.2.2.2.1, hI.out.2.2.2.2.2.2.2.2.2.2.2.2.2.2.2.2.2.2.2.2.1, hI.out.2.2.2.2.2.2.2.2.2.2.2.2.2.2.2.2.2.2.2.2.2⟩⟩
        · intro LL a wx hI hLk hd K' hK
          obtain ⟨u, hI⟩ := hI
          obtain rfl := hI.out.1
          have e11 := hI.out.2.2.2.2.2.2.2.2.2.2.2.2.1.out (hd 11 rfl)
          have hb := hI.out.2.2.2.2.2.2.2.2.2.2.2.2.2.2.2.2.2.2.2.1
          have hz := hI.out.2.2.2.2.2.2.2.2.2.2.2.2.2.2.2.2.2.2.2.2.2
          have hb0 := hb.out (by cases h : LL 18 with | false => rfl | true => exact absurd ((hz.out h).2.2) (by rw [hLk]; decide))
          rw [if_pos (by rfl)]
          go_simp
          go_at_call 15
          refine (F.out _ hb0).mono ?_
          rintro z w1 ⟨rfl, hb1⟩
          exact hK.out _ _ ⟨(put1 (put1 u 17 (.pointer (some ⟨g, 0, none⟩))) 18 (.int .i64 x)), ⟨rfl, hI.out.2.1, hI.out.2.2.1, hI.out.2.2.2.1, hI.out.2.2.2.2.1, hI.out.2.2.2.2.2.1, hI.out.2.2.2.2.2.2.1, hI.out.2.2.2.2.2.2.2.1, hI.out.2.2.2.2.2.2.2.2.1, hI.out.2.2.2.2.2.2.2.2.2.1, hI.out.2.2.2.2.2.2.2.2.2.2.1, hI.out.2.2.2.2.2.2.2.2.2.2.2.1, ⟨fun _ => rfl⟩, ⟨fun _ => rfl⟩, hI.out.2.2.2.2.2.2.2.2.2.2.2.2.2.2.1, hI.out.2.2.2.2.2.2.2.2.2.2.2.2.2.2.2.1, hI.out.2.2.2.2.2.2.2.2.2.2.2.2.2.2.2.2.1, hI.out.2.2.2.2.2.2.2.2.2.2.2.2.2.2.2.2.2.1, hI.out.2.2.2.2.2.2.2.2.2.2.2.2.2.2.2.2.2.2.1, ⟨fun _ => below_step hb0 hb1⟩, ⟨fun h => absurd (hz.out h).2.2 (by rw [hLk]; decide)⟩, ⟨fun h => ⟨upd_old (hz.out h).1, upd_old (hz.out h).2.1, upd_old (hz.out h).2.2⟩⟩⟩⟩
        · intro LL a wx hI hLk hd K' hK
          obtain ⟨u, hI⟩ := hI
          obtain rfl := hI.out.1
          have e10 := hI.out.2.2.2.2.2.2.2.2.2.2.2.1.out (hd 10 rfl)
          have e12 := hI.out.2.2.2.2.2.2.2.2.2.2.2.2.2.1.out (hd 12 rfl)
          rw [if_pos (by rfl)]
          go_simp
          exact hK.out _ _ ⟨(put1 (put1 (put1 u 16 (.int .i64 keep)) 18 (.int .i64 x)) 19 (.int .i64 x)), ⟨rfl, hI.out.2.1, hI.out.2.2.1, hI.out.2.2.2.1, hI.out.2.2.2.2.1, hI.out.2.2.2.2.2.1, hI.out.2.2.2.2.2.2.1, hI.out.2.2.2.2.2.2.2.1, hI.out.2.2.2.2.2.2.2.2.1, hI.out.2.2.2.2.2.2.2.2.2.1, hI.out.2.2.2.2.2.2.2.2.2.2.1, ⟨fun _ => rfl⟩, hI.out.2.2.2.2.2.2.2.2.2.2.2.2.1, ⟨fun _ => rfl⟩, ⟨fun _ => rfl⟩, hI.out.2.2.2.2.2.2.2.2.2.2.2.2.2.2.2.1, hI.out.2.2.2.2.2.2.2.2.2.2.2.2.2.2.2.2.1, hI.out.2.2.2.2.2.2.2.2.2.2.2.2.2.2.2.2.2.1, hI.out.2.2.2.2.2.2.2.2.2.2.2.2.2.2.2.2.2.2.1, hI.out.2.2.2.2.2.2.2.2.2.2.2.2.2.2.2.2.2.2.2.1, hI.out.2.2.2.2.2.2.2.2.2.2.2.2.2.2.2.2.2.2.2.2.1, hI.out.2.2.2.2.2.2.2.2.2.2.2.2.2.2.2.2.2.2.2.2.2⟩⟩
        · intro LL a wx hI hLk hd K' hK
          obtain ⟨u, hI⟩ := hI
          obtain rfl := hI.out.1
          have e8 := hI.out.2.2.2.2.2.2.2.2.2.1.out (hd 8 rfl)
          have e13 := hI.out.2.2.2.2.2.2.2.2.2.2.2.2.2.2.1.out (hd 13 rfl)
          rw [if_pos (by rfl)]
          go_simp
          exact hK.out _ _ ⟨(put1 (put1 (put1 u 14 (.int .i64 S)) 19 (.int .i64 x)) 20 (.int .i64 J)), ⟨rfl, hI.out.2.1, hI.out.2.2.1, hI.out.2.2.2.1, hI.out.2.2.2.2.1, hI.out.2.2.2.2.2.1, hI.out.2.2.2.2.2.2.1, hI.out.2.2.2.2.2.2.2.1, hI.out.2.2.2.2.2.2.2.2.1, ⟨fun _ => rfl⟩, hI.out.2.2.2.2.2.2.2.2.2.2.1, hI.out.2.2.2.2.2.2.2.2.2.2.2.1, hI.out.2.2.2.2.2.2.2.2.2.2.2.2.1, hI.out.2.2.2.2.2.2.2.2.2.2.2.2.2.1, ⟨fun _ => rfl⟩, ⟨fun _ => rfl⟩, hI.out.2.2.2.2.2.2.2.2.2.2.2.2.2.2.2.2.1, hI.out.2.2.2.2.2.2.2.2.2.2.2.2.2.2.2.2.2.1, hI.out.2.2.2.2.2.2.2.2.2.2.2.2.2.2.2.2.2.2.1, hI.out.2.2.2.2.2.2.2.2.2.2.2.2.2.2.2.2.2.2.2.1, hI.out.2.2.2.2.2.2.2.2.2.2.2.2.2.2.2.2.2.2.2.2.1, hI.out.2.2.2.2.2.2.2.2.2.2.2.2.2.2.2.2.2.2.2.2.2⟩⟩
        · intro LL a wx hI hLk hd K' hK
          obtain ⟨u, hI⟩ := hI
          obtain rfl := hI.out.1
          have e4 := hI.out.2.2.2.2.2.1.out (hd 4 rfl)
          have e14 := hI.out.2.2.2.2.2.2.2.2.2.2.2.2.2.2.2.1.out (hd 14 rfl)
          rw [if_pos (by rfl)]
          go_simp
          exact hK.out _ _ ⟨(put1 (put1 (put1 u 10 (.slice Av bs.length cv)) 20 (.int .i64 J)) 21 (.slice Av J.toNat cv)), ⟨rfl, hI.out.2.1, hI.out.2.2.1, hI.out.2.2.2.1, hI.out.2.2.2.2.1, ⟨fun _ => rfl⟩, hI.out.2.2.2.2.2.2.1, hI.out.2.2.2.2.2.2.2.1, hI.out.2.2.2.2.2.2.2.2.1, hI.out.2.2.2.2.2.2.2.2.2.1, hI.out.2.2.2.2.2.2.2.2.2.2.1, hI.out.2.2.2.2.2.2.2.2.2.2.2.1, hI.out.2.2.2.2.2.2.2.2.2.2.2.2.1, hI.out.2.2.2.2.2.2.2.2.2.2.2.2.2.1, hI.out.2.2.2.2.2.2.2.2.2.2.2.2.2.2.1, ⟨fun _ => rfl⟩, ⟨fun _ => rfl⟩, hI.out.2.2.2.2.2.2.2.2.2.2.2.2.2.2.2.2.2.1, hI.out.2.2.2.2.2.2.2.2.2.2.2.2.2.2.2.2.2.2.1, hI.out.2.2.2.2.2.2.2.2.2.2.2.2.2.2.2.2.2.2.2.1, hI.out.2.2.2.2.2.2.2.2.2.2.2.2.2.2.2.2.2.2.2.2.1, hI.out.2.2.2.2.2.2.2.2.2.2.2.2.2.2.2.2.2.2.2.2.2⟩⟩
        · intro LL a wx hI hLk hd K' hK
          obtain ⟨u, hI⟩ := hI
          obtain rfl := hI.out.1
          have e0 := hI.out.2.1.out (hd 0 rfl)
          rw [if_pos (by rfl)]
          go_simp
          exact hK.out _ _ ⟨(put1 (put1 u 6 (.pointer (some ⟨g, 0, none⟩))) 22 (.pointer (some ⟨g, 0, none⟩))), ⟨rfl, ⟨fun _ => rfl⟩, hI.out.2.2.1, hI.out.2.2.2.1, hI.out.2.2.2.2.1, hI.out.2.2.2.2.2.1, hI.out.2.2.2.2.2.2.1, hI.out.2.2.2.2.2.2.2.1, hI.out.2.2.2.2.2.2.2.2.1, hI.out.2.2.2.2.2.2.2.2.2.1, hI.out.2.2.2.2.2.2.2.2.2.2.1, hI.out.2.2.2.2.2.2.2.2.2.2.2.1, hI.out.2.2.2.2.2.2.2.2.2.2.2.2.1, hI.out.2.2.2.2.2.2.2.2.2.2.2.2.2.1, hI.out.2.2.2.2.2.2.2.2.2.2.2.2.2.2.1, hI.out.2.2.2.2.2.2.2.2.2.2.2.2.2.2.2.1, hI.out.2.2.2.2.2.2.2.2.2.2.2.2.2.2.2.2.1, ⟨fun _ => rfl⟩, hI.out.2.2.2.2.2.2.2.2.2.2.2.2.2.2.2.2.2.2.1, hI.out.2.2.2.2.2.2.2.2.2.2.2.2.2.2.2.2.2.2.2.1, hI.out.2.2.2.2.2.2.2.2.2.2.2.2.2.2.2.2.2.2.2.2.1, hI.out.2.2.2.2.2.2.2.2.2.2.2.2.2.2.2.2.2.2.2.2.2⟩⟩
        · intro LL a wx hI hLk hd K' hK
          obtain ⟨u, hI⟩ := hI
          obtain rfl := hI.out.1
          have e16 := hI.out.2.2.2.2.2.2.2.2.2.2.2.2.2.2.2.2.2.1.out (hd 16 rfl)
          rw [if_pos (by rfl)]
          go_simp
          exact hK.out _ _ ⟨(put1 (put1 u 22 (.pointer (some ⟨g, 0, none⟩))) 23 (.pointer (some ⟨g, 0, none⟩))), ⟨rfl, hI.out.2.1, hI.out.2.2.1, hI.out.2.2.2.1, hI.out.2.2.2.2.1, hI.out.2.2.2.2.2.1, hI.out.2.2.2.2.2.2.1, hI.out.2.2.2.2.2.2.2.1, hI.out.2.2.2.2.2.2.2.2.1, hI.out.2.2.2.2.2.2.2.2.2.1, hI.out.2.2.2.2.2.2.2.2.2.2.1, hI.out.2.2.2.2.2.2.2.2.2.2.2.1, hI.out.2.2.2.2.2.2.2.2.2.2.2.2.1, hI.out.2.2.2.2.2.2.2.2.2.2.2.2.2.1, hI.out.2.2.2.2.2.2.2.2.2.2.2.2.2.2.1, hI.out.2.2.2.2.2.2.2.2.2.2.2.2.2.2.2.1, hI.out.2.2.2.2.2.2.2.2.2.2.2.2.2.2.2.2.1, ⟨fun _ => rfl⟩, ⟨fun _ => rfl⟩, hI.out.2.2.2.2.2.2.2.2.2.2.2.2.2.2.2.2.2.2.2.1, hI.out.2.2.2.2.2.2.2.2.2.2.2.2.2.2.2.2.2.2.2.2.1, hI.out.2.2.2.2.2.2.2.2.2.2.2.2.2.2.2.2.2.2.2.2.2⟩⟩
        · intro LL a wx hI hLk hd K' hK
          obtain ⟨u, hI⟩ := hI
          obtain rfl := hI.out.1
          have e17 := hI.out.2.2.2.2.2.2.2.2.2.2.2.2.2.2.2.2.2.2.1.out (hd 17 rfl)
          have e15 := hI.out.2.2.2.2.2.2.2.2.2.2.2.2.2.2.2.2.1.out (hd 15 rfl)
          have hb := hI.out.2.2.2.2.2.2.2.2.2.2.2.2.2.2.2.2.2.2.2.1
          have hb0 := hb.out hLk
          have d0 : wx.cell? ⟨g, 0, none⟩ = some (.slice Av bs.length cv) := cell_keep hb0 c0
          have e0 := blk_frozen (blk_below HX.out.1 hb0) 0
          rw [if_pos (by rfl)]
          go_simp
          exact hK.out _ _ ⟨(put1 (put1 u 23 (.pointer (some ⟨g, 0, none⟩))) 21 (.slice Av J.toNat cv)), ⟨rfl, hI.out.2.1, hI.out.2.2.1, hI.out.2.2.2.1, hI.out.2.2.2.2.1, hI.out.2.2.2.2.2.1, hI.out.2.2.2.2.2.2.1, hI.out.2.2.2.2.2.2.2.1, hI.out.2.2.2.2.2.2.2.2.1, hI.out.2.2.2.2.2.2.2.2.2.1, hI.out.2.2.2.2.2.2.2.2.2.2.1, hI.out.2.2.2.2.2.2.2.2.2.2.2.1, hI.out.2.2.2.2.2.2.2.2.2.2.2.2.1, hI.out.2.2.2.2.2.2.2.2.2.2.2.2.2.1, hI.out.2.2.2.2.2.2.2.2.2.2.2.2.2.2.1, hI.out.2.2.2.2.2.2.2.2.2.2.2.2.2.2.2.1, ⟨fun _ => rfl⟩, hI.out.2.2.2.2.2.2.2.2.2.2.2.2.2.2.2.2.2.1, ⟨fun _ => rfl⟩, ⟨fun h => Bool.noConfusion (show true = false from h)⟩, ⟨fun _ => ⟨wx, hb0, rfl⟩⟩, ⟨fun _ => ⟨hd 4 rfl, hd 8 rfl, hd 12 rfl⟩⟩⟩⟩
      · intro LL a wx hall hI
        obtain ⟨u, hI⟩ := hI
        obtain rfl := hI.out.1
        have hb := hI.out.2.2.2.2.2.2.2.2.2.2.2.2.2.2.2.2.2.2.2.1
        have hs := hI.out.2.2.2.2.2.2.2.2.2.2.2.2.2.2.2.2.2.2.2.2.1
        have hz := hI.out.2.2.2.2.2.2.2.2.2.2.2.2.2.2.2.2.2.2.2.2.2
        have e0 := hI.out.2.1.out (hall 0 (by decide))
        obtain ⟨w1, hb1, rfl⟩ := hs.out (hall 18 (by decide))
        have d0 : w1.cell? ⟨g, 0, none⟩ = some (.slice Av bs.length cv) := cell_keep hb1 c0
        have d1 : w1.cell? ⟨g, 1, none⟩ = some (.int .i64 S) := cell_keep hb1 c1
        have e0 := blk_frozen (blk_below HX.out.1 hb1) 0
        have e1 := blk_frozen (blk_below HX.out.1 hb1) 1
        have HB := Aside0.mk hb1
        clear hb hs hz hb1 hI
        go_wp2
        refine bodyPost_end (results_none rfl _ _ _) rfl ?_
        obtain ⟨h0, hJ, hk⟩ := HK.out
        rw [show max J 0 = ((J.toNat : Nat) : Int) by omega]
        exact ⟨rfl, HX.out.2 J w1 h0 hJ hk HB.out⟩
    · have hw2 : IntKind.i64.wrap (S + x) = J := by rw [← hJe]; exact hwx
      have hl0 : (x < 0) = False := eq_false hk
      have hl1 : (L < x) = False := eq_false hm
      clear hL hS hJe hxL hL0 hx0 hwx hk hm
      go_enter Try.func16, Try.ntmps16
      go_wp2
      refine wp_region_steps 19 rfl rfl (by kernel_rfl) (fun LL a wx => ∃ u : Nat → Value, Aside0 (a = { tmps := List.toArray (.pointer (some ⟨g, 0, none⟩) :: .int .i64 x :: undef :: undef :: .pointer (some ⟨g, 0, none⟩) :: .bool true :: u 6 :: u 7 :: u 8 :: u 9 :: u 10 :: u 11 :: u 12 :: u 13 :: u 14 :: u 15 :: u 16 :: u 17 :: u 18 :: u 19 :: u 20 :: u 21 :: u 22 :: u 23 :: undef :: undef :: undef :: undef :: undef :: undef :: undef :: undef :: []), defers := [] } ∧ Aside0 (LL 0 = true → u 6 = .pointer (some ⟨g, 0, none⟩)) ∧ Aside0 (LL 1 = true → u 7 = .pointer (some ⟨g, 0, none⟩)) ∧ Aside0 (LL 2 = true → u 8 = .pointer (some ⟨g, 0, none⟩)) ∧ Aside0 (LL 3 = true → u 9 = .pointer (some ⟨g, 0, none⟩)) ∧ Aside0 (LL 4 = true → u 10 = .slice Av bs.length cv) ∧ Aside0 (LL 5 = true → u 11 = .pointer (some ⟨g, 0, none⟩)) ∧ Aside0 (LL 6 = true → u 12 = .pointer (some ⟨g, 0, none⟩)) ∧ Aside0 (LL 7 = true → u 13 = .pointer (some ⟨g, 1, none⟩)) ∧ Aside0 (LL 8 = true → u 14 = .int .i64 S) ∧ Aside0 (LL 9 = true → u 15 = .int .i64 x) ∧ Aside0 (LL 10 = true → u 16 = .int .i64 x) ∧ Aside0 (LL 11 = true → u 17 = .pointer (some ⟨g, 0, none⟩)) ∧ Aside0 (LL 12 = true → u 18 = .int .i64 L) ∧ Aside0 (LL 13 = true → u 19 = .int .i64 x) ∧ Aside0 (LL 14 = true → u 20 = .int .i64 J) ∧ Aside0 (LL 15 = true → u 21 = .slice Av J.toNat cv) ∧ Aside0 (LL 16 = true → u 22 = .pointer (some ⟨g, 0, none⟩)) ∧ Aside0 (LL 17 = true → u 23 = .pointer (some ⟨g, 0, none⟩)) ∧ Aside0 (LL 18 = false → Below w.heap.size w wx) ∧ Aside0 (LL 18 = true → ∃ w1, Below w.heap.size w w1 ∧ wx = w1.setCell ⟨g, 0, none⟩ (.slice Av J.toNat cv)) ∧ Aside0 (LL 18 = true → LL 4 = true ∧ LL 8 = true ∧ LL 12 = true))) ?_ ?_ ?_
      · exact ⟨fun _ => undef, ⟨rfl, ⟨fun h => absurd h (by decide)⟩, ⟨fun h => absurd h (by decide)⟩, ⟨fun h => absurd h (by decide)⟩, ⟨fun h => absurd h (by decide)⟩, ⟨fun h => absurd h (by decide)⟩, ⟨fun h => absurd h (by decide)⟩, ⟨fun h => absurd h (by decide)⟩, ⟨fun h => absurd h (by decide)⟩, ⟨fun h => absurd h (by decide)⟩, ⟨fun h => absurd h (by decide)⟩, ⟨fun h => absurd h (by decide)⟩, ⟨fun h => absurd h (by decide)⟩, ⟨fun h => absurd h (by decide)⟩, ⟨fun h => absurd h (by decide)⟩, ⟨fun h => absurd h (by decide)⟩, ⟨fun h => absurd h (by decide)⟩, ⟨fun h => absurd h (by decide)⟩, ⟨fun h => absurd h (by decide)⟩, ⟨fun _ => below_drew (Below.refl _ _)⟩, ⟨fun h => absurd h (by decide)⟩, ⟨fun h => absurd h (by decide)⟩⟩⟩
      · refine Steps.cons ?_ (Steps.cons ?_ (Steps.cons ?_ (Steps.cons ?_ (Steps.cons ?_ (Steps.cons ?_ (Steps.cons ?_ (Steps.cons ?_ (Steps.cons ?_ (Steps.cons ?_ (Steps.cons ?_ (Steps.cons ?_ (Steps.cons ?_ (Steps.cons ?_ (Steps.cons ?_ (Steps.cons ?_ (Steps.cons ?_ (Steps.cons ?_ (Steps.cons ?_ (Steps.nil)))))))))))))))))))
        · intro LL a wx hI hLk hd K' hK
          obtain ⟨u, hI⟩ := hI
          obtain rfl := hI.out.1
          rw [if_pos (by rfl)]
          go_simp
          exact hK.out _ _ ⟨(put1 u 6 (.pointer (some ⟨g, 0, none⟩))), ⟨rfl, ⟨fun _ => rfl⟩, hI.out.2.2.1, hI.out.2.2.2.1, hI.out.2.2.2.2.1, hI.out.2.2.2.2.2.1, hI.out.2.2.2.2.2.2.1, hI.out.2.2.2.2.2.2.2.1, hI.out.2.2.2.2.2.2.2.2.1, hI.out.2.2.2.2.2.2.2.2.2.1, hI.out.2.2.2.2.2.2.2.2.2.2.1, hI.out.2.2.2.2.2.2.2.2.2.2.2.1, hI.out.2.2.2.2.2.2.2.2.2.2.2.2.1, hI.out.2.2.2.2.2.2.2.2.2.2.2.2.2.1, hI.out.2.2.2.2.2.2.2.2.2.2.2.2.2.2.1, hI.out.2.2.2.2.2.2.2.2.2.2.2.2.2.2.2.1, hI.out.2.2.2.2.2.2.2.2.2.2.2.2.2.2.2.2.1, hI.out.2.2.2.2.2.2.2.2.2.2.2.2.2.2.2.2.2.1, hI.out.2.2.2.2.2.2.2.2.2.2.2.2.2.2.2.2.2.2.1, hI.out.2.2.2.2.2.2.2.2.2.2.2.2.2.2.2.2.2.2.2.1, hI.out.2.2.2.2.2.2.2.2.2.2.2.2.2.2.2.2.2.2.2.2.1, hI.out.2.2.2.2.2.2.2.2.2.2.2.2.2.2.2.2.2.2.2.2.2⟩⟩
        · intro LL a wx hI hLk hd K' hK
          obtain ⟨u, hI⟩ := hI
          obtain rfl := hI.out.1
          rw [if_pos (by rfl)]
          go_simp
          exact hK.out _ _ ⟨(put1 u 7 (.pointer (some ⟨g, 0, none⟩))), ⟨rfl, hI.out.2.1, ⟨fun _ => rfl⟩, hI.out.2.2.2.1, hI.out.2.2.2.2.1, hI.out.2.2.2.2.2.1, hI.out.2.2.2.2.2.2.1, hI.out.2.2.2.2.2.2.2.1, hI.out.2.2.2.2.2.2.2.2.1, hI.out.2.2.2.2.2.2.2.2.2.1, hI.out.2.2.2.2.2.2.2.2.2.2.1, hI.out.2.2.2.2.2.2.2.2.2.2.2.1, hI.out.2.2.2.2.2.2.2.2.2.2.2.2.1, hI.out.2.2.2.2.2.2.2.2.2.2.2.2.2.1, hI.out.2.2.2.2.2.2.2.2.2.2.2.2.2.2.1, hI.out.2.2.2.2.2.2.2.2.2.2.2.2.2.2.2.1, hI.out.2.2.2.2.2.2.2.2.2.2.2.2.2.2.2.2.1, hI.out.2.2.2.2.2.2.2.2.2.2.2.2.2.2.2.2.2.1, hI.out.2.2.2.2.2.2.2.2.2.2.2.2.2.2.2.2.2.2.1, hI.out.2.2.2.2.2.2.2.2.2.2.2.2.2.2.2.2.2.2.2.1, hI.out.2.2.2.2.2.2.2.2.2.2.2.2.2.2.2.2.2.2.2.2.1, hI.out.2.2.2.2.2.2.2.2.2.2.2.2.2.2.2.2.2.2.2.2.2⟩⟩
        · intro LL a wx hI hLk hd K' hK
          obtain ⟨u, hI⟩ := hI
          obtain rfl := hI.out.1
          have e1 := hI.out.2.2.1.out (hd 1 rfl)
          rw [if_pos (by rfl)]
          go_simp
          exact hK.out _ _ ⟨(put1 (put1 u 7 (.pointer (some ⟨g, 0, none⟩))) 8 (.pointer (some ⟨g, 0, none⟩))), ⟨rfl, hI.out.2.1, ⟨fun _ => rfl⟩, ⟨fun _ => rfl⟩, hI.out.2.2.2.2.1, hI.out.2.2.2.2.2.1, hI.out.2.2.2.2.2.2.1, hI.out.2.2.2.2.2.2.2.1, hI.out.2.2.2.2.2.2.2.2.1, hI.out.2.2.2.2.2.2.2.2.2.1, hI.out.2.2.2.2.2.2.2.2.2.2.1, hI.out.2.2.2.2.2.2.2.2.2.2.2.1, hI.out.2.2.2.2.2.2.2.2.2.2.2.2.1, hI.out.2.2.2.2.2.2.2.2.2.2.2.2.2.1, hI.out.2.2.2.2.2.2.2.2.2.2.2.2.2.2.1, hI.out.2.2.2.2.2.2.2.2.2.2.2.2.2.2.2.1, hI.out.2.2.2.2.2.2.2.2.2.2.2.2.2.2.2.2.1, hI.out.2.2.2.2.2.2.2.2.2.2.2.2.2.2.2.2.2.1, hI.out.2.2.2.2.2.2.2.2.2.2.2.2.2.2.2.2.2.2.1, hI.out.2.2.2.2.2.2.2.2.2.2.2.2.2.2.2.2.2.2.2.1, hI.out.2.2.2.2.2.2.2.2.2.2.2.2.2.2.2.2.2.2.2.2.1, hI.out.2.2.2.2.2.2.2.2.2.2.2.2.2.2.2.2.2.2.2.2.2⟩⟩
        · intro LL a wx hI hLk hd K' hK
          obtain ⟨u, hI⟩ := hI
          obtain rfl := hI.out.1
          have e2 := hI.out.2.2.2.1.out (hd 2 rfl)
          rw [if_pos (by rfl)]
          go_simp
          exact hK.out _ _ ⟨(put1 (put1 u 8 (.pointer (some ⟨g, 0, none⟩))) 9 (.pointer (some ⟨g, 0, none⟩))), ⟨rfl, hI.out.2.1, hI.out.2.2.1, ⟨fun _ => rfl⟩, ⟨fun _ => rfl⟩, hI.out.2.2.2.2.2.1, hI.out.2.2.2.2.2.2.1, hI.out.2.2.2.2.2.2.2.1, hI.out.2.2.2.2.2.2.2.2.1, hI.out.2.2.2.2.2.2.2.2.2.1, hI.out.2.2.2.2.2.2.2.2.2.2.1, hI.out.2.2.2.2.2.2.2.2.2.2.2.1, hI.out.2.2.2.2.2.2.2.2.2.2.2.2.1, hI.out.2.2.2.2.2.2.2.2.2.2.2.2.2.1, hI.out.2.2.2.2.2.2.2.2.2.2.2.2.2.2.1, hI.out.2.2.2.2.2.2.2.2.2.2.2.2.2.2.2.1, hI.out.2.2.2.2.2.2.2.2.2.2.2.2.2.2.2.2.1, hI.out.2.2.2.2.2.2.2.2.2.2.2.2.2.2.2.2.2.1, hI.out.2.2.2.2.2.2.2.2.2.2.2.2.2.2.2.2.2.2.1, hI.out.2.2.2.2.2.2.2.2.2.2.2.2.2.2.2.2.2.2.2.1, hI.out.2.2.2.2.2.2.2.2.2.2.2.2.2.2.2.2.2.2.2.2.1, hI.out.2.2.2.2.2.2.2.2.2.2.2.2.2.2.2.2.2.2.2.2.2⟩⟩
        · intro LL a wx hI hLk hd K' hK
          obtain ⟨u, hI⟩ := hI
          obtain rfl := hI.out.1
          have e3 := hI.out.2.2.2.2.1.out (hd 3 rfl)
          have hb := hI.out.2.2.2.2.2.2.2.2.2.2.2.2.2.2.2.2.2.2.2.1
          have hz := hI.out.2.2.2.2.2.2.2.2.2.2.2.2.2.2.2.2.2.2.2.2.2
          have hb0 := hb.out (by cases h : LL 18 with | false => rfl | true => exact absurd ((hz.out h).1) (by rw [hLk]; decide))
          have d0 : wx.cell? ⟨g, 0, none⟩ = some (.slice Av bs.length cv) := cell_keep hb0 c0
          have d1 : wx.cell? ⟨g, 1, none⟩ = some (.int .i64 S) := cell_keep hb0 c1
          clear hb0
          rw [if_pos (by rfl)]
          go_simp
          exact hK.out _ _ ⟨(put1 (put1 u 9 (.pointer (some ⟨g, 0, none⟩))) 10 (.slice Av bs.length cv)), ⟨rfl, hI.out.2.1, hI.out.2.2.1, hI.out.2.2.2.1, ⟨fun _ => rfl⟩, ⟨fun _ => rfl⟩, hI.out.2.2.2.2.2.2.1, hI.out.2.2.2.2.2.2.2.1, hI.out.2.2.2.2.2.2.2.2.1, hI.out.2.2.2.2.2.2.2.2.2.1, hI.out.2.2.2.2.2.2.2.2.2.2.1, hI.out.2.2.2.2.2.2.2.2.2.2.2.1, hI.out.2.2.2.2.2.2.2.2.2.2.2.2.1, hI.out.2.2.2.2.2.2.2.2.2.2.2.2.2.1, hI.out.2.2.2.2.2.2.2.2.2.2.2.2.2.2.1, hI.out.2.2.2.2.2.2.2.2.2.2.2.2.2.2.2.1, hI.out.2.2.2.2.2.2.2.2.2.2.2.2.2.2.2.2.1, hI.out.2.2.2.2.2.2.2.2.2.2.2.2.2.2.2.2.2.1, hI.out.2.2.2.2.2.2.2.2.2.2.2.2.2.2.2.2.2.2.1, hI.out.2.2.2.2.2.2.2.2.2.2.2.2.2.2.2.2.2.2.2.1, hI.out.2.2.2.2.2.2.2.2.2.2.2.2.2.2.2.2.2.2.2.2.1, ⟨fun h => ⟨upd_old (hz.out h).1, upd_old (hz.out h).2.1, upd_old (hz.out h).2.2⟩⟩⟩⟩
        · intro LL a wx hI hLk hd K' hK
          obtain ⟨u, hI⟩ := hI
          obtain rfl := hI.out.1
          rw [if_pos (by rfl)]
          go_simp
          exact hK.out _ _ ⟨(put1 u 11 (.pointer (some ⟨g, 0, none⟩))), ⟨rfl, hI.out.2.1, hI.out.2.2.1, hI.out.2.2.2.1, hI.out.2.2.2.2.1, hI.out.2.2.2.2.2.1, ⟨fun _ => rfl⟩, hI.out.2.2.2.2.2.2.2.1, hI.out.2.2.2.2.2.2.2.2.1, hI.out.2.2.2.2.2.2.2.2.2.1, hI.out.2.2.2.2.2.2.2.2.2.2.1, hI.out.2.2.2.2.2.2.2.2.2.2.2.1, hI.out.2.2.2.2.2.2.2.2.2.2.2.2.1, hI.out.2.2.2.2.2.2.2.2.2.2.2.2.2.1, hI.out.2.2.2.2.2.2.2.2.2.2.2.2.2.2.1, hI.out.2.2.2.2.2.2.2.2.2.2.2.2.2.2.2.1, hI.out.2.2.2.2.2.2.2.2.2.2.2.2.2.2.2.2.1, hI.out.2.2.2.2.2.2.2.2.2.2.2.2.2.2.2.2.2.1, hI.out.2.2.2.2.2.2.2.2.2.2.2.2.2.2.2.2.2.2.1, hI.out.2.2.2.2.2.2.2.2.2.2.2.2.2.2.2.2.2.2.2.1, hI.out.2.2.2.2.2.2.2.2.2.2.2.2.2.2.2.2.2.2.2.2.1, hI.out.2.2.2.2.2.2.2.2.2.2.2.2.2.2.2.2.2.2.2.2.2⟩⟩
        · intro LL a wx hI hLk hd K' hK
          obtain ⟨u, hI⟩ := hI
          obtain rfl := hI.out.1
          have e5 := hI.out.2.2.2.2.2.2.1.out (hd 5 rfl)
          rw [if_pos (by rfl)]
          go_simp
          exact hK.out _ _ ⟨(put1 (put1 u 11 (.pointer (some ⟨g, 0, none⟩))) 12 (.pointer (some ⟨g, 0, none⟩))), ⟨rfl, hI.out.2.1, hI.out.2.2.1, hI.out.2.2.2.1, hI.out.2.2.2.2.1, hI.out.2.2.2.2.2.1, ⟨fun _ => rfl⟩, ⟨fun _ => rfl⟩, hI.out.2.2.2.2.2.2.2.2.1, hI.out.2.2.2.2.2.2.2.2.2.1, hI.out.2.2.2.2.2.2.2.2.2.2.1, hI.out.2.2.2.2.2.2.2.2.2.2.2.1, hI.out.2.2.2.2.2.2.2.2.2.2.2.2.1, hI.out.2.2.2.2.2.2.2.2.2.2.2.2.2.1, hI.out.2.2.2.2.2.2.2.2.2.2.2.2.2.2.1, hI.out.2.2.2.2.2.2.2.2.2.2.2.2.2.2.2.1, hI.out.2.2.2.2.2.2.2.2.2.2.2.2.2.2.2.2.1, hI.out.2.2.2.2.2.2.2.2.2.2.2.2.2.2.2.2.2.1, hI.out.2.2.2.2.2.2.2.2.2.2.2.2.2.2.2.2.2.2.1, hI.out.2.2.2.2.2.2.2.2.2.2.2.2.2.2.2.2.2.2.2.1, hI.out.2.2.2.2.2.2.2.2.2.2.2.2.2.2.2.2.2.2.2.2.1, hI.out.2.2.2.2.2.2.2.2.2.2.2.2.2.2.2.2.2.2.2.2.2⟩⟩
        · intro LL a wx hI hLk hd K' hK
          obtain ⟨u, hI⟩ := hI
          obtain rfl := hI.out.1
          have e6 := hI.out.2.2.2.2.2.2.2.1.out (hd 6 rfl)
          rw [if_pos (by rfl)]
          go_simp
          exact hK.out _ _ ⟨(put1 (put1 u 12 (.pointer (some ⟨g, 0, none⟩))) 13 (.pointer (some ⟨g, 1, none⟩))), ⟨rfl, hI.out.2.1, hI.out.2.2.1, hI.out.2.2.2.1, hI.out.2.2.2.2.1, hI.out.2.2.2.2.2.1, hI.out.2.2.2.2.2.2.1, ⟨fun _ => rfl⟩, ⟨fun _ => rfl⟩, hI.out.2.2.2.2.2.2.2.2.2.1, hI.out.2.2.2.2.2.2.2.2.2.2.1, hI.out.2.2.2.2.2.2.2.2.2.2.2.1, hI.out.2.2.2.2.2.2.2.2.2.2.2.2.1, hI.out.2.2.2.2.2.2.2.2.2.2.2.2.2.1, hI.out.2.2.2.2.2.2.2.2.2.2.2.2.2.2.1, hI.out.2.2.2.2.2.2.2.2.2.2.2.2.2.2.2.1, hI.out.2.2.2.2.2.2.2.2.2.2.2.2.2.2.2.2.1, hI.out.2.2.2.2.2.2.2.2.2.2.2.2.2.2.2.2.2.1, hI.out.2.2.2.2.2.2.2.2.2.2.2.2.2.2.2.2.2.2.1, hI.out.2.2.2.2.2.2.2.2.2.2.2.2.2.2.2.2.2.2.2.1, hI.out.2.2.2.2.2.2.2.2.2.2.2.2.2.2.2.2.2.2.2.2.1, hI.out.2.2.2.2.2.2.2.2.2.2.2.2.2.2.2.2.2.2.2.2.2⟩⟩
        · intro LL a wx hI hLk hd K' hK
          obtain ⟨u, hI⟩ := hI
          obtain rfl := hI.out.1
          have e7 := hI.out.2.2.2.2.2.2.2.2.1.out (hd 7 rfl)
          have hb := hI.out.2.2.2.2.2.2.2.2.2.2.2.2.2.2.2.2.2.2.2.1
          have hz := hI.out.2.2.2.2.2.2.2.2.2.2.2.2.2.2.2.2.2.2.2.2.2
          have hb0 := hb.out (by cases h : LL 18 with | false => rfl | true => exact absurd ((hz.out h).2.1) (by rw [hLk]; decide))
          have d0 : wx.cell? ⟨g, 0, none⟩ = some (.slice Av bs.length cv) := cell_keep hb0 c0
          have d1 : wx.cell? ⟨g, 1, none⟩ = some (.int .i64 S) := cell_keep hb0 c1
          clear hb0
          rw [if_pos (by rfl)]
          go_simp
          exact hK.out _ _ ⟨(put1 (put1 u 13 (.pointer (some ⟨g, 1, none⟩))) 14 (.int .i64 S)), ⟨rfl, hI.out.2.1, hI.out.2.2.1, hI.out.2.2.2.1, hI.out.2.2.2.2.1, hI.out.2.2.2.2.2.1, hI.out.2.2.2.2.2.2.1, hI.out.2.2.2.2.2.2.2.1, ⟨fun _ => rfl⟩, ⟨fun _ => rfl⟩, hI.out.2.2.2.2.2.2.2.2.2.2.1, hI.out.2.2.2.2.2.2.2.2.2.2.2.1, hI.out.2.2.2.2.2.2.2.2.2.2.2.2.1, hI.out.2.2.2.2.2.2.2.2.2.2.2.2.2.1, hI.out.2.2.2.2.2.2.2.2.2.2.2.2.2.2.1, hI.out.2.2.2.2.2.2.2.2.2.2.2.2.2.2.2.1, hI.out.2.2.2.2.2.2.2.2.2.2.2.2.2.2.2.2.1, hI.out.2.2.2.2.2.2.2.2.2.2.2.2.2.2.2.2.2.1, hI.out.2.2.2.2.2.2.2.2.2.2.2.2.2.2.2.2.2.2.1, hI.out.2.2.2.2.2.2.2.2.2.2.2.2.2.2.2.2.2.2.2.1, hI.out.2.2.2.2.2.2.2.2.2.2.2.2.2.2.2.2.2.2.2.2.1, ⟨fun h => ⟨upd_old (hz.out h).1, upd_old (hz.out h).2.1, upd_old (hz.out h).2.2⟩⟩⟩⟩
        · intro LL a wx hI hLk hd K' hK
          obtain ⟨u, hI⟩ := hI
          obtain rfl := hI.out.1
          rw [if_pos (by rfl)]
          go_simp
          exact hK.out _ _ ⟨(put1 u 15 (.int .i64 x)), ⟨rfl, hI.out.2.1, hI.out.2.2.1, hI.out.2.2.2.1, hI.out.2.2.2.2.1, hI.out.2.2.2.2.2.1, hI.out.2.2.2.2.2.2.1, hI.out.2.2.2.2.2.2.2.1, hI.out.2.2.2.2.2.2.2.2.1, hI.out.2.2.2.2.2.2.2.2.2.1, ⟨fun _ => rfl⟩, hI.out.2.2.2.2.2.2.2.2.2.2.2.1, hI.out.2.2.2.2.2.2.2.2.2.2.2.2.1, hI.out.2.2.2.2.2.2.2.2.2.2.2.2.2.1, hI.out.2.2.2.2.2.2.2.2.2.2.2.2.2.2.1, hI.out.2.2.2.2.2.2.2.2.2.2.2.2.2.2.2.1, hI.out.2.2.2.2.2.2.2.2.2.2.2.2.2.2.2.2.1, hI.out.2.2.2.2.2.2.2.2.2.2.2.2.2.2.2.2.2.1, hI.out.2.2.2.2.2.2.2.2.2.2.2.2.2.2.2.2.2.2.1, hI.out.2.2.2.2.2.2.2.2.2.2.2.2.2.2.2.2.2.2.2.1, hI.out.2.2.2.2.2.2.2.2.2.2.2.2.2.2.2.2.2.2.2.2.1, hI.out.2.2.2.2.2.2.2.2.2.2.2.2.2.2.2.2.2.2.2.2.2⟩⟩
        · intro LL a wx hI hLk hd K' hK
          obtain ⟨u, hI⟩ := hI
          obtain rfl := hI.out.1
          have e9 := hI.out.2.2.2.2.2.2.2.2.2.2.1.out (hd 9 rfl)
          rw [if_pos (by rfl)]
          go_simp
          exact hK.out _ _ ⟨(put1 (put1 u 15 (.int .i64 x)) 16 (.int .i64 x)), ⟨rfl, hI.out.2.1, hI.out.2.2.1, hI.out.2.2.2.1, hI.out.2.2.2.2.1, hI.out.2.2.2.2.2.1, hI.out.2.2.2.2.2.2.1, hI.out.2.2.2.2.2.2.2.1, hI.out.2.2.2.2.2.2.2.2.1, hI.out.2.2.2.2.2.2.2.2.2.1, ⟨fun _ => rfl⟩, ⟨fun _ => rfl⟩, hI.out.2.2.2.2.2.2.2.2.2.2.2.2.1, hI.out.2.2.2.2.2.2.2.2.2.2.2.2.2.1, hI.out.2.2.2.2.2.2.2.2.2.2.2.2.2.2.1, hI.out.2.2.2.2.2.2.2.2.2.2.2.2.2.2.2.1, hI.out.2.2.2.2.2.2.2.2.2.2.2.2.2.2.2.2.1, hI.out.2.2.2.2.2.2.2.2.2.2.2.2.2.2.2.2.2.1, hI.out.2.2.2.2.2.2.2.2.2.2.2.2.2.2.2.2.2.2.1, hI.out.2.2.2.2.2.2.2.2.2.2.2.2.2.2.2.2.2.2.2.1, hI.out.2.2.2.2.2.2.2.2.2.2.2.2.2.2.2.2.2.2.2.2.1, hI.out.2.2.2.2.2.2.2.2.2.2.2.2.2.2.2.2.2.2.2.2.2⟩⟩
        · intro LL a wx hI hLk hd K' hK
          obtain ⟨u, hI⟩ := hI
          obtain rfl := hI.out.1
          rw [if_pos (by rfl)]
          go_simp
          exact hK.out _ _ ⟨(put1 u 17 (.pointer (some ⟨g, 0, none⟩))), ⟨rfl, hI.out.2.1, hI.out.2.2.1, hI.out.2.2.2.1, hI.out.2.2.2.2.1, hI.out.2.2.2.2.2.1, hI.out.2.2.2.2.2.2.1, hI.out.2.2.2.2.2.2.2.1, hI.out.2.2.2.2.2.2.2.2.1, hI.out.2.2.2.2.2.2.2.2.2.1, hI.out.2.2.2.2.2.2.2.2.2.2.1, hI.out.2.2.2.2.2.2.2.2.2.2.2.1, ⟨fun _ => rfl⟩, hI.out.2.2.2.2.2.2.2.2.2.2.2.2.2.1, hI.out.2.2.2.2.2.2.2.2.2.2.2.2.2.2.1, hI.out.2.2.2.2.2.2.2.2.2.2.2.2.2.2.2.1, hI.out.2.2.2.2.2.2.2.2.2.2.2.2.2.2.2.2.1, hI.out.2.2.2.2.2.2.2.2.2.2.2.2.2.2.2.2.2.1, hI.out.2.2.2.2.2.2.2.2.2.2.2.2.2.2.2.2.2.2.1, hI.out.2.2.2.2.2.2.2.2.2.2.2.2.2.2.2.2.2.2.2.1, hI.out.2.2.2.2.2.2.2.2.2.2.2.2.2.2.2.2.2.2.2.2.1, hI.out.2.2.2.2.2.2.2.2.2.2.2.2.2.2.2.2.2.2.2.2.2⟩⟩
        · intro LL a wx hI hLk hd K' hK
          obtain ⟨u, hI⟩ := hI
          obtain rfl := hI.out.1
          have e11 := hI.out.2.2.2.2.2.2.2.2.2.2.2.2.1.out (hd 11 rfl)
          have hb := hI.out.2.2.2.2.2.2.2.2.2.2.2.2.2.2.2.2.2.2.2.1
          have hz := hI.out.2.2.2.2.2.2.2.2.2.2.2.2.2.2.2.2.2.2.2.2.2
          have hb0 := hb.out (by cases h : LL 18 with | false => rfl | true => exact absurd ((hz.out h).2.2) (by rw [hLk]; decide))
          rw [if_pos (by rfl)]
          go_simp
          go_at_call 15
          refine (F.out _ hb0).mono ?_
          rintro z w1 ⟨rfl, hb1⟩
          exact hK.out _ _ ⟨(put1 (put1 u 17 (.pointer (some ⟨g, 0, none⟩))) 18 (.int .i64 L)), ⟨rfl, hI.out.2.1, hI.out.2.2.1, hI.out.2.2.2.1, hI.out.2.2.2.2.1, hI.out.2.2.2.2.2.1, hI.out.2.2.2.2.2.2.1, hI.out.2.2.2.2.2.2.2.1, hI.out.2.2.2.2.2.2.2.2.1, hI.out.2.2.2.2.2.2.2.2.2.1, hI.out.2.2.2.2.2.2.2.2.2.2.1, hI.out.2.2.2.2.2.2.2.2.2.2.2.1, ⟨fun _ => rfl⟩, ⟨fun _ => rfl⟩, hI.out.2.2.2.2.2.2.2.2.2.2.2.2.2.2.1, hI.out.2.2.2.2.2.2.2.2.2.2.2.2.2.2.2.1, hI.out.2.2.2.2.2.2.2.2.2.2.2.2.2.2.2.2.1, hI.out.2.2.2.2.2.2.2.2.2.2.2.2.2.2.2.2.2.1, hI.out.2.2.2.2.2.2.2.2.2.2.2.2.2.2.2.2.2.2.1, ⟨fun _ => below_step hb0 hb1⟩, ⟨fun h => absurd (hz.out h).2.2 (by rw [hLk]; decide)⟩, ⟨fun h => ⟨upd_old (hz.out h).1, upd_old (hz.out h).2.1, upd_old (hz.out h).2.2⟩⟩⟩⟩
        · intro LL a wx hI hLk hd K' hK
          obtain ⟨u, hI⟩ := hI
          obtain rfl := hI.out.1
          have e10 := hI.out.2.2.2.2.2.2.2.2.2.2.2.1.out (hd 10 rfl)
          have e12 := hI.out.2.2.2.2.2.2.2.2.2.2.2.2.2.1.out (hd 12 rfl)
          rw [if_pos (by rfl)]
          go_simp
          exact hK.out _ _ ⟨(put1 (put1 (put1 u 16 (.int .i64 x)) 18 (.int .i64 L)) 19 (.int .i64 x)), ⟨rfl, hI.out.2.1, hI.out.2.2.1, hI.out.2.2.2.1, hI.out.2.2.2.2.1, hI.out.2.2.2.2.2.1, hI.out.2.2.2.2.2.2.1, hI.out.2.2.2.2.2.2.2.1, hI.out.2.2.2.2.2.2.2.2.1, hI.out.2.2.2.2.2.2.2.2.2.1, hI.out.2.2.2.2.2.2.2.2.2.2.1, ⟨fun _ => rfl⟩, hI.out.2.2.2.2.2.2.2.2.2.2.2.2.1, ⟨fun _ => rfl⟩, ⟨fun _ => rfl⟩, hI.out.2.2.2.2.2.2.2.2.2.2.2.2.2.2.2.1, hI.out.2.2.2.2.2.2.2.2.2.2.2.2.2.2.2.2.1, hI.out.2.2.2.2.2.2.2.2.2.2.2.2.2.2.2.2.2.1, hI.out.2.2.2.2.2.2.2.2.2.2.2.2.2.2.2.2.2.2.1, hI.out.2.2.2.2.2.2.2.2.2.2.2.2.2.2.2.2.2.2.2.1, hI.out.2.2.2.2.2.2.2.2.2.2.2.2.2.2.2.2.2.2.2.2.1, hI.out.2.2.2.2.2.2.2.2.2.2.2.2.2.2.2.2.2.2.2.2.2⟩⟩
        · intro LL a wx hI hLk hd K' hK
          obtain ⟨u, hI⟩ := hI
          obtain rfl := hI.out.1
          have e8 := hI.out.2.2.2.2.2.2.2.2.2.1.out (hd 8 rfl)
          have e13 := hI.out.2.2.2.2.2.2.2.2.2.2.2.2.2.2.1.out (hd 13 rfl)
          rw [if_pos (by rfl)]
          go_simp
          exact hK.out _ _ ⟨(put1 (put1 (put1 u 14 (.int .i64 S)) 19 (.int .i64 x)) 20 (.int .i64 J)), ⟨rfl, hI.out.2.1, hI.out.2.2.1, hI.out.2.2.2.1, hI.out.2.2.2.2.1, hI.out.2.2.2.2.2.1, hI.out.2.2.2.2.2.2.1, hI.out.2.2.2.2.2.2.2.1, hI.out.2.2.2.2.2.2.2.2.1, ⟨fun _ => rfl⟩, hI.out.2.2.2.2.2.2.2.2.2.2.1, hI.out.2.2.2.2.2.2.2.2.2.2.2.1, hI.out.2.2.2.2.2.2.2.2.2.2.2.2.1, hI.out.2.2.2.2.2.2.2.2.2.2.2.2.2.1, ⟨fun _ => rfl⟩, ⟨fun _ => rfl⟩, hI.out.2.2.2.2.2.2.2.2.2.2.2.2.2.2.2.2.1, hI.out.2.2.2.2.2.2.2.2.2.2.2.2.2.2.2.2.2.1, hI.out.2.2.2.2.2.2.2.2.2.2.2.2.2.2.2.2.2.2.1, hI.out.2.2.2.2.2.2.2.2.2.2.2.2.2.2.2.2.2.2.2.1, hI.out.2.2.2.2.2.2.2.2.2.2.2.2.2.2.2.2.2.2.2.2.1, hI.out.2.2.2.2.2.2.2.2.2.2.2.2.2.2.2.2.2.2.2.2.2⟩⟩
        · intro LL a wx hI hLk hd K' hK
          obtain ⟨u, hI⟩ := hI
          obtain rfl := hI.out.1
          have e4 := hI.out.2.2.2.2.2.1.out (hd 4 rfl)
          have e14 := hI.out.2.2.2.2.2.2.2.2.2.2.2.2.2.2.2.1.out (hd 14 rfl)
          rw [if_pos (by rfl)]
          go_simp
          exact hK.out _ _ ⟨(put1 (put1 (put1 u 10 (.slice Av bs.length cv)) 20 (.int .i64 J)) 21 (.slice Av J.toNat cv)), ⟨rfl, hI.out.2.1, hI.out.2.2.1, hI.out.2.2.2.1, hI.out.2.2.2.2.1, ⟨fun _ => rfl⟩, hI.out.2.2.2.2.2.2.1, hI.out.2.2.2.2.2.2.2.1, hI.out.2.2.2.2.2.2.2.2.1, hI.out.2.2.2.2.2.2.2.2.2.1, hI.out.2.2.2.2.2.2.2.2.2.2.1, hI.out.2.2.2.2.2.2.2.2.2.2.2.1, hI.out.2.2.2.2.2.2.2.2.2.2.2.2.1, hI.out.2.2.2.2.2.2.2.2.2.2.2.2.2.1, hI.out.2.2.2.2.2.2.2.2.2.2.2.2.2.2.1, ⟨fun _ => rfl⟩, ⟨fun _ => rfl⟩, hI.out.2.2.2.2.2.2.2.2.2.2.2.2.2.2.2.2.2.1, hI.out.2.2.2.2.2.2.2.2.2.2.2.2.2.2.2.2.2.2.1, hI.out.2.2.2.2.2.2.2.2.2.2.2.2.2.2.2.2.2.2.2.1, hI.out.2.2.2.2.2.2.2.2.2.2.2.2.2.2.2.2.2.2.2.2.1, hI.out.2.2.2.2.2.2.2.2.2.2.2.2.2.2.2.2.2.2.2.2.2⟩⟩
        · intro LL a wx hI hLk hd K' hK
          obtain ⟨u, hI⟩ := hI
          obtain rfl := hI.out.1
          have e0 := hI.out.2.1.out (hd 0 rfl)
          rw [if_pos (by rfl)]
          go_simp
          exact hK.out _ _ ⟨(put1 (put1 u 6 (.pointer (some ⟨g, 0, none⟩))) 22 (.pointer (some ⟨g, 0, none⟩))), ⟨rfl, ⟨fun _ => rfl⟩, hI.out.2.2.1, hI.out.2.2.2.1, hI.out.2.2.2.2.1, hI.out.2.2.2.2.2.1, hI.out.2.2.2.2.2.2.1, hI.out.2.2.2.2.2.2.2.1, hI.out.2.2.2.2.2.2.2.2.1, hI.out.2.2.2.2.2.2.2.2.2.1, hI.out.2.2.2.2.2.2.2.2.2.2.1, hI.out.2.2.2.2.2.2.2.2.2.2.2.1, hI.out.2.2.2.2.2.2.2.2.2.2.2.2.1, hI.out.2.2.2.2.2.2.2.2.2.2.2.2.2.1, hI.out.2.2.2.2.2.2.2.2.2.2.2.2.2.2.1, hI.out.2.2.2.2.2.2.2.2.2.2.2.2.2.2.2.1, hI.out.2.2.2.2.2.2.2.2.2.2.2.2.2.2.2.2.1, ⟨fun _ => rfl⟩, hI.out.2.2.2.2.2.2.2.2.2.2.2.2.2.2.2.2.2.2.1, hI.out.2.2.2.2.2.2.2.2.2.2.2.2.2.2.2.2.2.2.2.1, hI.out.2.2.2.2.2.2.2.2.2.2.2.2.2.2.2.2.2.2.2.2.1, hI.out.2.2.2.2.2.2.2.2.2.2.2.2.2.2.2.2.2.2.2.2.2⟩⟩
        · intro LL a wx hI hLk hd K' hK
          obtain ⟨u, hI⟩ := hI
          obtain rfl := hI.out.1
          have e16 := hI.out.2.2.2.2.2.2.2.2.2.2.2.2.2.2.2.2.2.1.out (hd 16 rfl)
          rw [if_pos (by rfl)]
          go_simp
          exact hK.out _ _ ⟨(put1 (put1 u 22 (.pointer (some ⟨g, 0, none⟩))) 23 (.pointer (some ⟨g, 0, none⟩))), ⟨rfl, hI.out.2.1, hI.out.2.2.1, hI.out.2.2.2.1, hI.out.2.2.2.2.1, hI.out.2.2.2.2.2.1, hI.out.2.2.2.2.2.2.1, hI.out.2.2.2.2.2.2.2.1, hI.out.2.2.2.2.2.2.2.2.1, hI.out.2.2.2.2.2.2.2.2.2.1, hI.out.2.2.2.2.2.2.2.2.2.2.1, hI.out.2.2.2.2.2.2.2.2.2.2.2.1, hI.out.2.2.2.2.2.2.2.2.2.2.2.2.1, hI.out.2.2.2.2.2.2.2.2.2.2.2.2.2.1, hI.out.2.2.2.2.2.2.2.2.2.2.2.2.2.2.1, hI.out.2.2.2.2.2.2.2.2.2.2.2.2.2.2.2.1, hI.out.2.2.2.2.2.2.2.2.2.2.2.2.2.2.2.2.1, ⟨fun _ => rfl⟩, ⟨fun _ => rfl⟩, hI.out.2.2.2.2.2.2.2.2.2.2.2.2.2.2.2.2.2.2.2.1, hI.out.2.2.2.2.2.2.2.2.2.2.2.2.2.2.2.2.2.2.2.2.1, hI.out.2.2.2.2.2.2.2.2.2.2.2.2.2.2.2.2.2.2.2.2.2⟩⟩
        · intro LL a wx hI hLk hd K' hK
          obtain ⟨u, hI⟩ := hI
          obtain rfl := hI.out.1
          have e17 := hI.out.2.2.2.2.2.2.2.2.2.2.2.2.2.2.2.2.2.2.1.out (hd 17 rfl)
          have e15 := hI.out.2.2.2.2.2.2.2.2.2.2.2.2.2.2.2.2.1.out (hd 15 rfl)
          have hb := hI.out.2.2.2.2.2.2.2.2.2.2.2.2.2.2.2.2.2.2.2.1
          have hb0 := hb.out hLk
          have d0 : wx.cell? ⟨g, 0, none⟩ = some (.slice Av bs.length cv) := cell_keep hb0 c0
          have e0 := blk_frozen (blk_below HX.out.1 hb0) 0
          rw [if_pos (by rfl)]
          go_simp
          exact hK.out _ _ ⟨(put1 (put1 u 23 (.pointer (some ⟨g, 0, none⟩))) 21 (.slice Av J.toNat cv)), ⟨rfl, hI.out.2.1, hI.out.2.2.1, hI.out.2.2.2.1, hI.out.2.2.2.2.1, hI.out.2.2.2.2.2.1, hI.out.2.2.2.2.2.2.1, hI.out.2.2.2.2.2.2.2.1, hI.out.2.2.2.2.2.2.2.2.1, hI.out.2.2.2.2.2.2.2.2.2.1, hI.out.2.2.2.2.2.2.2.2.2.2.1, hI.out.2.2.2.2.2.2.2.2.2.2.2.1, hI.out.2.2.2.2.2.2.2.2.2.2.2.2.1, hI.out.2.2.2.2.2.2.2.2.2.2.2.2.2.1, hI.out.2.2.2.2.2.2.2.2.2.2.2.2.2.2.1, hI.out.2.2.2.2.2.2.2.2.2.2.2.2.2.2.2.1, ⟨fun _ => rfl⟩, hI.out.2.2.2.2.2.2.2.2.2.2.2.2.2.2.2.2.2.1, ⟨fun _ => rfl⟩, ⟨fun h => Bool.noConfusion (show true = false from h)⟩, ⟨fun _ => ⟨wx, hb0, rfl⟩⟩, ⟨fun _ => ⟨hd 4 rfl, hd 8 rfl, hd 12 rfl⟩⟩⟩⟩
      · intro LL a wx hall hI
        obtain ⟨u, hI⟩ := hI
        obtain rfl := hI.out.1
        have hb := hI.out.2.2.2.2.2.2.2.2.2.2.2.2.2.2.2.2.2.2.2.1
        have hs := hI.out.2.2.2.2.2.2.2.2.2.2.2.2.2.2.2.2.2.2.2.2.1
        have hz := hI.out.2.2.2.2.2.2.2.2.2.2.2.2.2.2.2.2.2.2.2.2.2
        have e0 := hI.out.2.1.out (hall 0 (by decide))
        obtain ⟨w1, hb1, rfl⟩ := hs.out (hall 18 (by decide))
        have d0 : w1.cell? ⟨g, 0, none⟩ = some (.slice Av bs.length cv) := cell_keep hb1 c0
        have d1 : w1.cell? ⟨g, 1, none⟩ = some (.int .i64 S) := cell_keep hb1 c1
        have e0 := blk_frozen (blk_below HX.out.1 hb1) 0
        have e1 := blk_frozen (blk_below HX.out.1 hb1) 1
        have HB := Aside0.mk hb1
        clear hb hs hz hb1 hI
        go_wp2
        refine bodyPost_end (results_none rfl _ _ _) rfl ?_
        obtain ⟨h0, hJ, hk⟩ := HK.out
        rw [show max J 0 = ((J.toNat : Nat) : Int) by omega]
        exact ⟨rfl, HX.out.2 J w1 h0 hJ hk HB.out⟩
  by_cases hk : keep < 0
  · exact go 0 (by omega) hL0 (by omega) (Or.inl ⟨hk, rfl⟩)
  · by_cases hm : L < keep
    · exact go L hL0 (by omega) (by omega) (Or.inr (Or.inl ⟨hk, hm, rfl⟩))
    · exact go keep (by omega) (by omega) (by omega) (Or.inr (Or.inr ⟨hk, hm, rfl⟩))

end Go.Proofs.YtkolcgofhjbebaaW.PrintMed

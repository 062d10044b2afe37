/- The medium, by hand, 6: the document's medium beside it. No condition. -/
import Derived.Test.YtkolcgofhjbebaaWMed5
namespace Go.Proofs.YtkolcgofhjbebaaW.PrintMed
open Go.RowKit Go.Proofs.YtkolcgofhjbebaaW.PrintWords Go.Proofs.YtkolcgofhjbebaaW.PrintLast Go.Proofs.YtkolcgofhjbebaaW.PrintMore Go.Proofs.YtkolcgofhjbebaaW.PrintReg
attribute [local go_sem] max2_int min2_int max_two min_two
set_option linter.unusedVariables false
set_option linter.unusedSimpArgs false
theorem V_of_R {α : Type} {d : Kd α} {e base : Nat} {ok : Nat → Prop} {w : World} {x : Value} {xs : List α} (h : d.R e w base ok x xs) : d.V e w 0 ok x xs := by
  obtain ⟨A, c, rfl, hc, _⟩ := Kd.R_reads h
  exact Kd.V_mk hc (fun W' hW => (Kd.R_reads' (Kd.R_step h hW)).2.2)
theorem V_take {α : Type} {d : Kd α} {e base m n c : Nat} {ok : Nat → Prop} {w : World} {A : Option Addr} {xs : List α} (h : d.V e w base ok (.slice A n c) xs) (hm : m ≤ xs.length) : d.V e w base ok (.slice A m c) (xs.take m) := by
  obtain ⟨h1, h2, h3⟩ := Kd.V_at h
  have hl : (xs.take m).length = m := by rw [List.length_take]; omega
  have := Kd.V_mk (e := e) (base := base) (c := c) (by rw [hl]; omega) (Kd.F_take h3 hm)
  rw [hl] at this
  exact this
/-- The model's medium (block gr): its bytes, how many are loose; its bytes lie in B. -/
def Rf (W : World) (gr : Nat) (B : Nat → Prop) (bs : List Int) (lo : Nat) : Prop :=
  ∃ x, W.heap[gr]? = some (.cells #[x, .int .i64 (lo : Int)] 45 (0, 0)) ∧ Kd.V (Kd.int .u8) 5 W 0 B x bs ∧ ¬ B gr
theorem Rf.step {W W1 : World} {gr : Nat} {B : Nat → Prop} {bs : List Int} {lo : Nat} (h : Rf W gr B bs lo) (hs : ∀ k, B k ∨ k = gr → k < W.heap.size → W1.heap[k]? = W.heap[k]?) : Rf W1 gr B bs lo := by
  obtain ⟨x, h1, h2, h3⟩ := h
  exact ⟨x, (hs gr (.inr rfl) (blk_lt h1)).trans h1, Kd.V_step h2 (fun k hk hl => hs k (.inl hk) hl), h3⟩
/-- The medium and the model's, alike. -/
structure Pair (base : Nat) (W : World) (g gr : Nat) (P B : Nat → Prop) (bs : List Int) (s : Nat) : Prop where
  med : Med base W g P bs s
  ref : Rf W gr B bs (bs.length - s)
  old : base ≤ gr
  low : ∀ k, P k → base ≤ k
  one : ¬ P gr
  two : ∀ k, P k → ¬ B k
  cap : ∀ k, P k ∨ B k → k < W.heap.size
theorem Pair.step {base : Nat} {W W1 : World} {g gr : Nat} {P B : Nat → Prop} {bs : List Int} {s : Nat} (h : Pair base W g gr P B bs s) (hz : W.heap.size ≤ W1.heap.size) (hs : ∀ k, (P k ∨ B k ∨ k = gr) → k < W.heap.size → W1.heap[k]? = W.heap[k]?) : Pair base W1 g gr P B bs s := by
  obtain ⟨⟨x, h1, h2, h3, h4, h5⟩, hr, p1, p2, p3, p4, p5⟩ := h
  exact ⟨⟨x, (hs g (.inl h3) (blk_lt h1)).trans h1, h2, h3, Kd.R_step h4 (fun k hk hl => hs k (.inl hk.1) hl), h5⟩, hr.step (fun k hk hl => hs k (.inr hk) hl), p1, p2, p3, p4, fun k hk => Nat.lt_of_lt_of_le (p5 k hk) hz⟩
theorem Pair.below {base : Nat} {W W1 : World} {g gr : Nat} {P B : Nat → Prop} {bs : List Int} {s : Nat} (h : Pair base W g gr P B bs s) (hb : Below W.heap.size W W1) : Pair base W1 g gr P B bs s := h.step hb.size (fun k _ hl => hb.block k hl)
theorem Pair.le {base : Nat} {W : World} {g gr : Nat} {P B : Nat → Prop} {bs : List Int} {s : Nat} (h : Pair base W g gr P B bs s) : s ≤ bs.length := by obtain ⟨_, _, _, _, _, h5⟩ := h.med; exact h5
theorem Fr.out {b0 N : Nat} {Q : Nat → Prop} {W W1 : World} (f : Fr b0 Q W W1) (hq : ∀ k, Q k → N ≤ k) (hN : N ≤ W.heap.size) : Below N W W1 :=
  ⟨f.below.os, f.below.tape, f.below.output, f.below.size, fun k hk => f.block k (by omega) (fun h => by have := hq k h; omega)⟩
theorem Fr.weak {b0 : Nat} {Q Q' : Nat → Prop} {W W1 : World} (f : Fr b0 Q W W1) (hq : ∀ k, Q k → Q' k) : Fr b0 Q' W W1 := ⟨f.below, fun k hk hn => f.block k hk (fun h => hn (hq k h))⟩
theorem Fr.then {b0 : Nat} {Q : Nat → Prop} {W W1 W2 : World} (f : Fr b0 Q W W1) (f2 : Fr b0 Q W1 W2) : Fr b0 Q W W2 := ⟨f.below.trans f2.below, fun k hk hn => (f2.block k (Nat.lt_of_lt_of_le hk f.below.size) hn).trans (f.block k hk hn)⟩
theorem Fr.new {b0 : Nat} {Q : Nat → Prop} {W W1 W2 : World} (f : Fr b0 Q W W1) {row : Option Nat} (k : W1.grownBy W2 row) (hb : b0 ≤ W.heap.size) (hr : ∀ q, row = some q → W.heap.size ≤ q) : Fr b0 Q W W2 :=
  ⟨f.below.grown k (Nat.le_trans hb f.below.size) (fun q e => Nat.le_trans hb (hr q e)), fun i hi hn => (k.block i (Nat.lt_of_lt_of_le hi f.below.size) (fun e => by have := hr i e.symm; omega)).trans (f.block i hi hn)⟩
/-- What 'do' leaves. -/
def DoPost (w0 W : World) (g gr : Nat) (P B : Nat → Prop) (bs l : List Int) (e : Ending) (w' : World) : Prop :=
  e = .returned (.tuple #[]) ∧ ∃ P' B' bs' s', Pair w0.heap.size w' g gr P' B' bs' s' ∧ (∀ k, P' k → P k ∨ W.heap.size ≤ k) ∧ (∀ k, B' k → B k ∨ W.heap.size ≤ k) ∧ Fr w0.heap.size (fun k => P k ∨ k = gr) W w' ∧ bs'.length ≤ bs.length + l.length
theorem wd (x : Int) (h : 0 ≤ x) (h2 : x ≤ 1000000000) : wrap64 x = x := by unfold wrap64; omega
set_option maxHeartbeats 4000000 in
set_option maxRecDepth 100000 in
theorem same_calls (base g gr : Nat) (P B : Nat → Prop) (bs : List Int) (s : Nat) (W : World) (HP : Pair base W g gr P B bs s) (hl : bs.length ≤ 100000000) :
    Calls Try.prog 27 #[.pointer (some ⟨g, 0, none⟩), .pointer (some ⟨gr, 0, none⟩)] W fun e w' => e = .returned (.bool true) ∧ Below W.heap.size W w' := by
  obtain ⟨lo, hlo⟩ : ∃ lo : Nat, lo = bs.length - s := ⟨_, rfl⟩
  obtain ⟨hm, ⟨x, h1, h2, h3⟩, p1, p2, p3, p4, p5⟩ := HP
  rw [← hlo] at h1
  obtain ⟨Av, cv, rfl⟩ := Kd.V_slice h2
  have c0 : W.cell? ⟨gr, 0, none⟩ = some (.slice Av bs.length cv) := (blk_cell h1 0).trans rfl
  have c1 : W.cell? ⟨gr, 1, none⟩ = some (.int .i64 (lo : Int)) := (blk_cell h1 1).trans rfl
  have HM := Aside0.mk hm
  have HV := Aside0.mk h2
  have HLO : Aside0 ((lo : Int) = ((bs.length - s : Nat) : Int)) := ⟨by rw [hlo]⟩
  have HL1 : Aside0 (bs.length * 1 ≤ 140737488355328) := ⟨by omega⟩
  have HL2 : Aside0 (bs.length ≤ 140737488355328) := ⟨by omega⟩
  clear hm h1 h2 h3 p1 p2 p3 p4 p5 hl hlo
  go_enter Try.func27, Try.ntmps27
  go_wp2_with fail
  refine wp_region_steps 19 rfl rfl (by kernel_rfl) (fun LL a wx => ∃ A6 : Option Addr, ∃ c6 : Nat, ∃ u : Nat → Value, Aside0 (a = { tmps := List.toArray (.pointer (some ⟨g, 0, none⟩) :: .pointer (some ⟨gr, 0, none⟩) :: undef :: undef :: u 4 :: u 5 :: u 6 :: u 7 :: u 8 :: u 9 :: u 10 :: u 11 :: u 12 :: u 13 :: u 14 :: u 15 :: u 16 :: u 17 :: u 18 :: u 19 :: u 20 :: u 21 :: u 22 :: []), defers := [] } ∧ Tab LL u [(0, 5, .pointer (some ⟨g, 0, none⟩)), (1, 6, .slice A6 bs.length c6), (2, 7, .string (strOfNums bs)), (3, 8, .pointer (some ⟨gr, 0, none⟩)), (4, 9, .pointer (some ⟨gr, 0, none⟩)), (5, 10, .pointer (some ⟨gr, 0, none⟩)), (6, 11, .slice Av bs.length cv), (7, 12, .string (strOfNums bs)), (8, 13, .bool true), (9, 14, .bool true), (10, 15, .pointer (some ⟨g, 0, none⟩)), (11, 16, .int .i64 (lo : Int)), (12, 17, .pointer (some ⟨gr, 0, none⟩)), (13, 18, .pointer (some ⟨gr, 0, none⟩)), (14, 19, .pointer (some ⟨gr, 1, none⟩)), (15, 20, .int .i64 (lo : Int)), (16, 21, .bool true), (17, 22, .bool true), (18, 4, .bool true)] ∧ Aside0 (Below W.heap.size W wx) ∧ Aside0 (LL 1 = true → Kd.C (Kd.int .u8) wx A6 bs.length bs))) ?_ ?_ ?_
  · exact ⟨none, 0, put1 (fun _ => undef) 4 (.bool false), ⟨rfl, Tab.start 19 rfl rfl, ⟨below_drew (Below.refl _ _)⟩, ⟨fun h => absurd h (by decide)⟩⟩⟩
  · refine Steps.cons ?_ (Steps.cons ?_ (Steps.cons ?_ (Steps.cons ?_ (Steps.cons ?_ (Steps.cons ?_ (Steps.cons ?_ (Steps.cons ?_ (Steps.cons ?_ (Steps.cons ?_ (Steps.cons ?_ (Steps.cons ?_ (Steps.cons ?_ (Steps.cons ?_ (Steps.cons ?_ (Steps.cons ?_ (Steps.cons ?_ (Steps.cons ?_ (Steps.cons ?_ (Steps.nil)))))))))))))))))))
    · intro LL a wx hI hLk hd K' hK
      obtain ⟨A6, c6, u, hI⟩ := hI
      obtain rfl := hI.out.1
      rw [if_pos (by rfl)]
      go_simp
      exact hK.out _ _ ⟨A6, c6, (put1 u 5 (.pointer (some ⟨g, 0, none⟩))), ⟨rfl, hI.out.2.1.upd 0 rfl rfl rfl rfl, hI.out.2.2.1, hI.out.2.2.2⟩⟩
    · intro LL a wx hI hLk hd K' hK
      obtain ⟨A6, c6, u, hI⟩ := hI
      obtain rfl := hI.out.1
      have e0 := hI.out.2.1.at 0 rfl (hd 0 rfl)
      have hb := hI.out.2.2.1
      rw [if_pos (by rfl)]
      go_simp
      go_at_call 17
      refine (bytes_calls base _ _ _ _ wx (HM.out.below hb.out) HL1.out).mono ?_
      rintro e w2 ⟨A', c', rfl, hr, hb1⟩
      exact hK.out _ _ ⟨A', c', (put1 (put1 u 5 (.pointer (some ⟨g, 0, none⟩))) 6 (.slice A' bs.length c')), ⟨rfl, (hI.out.2.1.same (s := 5) (v := .pointer (some ⟨g, 0, none⟩)) e0).upd 1 rfl rfl rfl rfl, ⟨below_step hb.out hb1⟩, ⟨fun _ => (Kd.R_reads' hr).2.2⟩⟩⟩
    · intro LL a wx hI hLk hd K' hK
      obtain ⟨A6, c6, u, hI⟩ := hI
      obtain rfl := hI.out.1
      have e1 := hI.out.2.1.at 1 rfl (hd 1 rfl)
      have hc := hI.out.2.2.2
      have hcv := Kd.C_string (P := Try.prog) (A := A6) (c := c6) Try.underlying22 Try.underlying5 Try.underlying9 (hc.out (hd 1 rfl))
      rw [if_pos (by rfl)]
      go_simp
      exact hK.out _ _ ⟨A6, c6, (put1 (put1 u 6 (.slice A6 bs.length c6)) 7 (.string (strOfNums bs))), ⟨rfl, (hI.out.2.1.same (s := 6) (v := .slice A6 bs.length c6) e1).upd 2 rfl rfl rfl rfl, hI.out.2.2.1, hI.out.2.2.2⟩⟩
    · intro LL a wx hI hLk hd K' hK
      obtain ⟨A6, c6, u, hI⟩ := hI
      obtain rfl := hI.out.1
      rw [if_pos (by rfl)]
      go_simp
      exact hK.out _ _ ⟨A6, c6, (put1 u 8 (.pointer (some ⟨gr, 0, none⟩))), ⟨rfl, hI.out.2.1.upd 3 rfl rfl rfl rfl, hI.out.2.2.1, hI.out.2.2.2⟩⟩
    · intro LL a wx hI hLk hd K' hK
      obtain ⟨A6, c6, u, hI⟩ := hI
      obtain rfl := hI.out.1
      have e3 := hI.out.2.1.at 3 rfl (hd 3 rfl)
      rw [if_pos (by rfl)]
      go_simp
      exact hK.out _ _ ⟨A6, c6, (put1 (put1 u 8 (.pointer (some ⟨gr, 0, none⟩))) 9 (.pointer (some ⟨gr, 0, none⟩))), ⟨rfl, (hI.out.2.1.same (s := 8) (v := .pointer (some ⟨gr, 0, none⟩)) e3).upd 4 rfl rfl rfl rfl, hI.out.2.2.1, hI.out.2.2.2⟩⟩
    · intro LL a wx hI hLk hd K' hK
      obtain ⟨A6, c6, u, hI⟩ := hI
      obtain rfl := hI.out.1
      have e4 := hI.out.2.1.at 4 rfl (hd 4 rfl)
      rw [if_pos (by rfl)]
      go_simp
      exact hK.out _ _ ⟨A6, c6, (put1 (put1 u 9 (.pointer (some ⟨gr, 0, none⟩))) 10 (.pointer (some ⟨gr, 0, none⟩))), ⟨rfl, (hI.out.2.1.same (s := 9) (v := .pointer (some ⟨gr, 0, none⟩)) e4).upd 5 rfl rfl rfl rfl, hI.out.2.2.1, hI.out.2.2.2⟩⟩
    · intro LL a wx hI hLk hd K' hK
      obtain ⟨A6, c6, u, hI⟩ := hI
      obtain rfl := hI.out.1
      have e5 := hI.out.2.1.at 5 rfl (hd 5 rfl)
      have hb := hI.out.2.2.1
      have d0 : wx.cell? ⟨gr, 0, none⟩ = some (.slice Av bs.length cv) := cell_keep hb.out c0
      have d1 : wx.cell? ⟨gr, 1, none⟩ = some (.int .i64 (lo : Int)) := cell_keep hb.out c1
      rw [if_pos (by rfl)]
      go_simp
      exact hK.out _ _ ⟨A6, c6, (put1 (put1 u 10 (.pointer (some ⟨gr, 0, none⟩))) 11 (.slice Av bs.length cv)), ⟨rfl, (hI.out.2.1.same (s := 10) (v := .pointer (some ⟨gr, 0, none⟩)) e5).upd 6 rfl rfl rfl rfl, hI.out.2.2.1, hI.out.2.2.2⟩⟩
    · intro LL a wx hI hLk hd K' hK
      obtain ⟨A6, c6, u, hI⟩ := hI
      obtain rfl := hI.out.1
      have e6 := hI.out.2.1.at 6 rfl (hd 6 rfl)
      have hb := hI.out.2.2.1
      have hcv := Kd.C_string (P := Try.prog) (A := Av) (c := cv) Try.underlying22 Try.underlying5 Try.underlying9 ((Kd.V_reads' (Kd.V_below HV.out hb.out)).2.2)
      rw [if_pos (by rfl)]
      go_simp
      exact hK.out _ _ ⟨A6, c6, (put1 (put1 u 11 (.slice Av bs.length cv)) 12 (.string (strOfNums bs))), ⟨rfl, (hI.out.2.1.same (s := 11) (v := .slice Av bs.length cv) e6).upd 7 rfl rfl rfl rfl, hI.out.2.2.1, hI.out.2.2.2⟩⟩
    · intro LL a wx hI hLk hd K' hK
      obtain ⟨A6, c6, u, hI⟩ := hI
      obtain rfl := hI.out.1
      have e2 := hI.out.2.1.at 2 rfl (hd 2 rfl)
      have e7 := hI.out.2.1.at 7 rfl (hd 7 rfl)
      rw [if_pos (by rfl)]
      go_simp
      exact hK.out _ _ ⟨A6, c6, (put1 (put1 (put1 u 7 (.string (strOfNums bs))) 12 (.string (strOfNums bs))) 13 (.bool true)), ⟨rfl, ((hI.out.2.1.same (s := 7) (v := .string (strOfNums bs)) e2).same (s := 12) (v := .string (strOfNums bs)) e7).upd 8 rfl rfl rfl rfl, hI.out.2.2.1, hI.out.2.2.2⟩⟩
    · intro LL a wx hI hLk hd K' hK
      obtain ⟨A6, c6, u, hI⟩ := hI
      obtain rfl := hI.out.1
      have e8 := hI.out.2.1.at 8 rfl (hd 8 rfl)
      rw [if_pos (by rfl)]
      go_simp
      exact hK.out _ _ ⟨A6, c6, (put1 (put1 u 13 (.bool true)) 14 (.bool true)), ⟨rfl, (hI.out.2.1.same (s := 13) (v := .bool true) e8).upd 9 rfl rfl rfl rfl, hI.out.2.2.1, hI.out.2.2.2⟩⟩
    · intro LL a wx hI hLk hd K' hK
      obtain ⟨A6, c6, u, hI⟩ := hI
      obtain rfl := hI.out.1
      have eg := hI.out.2.1.at 9 rfl (hd 9 rfl)
      rw [eg]
      rw [if_pos (by rfl)]
      go_simp
      exact hK.out _ _ ⟨A6, c6, (put1 (put1 u 14 (.bool true)) 15 (.pointer (some ⟨g, 0, none⟩))), ⟨rfl, (hI.out.2.1.same (s := 14) (v := .bool true) eg).upd 10 rfl rfl rfl rfl, hI.out.2.2.1, hI.out.2.2.2⟩⟩
    · intro LL a wx hI hLk hd K' hK
      obtain ⟨A6, c6, u, hI⟩ := hI
      obtain rfl := hI.out.1
      have e10 := hI.out.2.1.at 10 rfl (hd 10 rfl)
      have hb := hI.out.2.2.1
      have hc := hI.out.2.2.2
      have eg := hI.out.2.1.at 9 rfl (hd 9 rfl)
      rw [eg]
      rw [if_pos (by rfl)]
      go_simp
      go_at_call 15
      refine (loose_calls base _ _ _ _ wx (HM.out.below hb.out) HL2.out).mono ?_
      rintro e w2 ⟨rfl, hb1⟩
      rw [← HLO.out]
      exact hK.out _ _ ⟨A6, c6, (put1 (put1 (put1 u 15 (.pointer (some ⟨g, 0, none⟩))) 14 (.bool true)) 16 (.int .i64 (lo : Int))), ⟨rfl, ((hI.out.2.1.same (s := 15) (v := .pointer (some ⟨g, 0, none⟩)) e10).same (s := 14) (v := .bool true) eg).upd 11 rfl rfl rfl rfl, ⟨below_step hb.out hb1⟩, ⟨fun h => Kd.C_below (hc.out h) hb1⟩⟩⟩
    · intro LL a wx hI hLk hd K' hK
      obtain ⟨A6, c6, u, hI⟩ := hI
      obtain rfl := hI.out.1
      have eg := hI.out.2.1.at 9 rfl (hd 9 rfl)
      rw [eg]
      rw [if_pos (by rfl)]
      go_simp
      exact hK.out _ _ ⟨A6, c6, (put1 (put1 u 14 (.bool true)) 17 (.pointer (some ⟨gr, 0, none⟩))), ⟨rfl, (hI.out.2.1.same (s := 14) (v := .bool true) eg).upd 12 rfl rfl rfl rfl, hI.out.2.2.1, hI.out.2.2.2⟩⟩
    · intro LL a wx hI hLk hd K' hK
      obtain ⟨A6, c6, u, hI⟩ := hI
      obtain rfl := hI.out.1
      have e12 := hI.out.2.1.at 12 rfl (hd 12 rfl)
      have eg := hI.out.2.1.at 9 rfl (hd 9 rfl)
      rw [eg]
      rw [if_pos (by rfl)]
      go_simp
      exact hK.out _ _ ⟨A6, c6, (put1 (put1 (put1 u 17 (.pointer (some ⟨gr, 0, none⟩))) 14 (.bool true)) 18 (.pointer (some ⟨gr, 0, none⟩))), ⟨rfl, ((hI.out.2.1.same (s := 17) (v := .pointer (some ⟨gr, 0, none⟩)) e12).same (s := 14) (v := .bool true) eg).upd 13 rfl rfl rfl rfl, hI.out.2.2.1, hI.out.2.2.2⟩⟩
    · intro LL a wx hI hLk hd K' hK
      obtain ⟨A6, c6, u, hI⟩ := hI
      obtain rfl := hI.out.1
      have e13 := hI.out.2.1.at 13 rfl (hd 13 rfl)
      have eg := hI.out.2.1.at 9 rfl (hd 9 rfl)
      rw [eg]
      rw [if_pos (by rfl)]
      go_simp
      exact hK.out _ _ ⟨A6, c6, (put1 (put1 (put1 u 18 (.pointer (some ⟨gr, 0, none⟩))) 14 (.bool true)) 19 (.pointer (some ⟨gr, 1, none⟩))), ⟨rfl, ((hI.out.2.1.same (s := 18) (v := .pointer (some ⟨gr, 0, none⟩)) e13).same (s := 14) (v := .bool true) eg).upd 14 rfl rfl rfl rfl, hI.out.2.2.1, hI.out.2.2.2⟩⟩
    · intro LL a wx hI hLk hd K' hK
      obtain ⟨A6, c6, u, hI⟩ := hI
      obtain rfl := hI.out.1
      have e14 := hI.out.2.1.at 14 rfl (hd 14 rfl)
      have hb := hI.out.2.2.1
      have d0 : wx.cell? ⟨gr, 0, none⟩ = some (.slice Av bs.length cv) := cell_keep hb.out c0
      have d1 : wx.cell? ⟨gr, 1, none⟩ = some (.int .i64 (lo : Int)) := cell_keep hb.out c1
      have eg := hI.out.2.1.at 9 rfl (hd 9 rfl)
      rw [eg]
      rw [if_pos (by rfl)]
      go_simp
      exact hK.out _ _ ⟨A6, c6, (put1 (put1 (put1 u 19 (.pointer (some ⟨gr, 1, none⟩))) 14 (.bool true)) 20 (.int .i64 (lo : Int))), ⟨rfl, ((hI.out.2.1.same (s := 19) (v := .pointer (some ⟨gr, 1, none⟩)) e14).same (s := 14) (v := .bool true) eg).upd 15 rfl rfl rfl rfl, hI.out.2.2.1, hI.out.2.2.2⟩⟩
    · intro LL a wx hI hLk hd K' hK
      obtain ⟨A6, c6, u, hI⟩ := hI
      obtain rfl := hI.out.1
      have e11 := hI.out.2.1.at 11 rfl (hd 11 rfl)
      have e15 := hI.out.2.1.at 15 rfl (hd 15 rfl)
      have eg := hI.out.2.1.at 9 rfl (hd 9 rfl)
      rw [eg]
      rw [if_pos (by rfl)]
      go_simp
      exact hK.out _ _ ⟨A6, c6, (put1 (put1 (put1 (put1 u 16 (.int .i64 (lo : Int))) 20 (.int .i64 (lo : Int))) 14 (.bool true)) 21 (.bool true)), ⟨rfl, (((hI.out.2.1.same (s := 16) (v := .int .i64 (lo : Int)) e11).same (s := 20) (v := .int .i64 (lo : Int)) e15).same (s := 14) (v := .bool true) eg).upd 16 rfl rfl rfl rfl, hI.out.2.2.1, hI.out.2.2.2⟩⟩
    · intro LL a wx hI hLk hd K' hK
      obtain ⟨A6, c6, u, hI⟩ := hI
      obtain rfl := hI.out.1
      have e9 := hI.out.2.1.at 9 rfl (hd 9 rfl)
      have e16 := hI.out.2.1.at 16 rfl (hd 16 rfl)
      rw [if_pos (by rfl)]
      go_simp
      exact hK.out _ _ ⟨A6, c6, (put1 (put1 (put1 u 14 (.bool true)) 21 (.bool true)) 22 (.bool true)), ⟨rfl, ((hI.out.2.1.same (s := 14) (v := .bool true) e9).same (s := 21) (v := .bool true) e16).upd 17 rfl rfl rfl rfl, hI.out.2.2.1, hI.out.2.2.2⟩⟩
    · intro LL a wx hI hLk hd K' hK
      obtain ⟨A6, c6, u, hI⟩ := hI
      obtain rfl := hI.out.1
      have e17 := hI.out.2.1.at 17 rfl (hd 17 rfl)
      rw [if_pos (by rfl)]
      go_simp
      exact hK.out _ _ ⟨A6, c6, (put1 (put1 u 22 (.bool true)) 4 (.bool true)), ⟨rfl, (hI.out.2.1.same (s := 22) (v := .bool true) e17).upd 18 rfl rfl rfl rfl, hI.out.2.2.1, hI.out.2.2.2⟩⟩
  · intro LL a w9 hall hI
    obtain ⟨A6, c6, u, hI⟩ := hI
    obtain rfl := hI.out.1
    have hb := hI.out.2.2.1
    have hc := hI.out.2.2.2
    have e18 := hI.out.2.1.at 18 rfl (hall 18 (by decide))
    rw [e18]
    go_wp2
    go_ret
    exact ⟨rfl, hb.out⟩
set_option maxHeartbeats 4000000 in
set_option maxRecDepth 100000 in
theorem rcrash_calls (base gr : Nat) (B : Nat → Prop) (bs : List Int) (lo : Nat) (keep : Int) (W : World) (HR : Rf W gr B bs lo) (hb : base ≤ gr) (hlo : lo ≤ bs.length) (hl : bs.length ≤ 100000000) :
    Calls Try.prog 33 #[.pointer (some ⟨gr, 0, none⟩), .int .i64 keep] W fun e w' => e = .returned (.tuple #[]) ∧ Rf w' gr B (bs.take (kept bs.length (bs.length - lo) keep)) 0 ∧ Fr base (fun k => k = gr) W w' := by
  obtain ⟨x, h1, h2, h3⟩ := HR
  obtain ⟨Av, cv, rfl⟩ := Kd.V_slice h2
  obtain ⟨_, hcap, _⟩ := Kd.V_at h2
  have c0 : W.cell? ⟨gr, 0, none⟩ = some (.slice Av bs.length cv) := (blk_cell h1 0).trans rfl
  have c1 : W.cell? ⟨gr, 1, none⟩ = some (.int .i64 (lo : Int)) := (blk_cell h1 1).trans rfl
  have z0 := blk_frozen h1 0
  have z1 := blk_frozen h1 1
  obtain ⟨M, hM⟩ : ∃ M : Int, (if keep < 0 then (0 : Int) else keep) = M := ⟨_, rfl⟩
  obtain ⟨X, hX⟩ : ∃ X : Int, (if (lo : Int) < M then (lo : Int) else M) = X := ⟨_, rfl⟩
  obtain ⟨S, hS⟩ : ∃ S : Int, IntKind.i64.wrap ((bs.length : Int) - (lo : Int)) = S := ⟨_, rfl⟩
  have hX' : X = min (max keep 0) (lo : Int) := by rw [← hX, ← hM]; split <;> split <;> omega
  have hS' : S = ((bs.length - lo : Nat) : Int) := by rw [← hS, i64_w]; unfold wrap64; omega
  obtain ⟨J, hJ⟩ : ∃ J : Nat, J = kept bs.length (bs.length - lo) keep := ⟨_, rfl⟩
  have hJe : (J : Int) = S + X := by rw [hJ, hS', hX']; unfold kept; omega
  have hJl : J ≤ bs.length := by omega
  obtain ⟨i0, hi0, _⟩ := Option.map_eq_some_iff.1 info5
  have HCUT := Aside0.mk (cut_to (P := Try.prog) 22 5 .i64 Try.underlying22 hi0 Av bs.length cv (J : Int) (by omega) (by omega) hcap)
  have HMM := Aside0.mk hM
  have HXX := Aside0.mk hX
  have HSB := Aside0.mk hS
  have HJJ : Aside0 (IntKind.i64.wrap (S + X) = (J : Int)) := ⟨by rw [← hJe, i64_w]; unfold wrap64; omega⟩
  rw [← hJ]
  have hfin : Rf ((W.drew.setCell ⟨gr, 0, none⟩ (.slice Av J cv)).setCell ⟨gr, 1, none⟩ (.int .i64 0)) gr B (bs.take J) 0 :=
    ⟨_, blk_put (blk_put (cs := #[.slice Av bs.length cv, .int .i64 (lo : Int)]) (blk_below h1 (below_drew (Below.refl _ _))) 0 _ rfl) 1 _ rfl, Kd.V_far (p := ⟨gr, 1, none⟩) (Kd.V_far (p := ⟨gr, 0, none⟩) (V_take (Kd.V_drew h2) hJl) (fun k hk he => h3 (by rw [show k = gr from he] at hk; exact hk)) _) (fun k hk he => h3 (by rw [show k = gr from he] at hk; exact hk)) _, h3⟩
  have HF := Aside0.mk (And.intro hfin (((Fr.refl base (fun k => k = gr) W).step (below_drew (Below.refl _ _)) (by have := blk_lt h1; omega)).set (p := ⟨gr, 0, none⟩) rfl hb (.slice Av J cv) |>.set (p := ⟨gr, 1, none⟩) rfl hb (.int .i64 0)))
  clear h1 h2 h3 hM hX hS hX' hS' hJ hJe hJl hi0 hcap hb hlo hl hfin
  go_enter Try.func33, Try.ntmps33
  go_wp2_with fail
  refine wp_region_steps 27 rfl rfl (by kernel_rfl) (fun LL a wx => ∃ u : Nat → Value, Aside0 (a = { tmps := List.toArray (.pointer (some ⟨gr, 0, none⟩) :: .int .i64 keep :: undef :: undef :: u 4 :: u 5 :: u 6 :: u 7 :: u 8 :: u 9 :: u 10 :: u 11 :: u 12 :: u 13 :: u 14 :: u 15 :: u 16 :: u 17 :: u 18 :: u 19 :: u 20 :: u 21 :: u 22 :: u 23 :: u 24 :: u 25 :: u 26 :: u 27 :: u 28 :: u 29 :: undef :: undef :: undef :: []), defers := [] } ∧ Tab LL u [(0, 4, .pointer (some ⟨gr, 0, none⟩)), (1, 5, .pointer (some ⟨gr, 0, none⟩)), (2, 6, .pointer (some ⟨gr, 0, none⟩)), (3, 7, .pointer (some ⟨gr, 0, none⟩)), (4, 8, .slice Av bs.length cv), (5, 9, .pointer (some ⟨gr, 0, none⟩)), (6, 10, .pointer (some ⟨gr, 0, none⟩)), (7, 11, .pointer (some ⟨gr, 0, none⟩)), (8, 12, .slice Av bs.length cv), (9, 13, .int .i64 (bs.length : Int)), (10, 14, .pointer (some ⟨gr, 0, none⟩)), (11, 15, .pointer (some ⟨gr, 0, none⟩)), (12, 16, .pointer (some ⟨gr, 1, none⟩)), (13, 17, .int .i64 (lo : Int)), (14, 18, .int .i64 S), (15, 19, .int .i64 keep), (16, 20, .int .i64 M), (17, 21, .pointer (some ⟨gr, 0, none⟩)), (18, 22, .pointer (some ⟨gr, 0, none⟩)), (19, 23, .pointer (some ⟨gr, 1, none⟩)), (20, 24, .int .i64 (lo : Int)), (21, 25, .int .i64 X), (22, 26, .int .i64 (J : Int)), (23, 27, .slice Av J cv), (24, 28, .pointer (some ⟨gr, 0, none⟩)), (25, 29, .pointer (some ⟨gr, 0, none⟩))] ∧ Aside0 (wx = bif LL 26 then W.drew.setCell ⟨gr, 0, none⟩ (.slice Av J cv) else W.drew) ∧ Aside0 (LL 26 = true → LL 4 = true ∧ LL 8 = true ∧ LL 13 = true ∧ LL 20 = true))) ?_ ?_ ?_
  · exact ⟨fun _ => undef, ⟨rfl, Tab.start 27 rfl rfl, ⟨rfl⟩, ⟨fun h => absurd h (by decide)⟩⟩⟩
  · refine Steps.cons ?_ (Steps.cons ?_ (Steps.cons ?_ (Steps.cons ?_ (Steps.cons ?_ (Steps.cons ?_ (Steps.cons ?_ (Steps.cons ?_ (Steps.cons ?_ (Steps.cons ?_ (Steps.cons ?_ (Steps.cons ?_ (Steps.cons ?_ (Steps.cons ?_ (Steps.cons ?_ (Steps.cons ?_ (Steps.cons ?_ (Steps.cons ?_ (Steps.cons ?_ (Steps.cons ?_ (Steps.cons ?_ (Steps.cons ?_ (Steps.cons ?_ (Steps.cons ?_ (Steps.cons ?_ (Steps.cons ?_ (Steps.cons ?_ (Steps.nil)))))))))))))))))))))))))))
    · intro LL a wx hI hLk hd K' hK
      obtain ⟨u, hI⟩ := hI
      obtain rfl := hI.out.1
      rw [if_pos (by rfl)]
      go_simp
      exact hK.out _ _ ⟨(put1 u 4 (.pointer (some ⟨gr, 0, none⟩))), ⟨rfl, hI.out.2.1.upd 0 rfl rfl rfl rfl, hI.out.2.2.1, hI.out.2.2.2⟩⟩
    · intro LL a wx hI hLk hd K' hK
      obtain ⟨u, hI⟩ := hI
      obtain rfl := hI.out.1
      rw [if_pos (by rfl)]
      go_simp
      exact hK.out _ _ ⟨(put1 u 5 (.pointer (some ⟨gr, 0, none⟩))), ⟨rfl, hI.out.2.1.upd 1 rfl rfl rfl rfl, hI.out.2.2.1, hI.out.2.2.2⟩⟩
    · intro LL a wx hI hLk hd K' hK
      obtain ⟨u, hI⟩ := hI
      obtain rfl := hI.out.1
      have e1 := hI.out.2.1.at 1 rfl (hd 1 rfl)
      rw [if_pos (by rfl)]
      go_simp
      exact hK.out _ _ ⟨(put1 (put1 u 5 (.pointer (some ⟨gr, 0, none⟩))) 6 (.pointer (some ⟨gr, 0, none⟩))), ⟨rfl, (hI.out.2.1.same (s := 5) (v := .pointer (some ⟨gr, 0, none⟩)) e1).upd 2 rfl rfl rfl rfl, hI.out.2.2.1, hI.out.2.2.2⟩⟩
    · intro LL a wx hI hLk hd K' hK
      obtain ⟨u, hI⟩ := hI
      obtain rfl := hI.out.1
      have e2 := hI.out.2.1.at 2 rfl (hd 2 rfl)
      rw [if_pos (by rfl)]
      go_simp
      exact hK.out _ _ ⟨(put1 (put1 u 6 (.pointer (some ⟨gr, 0, none⟩))) 7 (.pointer (some ⟨gr, 0, none⟩))), ⟨rfl, (hI.out.2.1.same (s := 6) (v := .pointer (some ⟨gr, 0, none⟩)) e2).upd 3 rfl rfl rfl rfl, hI.out.2.2.1, hI.out.2.2.2⟩⟩
    · intro LL a wx hI hLk hd K' hK
      obtain ⟨u, hI⟩ := hI
      obtain rfl := hI.out.1
      have e3 := hI.out.2.1.at 3 rfl (hd 3 rfl)
      have hw := hI.out.2.2.1
      have hz := hI.out.2.2.2
      have hq := (hw.out).trans (by rw [flag_off (fun h => (hz.out h).1) hLk])
      obtain rfl := hq
      have d0 : W.drew.cell? ⟨gr, 0, none⟩ = some (.slice Av bs.length cv) := c0
      have d1 : W.drew.cell? ⟨gr, 1, none⟩ = some (.int .i64 (lo : Int)) := c1
      rw [if_pos (by rfl)]
      go_simp
      exact hK.out _ _ ⟨(put1 (put1 u 7 (.pointer (some ⟨gr, 0, none⟩))) 8 (.slice Av bs.length cv)), ⟨rfl, (hI.out.2.1.same (s := 7) (v := .pointer (some ⟨gr, 0, none⟩)) e3).upd 4 rfl rfl rfl rfl, hI.out.2.2.1, ⟨fun h => ⟨upd_old (hz.out h).1, upd_old (hz.out h).2.1, upd_old (hz.out h).2.2.1, upd_old (hz.out h).2.2.2⟩⟩⟩⟩
    · intro LL a wx hI hLk hd K' hK
      obtain ⟨u, hI⟩ := hI
      obtain rfl := hI.out.1
      rw [if_pos (by rfl)]
      go_simp
      exact hK.out _ _ ⟨(put1 u 9 (.pointer (some ⟨gr, 0, none⟩))), ⟨rfl, hI.out.2.1.upd 5 rfl rfl rfl rfl, hI.out.2.2.1, hI.out.2.2.2⟩⟩
    · intro LL a wx hI hLk hd K' hK
      obtain ⟨u, hI⟩ := hI
      obtain rfl := hI.out.1
      have e5 := hI.out.2.1.at 5 rfl (hd 5 rfl)
      rw [if_pos (by rfl)]
      go_simp
      exact hK.out _ _ ⟨(put1 (put1 u 9 (.pointer (some ⟨gr, 0, none⟩))) 10 (.pointer (some ⟨gr, 0, none⟩))), ⟨rfl, (hI.out.2.1.same (s := 9) (v := .pointer (some ⟨gr, 0, none⟩)) e5).upd 6 rfl rfl rfl rfl, hI.out.2.2.1, hI.out.2.2.2⟩⟩
    · intro LL a wx hI hLk hd K' hK
      obtain ⟨u, hI⟩ := hI
      obtain rfl := hI.out.1
      have e6 := hI.out.2.1.at 6 rfl (hd 6 rfl)
      rw [if_pos (by rfl)]
      go_simp
      exact hK.out _ _ ⟨(put1 (put1 u 10 (.pointer (some ⟨gr, 0, none⟩))) 11 (.pointer (some ⟨gr, 0, none⟩))), ⟨rfl, (hI.out.2.1.same (s := 10) (v := .pointer (some ⟨gr, 0, none⟩)) e6).upd 7 rfl rfl rfl rfl, hI.out.2.2.1, hI.out.2.2.2⟩⟩
    · intro LL a wx hI hLk hd K' hK
      obtain ⟨u, hI⟩ := hI
      obtain rfl := hI.out.1
      have e7 := hI.out.2.1.at 7 rfl (hd 7 rfl)
      have hw := hI.out.2.2.1
      have hz := hI.out.2.2.2
      have hq := (hw.out).trans (by rw [flag_off (fun h => (hz.out h).2.1) hLk])
      obtain rfl := hq
      have d0 : W.drew.cell? ⟨gr, 0, none⟩ = some (.slice Av bs.length cv) := c0
      have d1 : W.drew.cell? ⟨gr, 1, none⟩ = some (.int .i64 (lo : Int)) := c1
      rw [if_pos (by rfl)]
      go_simp
      exact hK.out _ _ ⟨(put1 (put1 u 11 (.pointer (some ⟨gr, 0, none⟩))) 12 (.slice Av bs.length cv)), ⟨rfl, (hI.out.2.1.same (s := 11) (v := .pointer (some ⟨gr, 0, none⟩)) e7).upd 8 rfl rfl rfl rfl, hI.out.2.2.1, ⟨fun h => ⟨upd_old (hz.out h).1, upd_old (hz.out h).2.1, upd_old (hz.out h).2.2.1, upd_old (hz.out h).2.2.2⟩⟩⟩⟩
    · intro LL a wx hI hLk hd K' hK
      obtain ⟨u, hI⟩ := hI
      obtain rfl := hI.out.1
      have e8 := hI.out.2.1.at 8 rfl (hd 8 rfl)
      rw [if_pos (by rfl)]
      go_simp
      exact hK.out _ _ ⟨(put1 (put1 u 12 (.slice Av bs.length cv)) 13 (.int .i64 (bs.length : Int))), ⟨rfl, (hI.out.2.1.same (s := 12) (v := .slice Av bs.length cv) e8).upd 9 rfl rfl rfl rfl, hI.out.2.2.1, hI.out.2.2.2⟩⟩
    · intro LL a wx hI hLk hd K' hK
      obtain ⟨u, hI⟩ := hI
      obtain rfl := hI.out.1
      rw [if_pos (by rfl)]
      go_simp
      exact hK.out _ _ ⟨(put1 u 14 (.pointer (some ⟨gr, 0, none⟩))), ⟨rfl, hI.out.2.1.upd 10 rfl rfl rfl rfl, hI.out.2.2.1, hI.out.2.2.2⟩⟩
    · intro LL a wx hI hLk hd K' hK
      obtain ⟨u, hI⟩ := hI
      obtain rfl := hI.out.1
      have e10 := hI.out.2.1.at 10 rfl (hd 10 rfl)
      rw [if_pos (by rfl)]
      go_simp
      exact hK.out _ _ ⟨(put1 (put1 u 14 (.pointer (some ⟨gr, 0, none⟩))) 15 (.pointer (some ⟨gr, 0, none⟩))), ⟨rfl, (hI.out.2.1.same (s := 14) (v := .pointer (some ⟨gr, 0, none⟩)) e10).upd 11 rfl rfl rfl rfl, hI.out.2.2.1, hI.out.2.2.2⟩⟩
    · intro LL a wx hI hLk hd K' hK
      obtain ⟨u, hI⟩ := hI
      obtain rfl := hI.out.1
      have e11 := hI.out.2.1.at 11 rfl (hd 11 rfl)
      rw [if_pos (by rfl)]
      go_simp
      exact hK.out _ _ ⟨(put1 (put1 u 15 (.pointer (some ⟨gr, 0, none⟩))) 16 (.pointer (some ⟨gr, 1, none⟩))), ⟨rfl, (hI.out.2.1.same (s := 15) (v := .pointer (some ⟨gr, 0, none⟩)) e11).upd 12 rfl rfl rfl rfl, hI.out.2.2.1, hI.out.2.2.2⟩⟩
    · intro LL a wx hI hLk hd K' hK
      obtain ⟨u, hI⟩ := hI
      obtain rfl := hI.out.1
      have e12 := hI.out.2.1.at 12 rfl (hd 12 rfl)
      have hw := hI.out.2.2.1
      have hz := hI.out.2.2.2
      have hq := (hw.out).trans (by rw [flag_off (fun h => (hz.out h).2.2.1) hLk])
      obtain rfl := hq
      have d0 : W.drew.cell? ⟨gr, 0, none⟩ = some (.slice Av bs.length cv) := c0
      have d1 : W.drew.cell? ⟨gr, 1, none⟩ = some (.int .i64 (lo : Int)) := c1
      rw [if_pos (by rfl)]
      go_simp
      exact hK.out _ _ ⟨(put1 (put1 u 16 (.pointer (some ⟨gr, 1, none⟩))) 17 (.int .i64 (lo : Int))), ⟨rfl, (hI.out.2.1.same (s := 16) (v := .pointer (some ⟨gr, 1, none⟩)) e12).upd 13 rfl rfl rfl rfl, hI.out.2.2.1, ⟨fun h => ⟨upd_old (hz.out h).1, upd_old (hz.out h).2.1, upd_old (hz.out h).2.2.1, upd_old (hz.out h).2.2.2⟩⟩⟩⟩
    · intro LL a wx hI hLk hd K' hK
      obtain ⟨u, hI⟩ := hI
      obtain rfl := hI.out.1
      have e9 := hI.out.2.1.at 9 rfl (hd 9 rfl)
      have e13 := hI.out.2.1.at 13 rfl (hd 13 rfl)
      have hsb := HSB.out
      rw [if_pos (by rfl)]
      go_simp
      exact hK.out _ _ ⟨(put1 (put1 (put1 u 13 (.int .i64 (bs.length : Int))) 17 (.int .i64 (lo : Int))) 18 (.int .i64 S)), ⟨rfl, ((hI.out.2.1.same (s := 13) (v := .int .i64 (bs.length : Int)) e9).same (s := 17) (v := .int .i64 (lo : Int)) e13).upd 14 rfl rfl rfl rfl, hI.out.2.2.1, hI.out.2.2.2⟩⟩
    · intro LL a wx hI hLk hd K' hK
      obtain ⟨u, hI⟩ := hI
      obtain rfl := hI.out.1
      rw [if_pos (by rfl)]
      go_simp
      exact hK.out _ _ ⟨(put1 u 19 (.int .i64 keep)), ⟨rfl, hI.out.2.1.upd 15 rfl rfl rfl rfl, hI.out.2.2.1, hI.out.2.2.2⟩⟩
    · intro LL a wx hI hLk hd K' hK
      obtain ⟨u, hI⟩ := hI
      obtain rfl := hI.out.1
      have e15 := hI.out.2.1.at 15 rfl (hd 15 rfl)
      have hm := HMM.out
      rw [if_pos (by rfl)]
      go_simp
      exact hK.out _ _ ⟨(put1 (put1 u 19 (.int .i64 keep)) 20 (.int .i64 M)), ⟨rfl, (hI.out.2.1.same (s := 19) (v := .int .i64 keep) e15).upd 16 rfl rfl rfl rfl, hI.out.2.2.1, hI.out.2.2.2⟩⟩
    · intro LL a wx hI hLk hd K' hK
      obtain ⟨u, hI⟩ := hI
      obtain rfl := hI.out.1
      rw [if_pos (by rfl)]
      go_simp
      exact hK.out _ _ ⟨(put1 u 21 (.pointer (some ⟨gr, 0, none⟩))), ⟨rfl, hI.out.2.1.upd 17 rfl rfl rfl rfl, hI.out.2.2.1, hI.out.2.2.2⟩⟩
    · intro LL a wx hI hLk hd K' hK
      obtain ⟨u, hI⟩ := hI
      obtain rfl := hI.out.1
      have e17 := hI.out.2.1.at 17 rfl (hd 17 rfl)
      rw [if_pos (by rfl)]
      go_simp
      exact hK.out _ _ ⟨(put1 (put1 u 21 (.pointer (some ⟨gr, 0, none⟩))) 22 (.pointer (some ⟨gr, 0, none⟩))), ⟨rfl, (hI.out.2.1.same (s := 21) (v := .pointer (some ⟨gr, 0, none⟩)) e17).upd 18 rfl rfl rfl rfl, hI.out.2.2.1, hI.out.2.2.2⟩⟩
    · intro LL a wx hI hLk hd K' hK
      obtain ⟨u, hI⟩ := hI
      obtain rfl := hI.out.1
      have e18 := hI.out.2.1.at 18 rfl (hd 18 rfl)
      rw [if_pos (by rfl)]
      go_simp
      exact hK.out _ _ ⟨(put1 (put1 u 22 (.pointer (some ⟨gr, 0, none⟩))) 23 (.pointer (some ⟨gr, 1, none⟩))), ⟨rfl, (hI.out.2.1.same (s := 22) (v := .pointer (some ⟨gr, 0, none⟩)) e18).upd 19 rfl rfl rfl rfl, hI.out.2.2.1, hI.out.2.2.2⟩⟩
    · intro LL a wx hI hLk hd K' hK
      obtain ⟨u, hI⟩ := hI
      obtain rfl := hI.out.1
      have e19 := hI.out.2.1.at 19 rfl (hd 19 rfl)
      have hw := hI.out.2.2.1
      have hz := hI.out.2.2.2
      have hq := (hw.out).trans (by rw [flag_off (fun h => (hz.out h).2.2.2) hLk])
      obtain rfl := hq
      have d0 : W.drew.cell? ⟨gr, 0, none⟩ = some (.slice Av bs.length cv) := c0
      have d1 : W.drew.cell? ⟨gr, 1, none⟩ = some (.int .i64 (lo : Int)) := c1
      rw [if_pos (by rfl)]
      go_simp
      exact hK.out _ _ ⟨(put1 (put1 u 23 (.pointer (some ⟨gr, 1, none⟩))) 24 (.int .i64 (lo : Int))), ⟨rfl, (hI.out.2.1.same (s := 23) (v := .pointer (some ⟨gr, 1, none⟩)) e19).upd 20 rfl rfl rfl rfl, hI.out.2.2.1, ⟨fun h => ⟨upd_old (hz.out h).1, upd_old (hz.out h).2.1, upd_old (hz.out h).2.2.1, upd_old (hz.out h).2.2.2⟩⟩⟩⟩
    · intro LL a wx hI hLk hd K' hK
      obtain ⟨u, hI⟩ := hI
      obtain rfl := hI.out.1
      have e16 := hI.out.2.1.at 16 rfl (hd 16 rfl)
      have e20 := hI.out.2.1.at 20 rfl (hd 20 rfl)
      have hx := HXX.out
      rw [if_pos (by rfl)]
      go_simp
      exact hK.out _ _ ⟨(put1 (put1 (put1 u 20 (.int .i64 M)) 24 (.int .i64 (lo : Int))) 25 (.int .i64 X)), ⟨rfl, ((hI.out.2.1.same (s := 20) (v := .int .i64 M) e16).same (s := 24) (v := .int .i64 (lo : Int)) e20).upd 21 rfl rfl rfl rfl, hI.out.2.2.1, hI.out.2.2.2⟩⟩
    · intro LL a wx hI hLk hd K' hK
      obtain ⟨u, hI⟩ := hI
      obtain rfl := hI.out.1
      have e14 := hI.out.2.1.at 14 rfl (hd 14 rfl)
      have e21 := hI.out.2.1.at 21 rfl (hd 21 rfl)
      have hj := HJJ.out
      rw [if_pos (by rfl)]
      go_simp
      exact hK.out _ _ ⟨(put1 (put1 (put1 u 18 (.int .i64 S)) 25 (.int .i64 X)) 26 (.int .i64 (J : Int))), ⟨rfl, ((hI.out.2.1.same (s := 18) (v := .int .i64 S) e14).same (s := 25) (v := .int .i64 X) e21).upd 22 rfl rfl rfl rfl, hI.out.2.2.1, hI.out.2.2.2⟩⟩
    · intro LL a wx hI hLk hd K' hK
      obtain ⟨u, hI⟩ := hI
      obtain rfl := hI.out.1
      have e4 := hI.out.2.1.at 4 rfl (hd 4 rfl)
      have e22 := hI.out.2.1.at 22 rfl (hd 22 rfl)
      have hcut := HCUT.out
      rw [if_pos (by rfl)]
      go_simp
      exact hK.out _ _ ⟨(put1 (put1 (put1 u 8 (.slice Av bs.length cv)) 26 (.int .i64 (J : Int))) 27 (.slice Av J cv)), ⟨rfl, ((hI.out.2.1.same (s := 8) (v := .slice Av bs.length cv) e4).same (s := 26) (v := .int .i64 (J : Int)) e22).upd 23 rfl rfl rfl rfl, hI.out.2.2.1, hI.out.2.2.2⟩⟩
    · intro LL a wx hI hLk hd K' hK
      obtain ⟨u, hI⟩ := hI
      obtain rfl := hI.out.1
      have e0 := hI.out.2.1.at 0 rfl (hd 0 rfl)
      rw [if_pos (by rfl)]
      go_simp
      exact hK.out _ _ ⟨(put1 (put1 u 4 (.pointer (some ⟨gr, 0, none⟩))) 28 (.pointer (some ⟨gr, 0, none⟩))), ⟨rfl, (hI.out.2.1.same (s := 4) (v := .pointer (some ⟨gr, 0, none⟩)) e0).upd 24 rfl rfl rfl rfl, hI.out.2.2.1, hI.out.2.2.2⟩⟩
    · intro LL a wx hI hLk hd K' hK
      obtain ⟨u, hI⟩ := hI
      obtain rfl := hI.out.1
      have e24 := hI.out.2.1.at 24 rfl (hd 24 rfl)
      rw [if_pos (by rfl)]
      go_simp
      exact hK.out _ _ ⟨(put1 (put1 u 28 (.pointer (some ⟨gr, 0, none⟩))) 29 (.pointer (some ⟨gr, 0, none⟩))), ⟨rfl, (hI.out.2.1.same (s := 28) (v := .pointer (some ⟨gr, 0, none⟩)) e24).upd 25 rfl rfl rfl rfl, hI.out.2.2.1, hI.out.2.2.2⟩⟩
    · intro LL a wx hI hLk hd K' hK
      obtain ⟨u, hI⟩ := hI
      obtain rfl := hI.out.1
      have e25 := hI.out.2.1.at 25 rfl (hd 25 rfl)
      have e23 := hI.out.2.1.at 23 rfl (hd 23 rfl)
      have hw := hI.out.2.2.1
      have hq := (hw.out).trans (by rw [hLk])
      obtain rfl := hq
      have d0 : W.drew.cell? ⟨gr, 0, none⟩ = some (.slice Av bs.length cv) := c0
      have e0 : W.drew.frozen? ⟨gr, 0, none⟩ = false := z0
      rw [if_pos (by rfl)]
      go_simp
      exact hK.out _ _ ⟨(put1 (put1 u 29 (.pointer (some ⟨gr, 0, none⟩))) 27 (.slice Av J cv)), ⟨rfl, ((hI.out.2.1.same (s := 29) (v := .pointer (some ⟨gr, 0, none⟩)) e25).same (s := 27) (v := .slice Av J cv) e23).none 26 rfl, ⟨rfl⟩, ⟨fun _ => ⟨hd 4 rfl, hd 8 rfl, hd 13 rfl, hd 20 rfl⟩⟩⟩⟩
  · intro LL a w9 hall hI
    obtain ⟨u, hI⟩ := hI
    obtain rfl := hI.out.1
    have hw := hI.out.2.2.1
    have hz := hI.out.2.2.2
    have e0 := hI.out.2.1.at 0 rfl (hall 0 (by decide))
    have hq := (hw.out).trans (by rw [hall 26 (by decide)])
    obtain rfl := hq
    have d0 : W.drew.cell? ⟨gr, 0, none⟩ = some (.slice Av bs.length cv) := c0
    have d1 : W.drew.cell? ⟨gr, 1, none⟩ = some (.int .i64 (lo : Int)) := c1
    have e1 : W.drew.frozen? ⟨gr, 1, none⟩ = false := z1
    have e2 : W.drew.frozen? ⟨gr, 0, none⟩ = false := z0
    clear hI hw hz
    go_wp2
    refine bodyPost_end (results_none rfl _ _ _) rfl ?_
    exact ⟨rfl, HF.out⟩
set_option maxHeartbeats 8000000 in
set_option maxRecDepth 100000 in
theorem do_calls (w0 W : World) (g gr : Nat) (P B : Nat → Prop) (bs l : List Int) (s : Nat) (dd nn : Int) (Ad : Option Addr) (cd : Nat) (hB : Below w0.heap.size w0 W) (HP : Pair w0.heap.size W g gr P B bs s) (hC : Kd.C (Kd.int .u8) w0 Ad l.length l) (hl : bs.length + l.length ≤ 100000000) :
    Calls Try.prog 26 #[.pointer (some ⟨g, 0, none⟩), .pointer (some ⟨gr, 0, none⟩), .agg #[.int .i64 dd, .int .i64 nn, .slice Ad l.length cd]] W (DoPost w0 W g gr P B bs l) := by
  obtain ⟨lo, hlo⟩ : ∃ lo : Nat, lo = bs.length - s := ⟨_, rfl⟩
  have hsl := HP.le
  obtain ⟨hm, ⟨x, h1, h2, h3⟩, p1, p2, p3, p4, p5⟩ := HP
  rw [← hlo] at h1
  obtain ⟨Av, cv, rfl⟩ := Kd.V_slice h2
  have HP0 := Aside0.mk (⟨hm, ⟨_, by rw [← hlo]; exact h1, h2, h3⟩, p1, p2, p3, p4, p5⟩ : Pair w0.heap.size W g gr P B bs s)
  have HM := Aside0.mk hm
  have HV0 := Aside0.mk h2
  have HG0 := Aside0.mk h1
  have HP1 := Aside0.mk (And.intro p2 (And.intro p3 (And.intro p4 p5)))
  have HNB := Aside0.mk h3
  have HGE := Aside0.mk p1
  have HC := Aside0.mk hC
  have HW0 := Aside0.mk hB
  have HLN0 := Aside0.mk (And.intro hl (And.intro hsl hlo))
  obtain ⟨bl, hbl⟩ : ∃ bl, bl = bs ++ l := ⟨_, rfl⟩
  have HBL := Aside0.mk hbl
  obtain ⟨lo2, hlo2⟩ : ∃ lo2 : Nat, lo2 = lo + l.length := ⟨_, rfl⟩
  have HSB : Aside0 (IntKind.i64.wrap ((lo : Int) + (l.length : Int)) = (lo2 : Int)) := ⟨by rw [i64_w, hlo2]; unfold wrap64; omega⟩
  have HLO2 := Aside0.mk hlo2
  clear hm h1 h2 h3 p1 p2 p3 p4 p5 hC hB hl hsl hlo hbl hlo2
  by_cases q0 : dd = 0
  · subst q0
    go_enter Try.func26, Try.ntmps26
    go_wp2_with ((with_reducible refine gate_dst (N := 5) rfl ?_); refine box_event ?hg (N := 5) ?hd (cs := #[.int .i64 0, .int .i64 nn, .slice Ad l.length cd]) (t := 48) ?hr ?_; (case hd => rfl); (case hg => rfl); (case hr => first | (go_simp; done) | (go_simp; rfl)); intro gd hgd w1 hbox hb; have d0 : w1.cell? ⟨gd, 0, none⟩ = some (.int .i64 0) := (blk_cell hbox 0).trans rfl; have d1 : w1.cell? ⟨gd, 1, none⟩ = some (.int .i64 nn) := (blk_cell hbox 1).trans rfl; have d2 : w1.cell? ⟨gd, 2, none⟩ = some (.slice Ad l.length cd) := (blk_cell hbox 2).trans rfl; have HD1 := Aside0.mk hbox; have HB1 := Aside0.mk hb; have HGD := Aside0.mk hgd; clear hbox hb hgd)
    go_at_call 13; refine (append_calls w0.heap.size g _ _ bs l s P w1 (HM.out.below HB1.out) (Kd.C_below HC.out (below_step HW0.out HB1.out)) (by have := HLN0.out; omega) (below_step HW0.out HB1.out).size HP1.out.1).mono ?_
    rintro e w2 ⟨rfl, hm, hf⟩
    have HNE : Aside0 (¬ gd = gr) := ⟨fun e => by have := blk_lt HG0.out; have := HGD.out; omega⟩
    have HD : Aside0 (w2.heap[gd]? = some (.cells #[.int .i64 0, .int .i64 nn, .slice Ad l.length cd] 48 (0, 0))) := ⟨(hf.block gd (blk_lt HD1.out) (fun h => by have := HP1.out.2.2.2 gd (.inl h); have := HGD.out; omega)).trans HD1.out⟩
    have HG : Aside0 (w2.heap[gr]? = some (.cells #[.slice Av bs.length cv, .int .i64 (lo : Int)] 45 (0, 0))) := ⟨(hf.block gr (Nat.lt_of_lt_of_le (blk_lt HG0.out) HB1.out.size) HP1.out.2.1).trans (blk_below HG0.out HB1.out)⟩
    have HV : Aside0 (Kd.V (Kd.int .u8) 5 w2 0 B (.slice Av bs.length cv) bs) := ⟨Kd.V_step (Kd.V_below HV0.out HB1.out) (fun k hk hl => hf.block k hl (fun h => HP1.out.2.2.1 k h hk))⟩
    have HW2 : Aside0 (Below w0.heap.size w0 w2) := ⟨(below_step HW0.out HB1.out).trans hf.below⟩
    have HGL : Aside0 (gr < w2.heap.size) := ⟨blk_lt HG.out⟩
    have HLN : Aside0 ((bs.length + l.length) * 1 ≤ 140737488355328 ∧ (([] : List Int).length + bs.length) * 1 ≤ 140737488355328) := ⟨by have := HLN0.out; simp; omega⟩
    have FIN : Aside0 (∀ (wx : World) (A : Option Addr) (c : Nat), Fr w0.heap.size (fun k => k = gr) w2 wx → wx.heap[gr]? = some (.cells #[.slice A bl.length c, .int .i64 (lo2 : Int)] 45 (0, 0)) → Kd.R (Kd.int .u8) 5 wx w2.heap.size (fun _ => True) (.slice A bl.length c) bl → DoPost w0 W g gr P B bs l (.returned (.tuple #[])) wx) := ⟨fun wx A c fr hg hr => by
      have hm2 := (hm.cap).fr fr (fun k hk e => by
        have e : k = gr := e
        subst e
        rcases hk.1 with h | h
        · exact HP1.out.2.1 h
        · have := blk_lt HG0.out; have := HB1.out.size; omega)
      have hle := HLN0.out
      have hw := HB1.out.size
      have hw2 := hf.below.size
      refine ⟨rfl, fun k => (P k ∨ w1.heap.size ≤ k) ∧ k < w2.heap.size, fun k => w2.heap.size ≤ k ∧ k < wx.heap.size, bl, s, ⟨by rw [HBL.out]; exact hm2, ⟨_, ?_, Kd.V_mono (V_of_R (Kd.R_bound hr)) (fun k hk => ⟨hk.2.1, hk.2.2.1⟩), ?_⟩, HGE.out, ?_, ?_, ?_, ?_⟩, ?_, ?_, ?_, ?_⟩
      · rw [show bl.length - s = lo2 by rw [HBL.out, HLO2.out, List.length_append]; omega]; exact hg
      · intro h; have := HGL.out; omega
      · intro k hk; rcases hk.1 with h | h
        · exact HP1.out.1 k h
        · have := HW0.out.size; omega
      · intro h; rcases h.1 with h | h
        · exact HP1.out.2.1 h
        · have := blk_lt HG0.out; omega
      · intro k hk hb; omega
      · intro k hk; have := fr.below.size; rcases hk with hk | hk <;> omega
      · intro k hk; rcases hk.1 with h | h
        · exact .inl h
        · exact .inr (by omega)
      · intro k hk; exact .inr (by omega)
      · exact ((((Fr.refl w0.heap.size _ W).step HB1.out HW0.out.size).then (hf.weak (fun k hk => .inl hk))).then (fr.weak (fun k hk => .inr hk)))
      · rw [HBL.out, List.length_append]; omega⟩
    clear hm hf d0 d1 d2 HD1
    go_wp2_with fail
    refine wp_region_steps 25 rfl rfl (by kernel_rfl) (fun LL a wx => ∃ x19 : Value, ∃ A24 : Option Addr, ∃ c24 : Nat, ∃ A27 : Option Addr, ∃ c27 : Nat, ∃ u : Nat → Value, Aside0 (a = { tmps := List.toArray (.pointer (some ⟨g, 0, none⟩) :: .pointer (some ⟨gr, 0, none⟩) :: .agg #[.int .i64 0, .int .i64 nn, .slice Ad l.length cd] :: undef :: undef :: .pointer (some ⟨gd, 0, none⟩) :: .pointer (some ⟨gd, 0, none⟩) :: .int .i64 0 :: .bool true :: .bool true :: undef :: undef :: undef :: .pointer (some ⟨g, 0, none⟩) :: .pointer (some ⟨gd, 2, none⟩) :: .slice Ad l.length cd :: .tuple #[] :: u 17 :: u 18 :: u 19 :: u 20 :: u 21 :: u 22 :: u 23 :: u 24 :: u 25 :: u 26 :: u 27 :: u 28 :: u 29 :: u 30 :: u 31 :: u 32 :: u 33 :: u 34 :: u 35 :: u 36 :: u 37 :: u 38 :: u 39 :: undef :: undef :: undef :: undef :: undef :: undef :: undef :: undef :: undef :: undef :: undef :: undef :: undef :: undef :: undef :: undef :: undef :: undef :: undef :: undef :: undef :: undef :: undef :: undef :: undef :: undef :: undef :: undef :: undef :: undef :: undef :: undef :: undef :: undef :: []), defers := [] } ∧ Tab LL u [(0, 17, .pointer (some ⟨gr, 0, none⟩)), (1, 18, .pointer (some ⟨gr, 0, none⟩)), (2, 19, x19), (3, 20, .pointer (some ⟨gr, 0, none⟩)), (4, 21, .pointer (some ⟨gr, 0, none⟩)), (5, 22, .pointer (some ⟨gr, 0, none⟩)), (6, 23, .slice Av bs.length cv), (7, 24, .slice A24 bs.length c24), (8, 25, .pointer (some ⟨gd, 2, none⟩)), (9, 26, .slice Ad l.length cd), (10, 27, .slice A27 bl.length c27), (11, 28, .pointer (some ⟨gr, 0, none⟩)), (12, 29, .pointer (some ⟨gr, 0, none⟩)), (13, 30, .pointer (some ⟨gr, 1, none⟩)), (14, 31, .int .i64 (lo : Int)), (15, 32, .pointer (some ⟨gd, 2, none⟩)), (16, 33, .slice Ad l.length cd), (17, 34, .int .i64 (l.length : Int)), (18, 35, .int .i64 (lo2 : Int)), (19, 36, .pointer (some ⟨gr, 0, none⟩)), (20, 37, .pointer (some ⟨gr, 0, none⟩)), (22, 38, .pointer (some ⟨gr, 0, none⟩)), (23, 39, .pointer (some ⟨gr, 1, none⟩))] ∧ Aside0 (Fr w0.heap.size (fun k => k = gr) w2 wx) ∧ Aside0 (wx.heap[gr]? = some (.cells #[bif LL 21 then .slice A27 bl.length c27 else .slice Av bs.length cv, bif LL 24 then .int .i64 (lo2 : Int) else .int .i64 (lo : Int)] 45 (0, 0))) ∧ Aside0 (LL 21 = true → LL 6 = true ∧ LL 14 = true ∧ LL 10 = true) ∧ Aside0 (LL 24 = true → LL 21 = true) ∧ Aside0 (LL 7 = true → LL 2 = true) ∧ Aside0 (LL 10 = true → LL 7 = true) ∧ Aside0 (LL 2 = true → LL 7 = false → Kd.R (Kd.int .u8) 5 wx w2.heap.size (fun _ => True) x19 []) ∧ Aside0 (LL 7 = true → LL 10 = false → Kd.R (Kd.int .u8) 5 wx w2.heap.size (fun _ => True) (.slice A24 bs.length c24) bs) ∧ Aside0 (LL 10 = true → Kd.R (Kd.int .u8) 5 wx w2.heap.size (fun _ => True) (.slice A27 bl.length c27) bl))) ?_ ?_ ?_
    · exact ⟨.slice none 0 0, none, 0, none, 0, fun _ => undef, ⟨rfl, Tab.start 25 rfl rfl, ⟨(Fr.refl _ _ _).step (below_drew (Below.refl _ _)) HW2.out.size⟩, ⟨blk_below HG.out (below_drew (Below.refl _ _))⟩, ⟨fun h => absurd h (by decide)⟩, ⟨fun h => absurd h (by decide)⟩, ⟨fun h => absurd h (by decide)⟩, ⟨fun h => absurd h (by decide)⟩, ⟨fun h => absurd h (by decide)⟩, ⟨fun h => absurd h (by decide)⟩, ⟨fun h => absurd h (by decide)⟩⟩⟩
    · refine Steps.cons ?_ (Steps.cons ?_ (Steps.cons ?_ (Steps.cons ?_ (Steps.cons ?_ (Steps.cons ?_ (Steps.cons ?_ (Steps.cons ?_ (Steps.cons ?_ (Steps.cons ?_ (Steps.cons ?_ (Steps.cons ?_ (Steps.cons ?_ (Steps.cons ?_ (Steps.cons ?_ (Steps.cons ?_ (Steps.cons ?_ (Steps.cons ?_ (Steps.cons ?_ (Steps.cons ?_ (Steps.cons ?_ (Steps.cons ?_ (Steps.cons ?_ (Steps.cons ?_ (Steps.cons ?_ (Steps.nil)))))))))))))))))))))))))
      · intro LL a wx hI hLk hd K' hK
        obtain ⟨x19, A24, c24, A27, c27, u, hI⟩ := hI
        obtain rfl := hI.out.1
        rw [if_pos (by rfl)]
        go_simp
        exact hK.out _ _ ⟨x19, A24, c24, A27, c27, (put1 u 17 (.pointer (some ⟨gr, 0, none⟩))), ⟨rfl, hI.out.2.1.upd 0 rfl rfl rfl rfl, hI.out.2.2.1, hI.out.2.2.2.1, hI.out.2.2.2.2.1, hI.out.2.2.2.2.2.1, hI.out.2.2.2.2.2.2.1, hI.out.2.2.2.2.2.2.2.1, hI.out.2.2.2.2.2.2.2.2.1, hI.out.2.2.2.2.2.2.2.2.2.1, hI.out.2.2.2.2.2.2.2.2.2.2⟩⟩
      · intro LL a wx hI hLk hd K' hK
        obtain ⟨x19, A24, c24, A27, c27, u, hI⟩ := hI
        obtain rfl := hI.out.1
        rw [if_pos (by rfl)]
        go_simp
        exact hK.out _ _ ⟨x19, A24, c24, A27, c27, (put1 u 18 (.pointer (some ⟨gr, 0, none⟩))), ⟨rfl, hI.out.2.1.upd 1 rfl rfl rfl rfl, hI.out.2.2.1, hI.out.2.2.2.1, hI.out.2.2.2.2.1, hI.out.2.2.2.2.2.1, hI.out.2.2.2.2.2.2.1, hI.out.2.2.2.2.2.2.2.1, hI.out.2.2.2.2.2.2.2.2.1, hI.out.2.2.2.2.2.2.2.2.2.1, hI.out.2.2.2.2.2.2.2.2.2.2⟩⟩
      · intro LL a wx hI hLk hd K' hK
        obtain ⟨x19, A24, c24, A27, c27, u, hI⟩ := hI
        obtain rfl := hI.out.1
        have hfr := hI.out.2.2.1
        have hgr := hI.out.2.2.2.1
        have hp7 := hI.out.2.2.2.2.2.2.1
        have hp10 := hI.out.2.2.2.2.2.2.2.1
        have hfr0 := hfr.out
        refine Kd.R_lit_step (Kd.int .u8) (w0 := wx) w2.heap.size 5 (by rfl) (N := 19) rfl (xs := ([] : List Int)) (inner := []) (ok := fun _ => True) (okp := fun _ => True) (by first | (go_simp; done) | (go_simp; rfl)) (Reps.none _ _) (fun _ hk => hk) trivial (Below.refl _ _) hfr.out.below.size (by simp) ?_
        intro x' w3 ho hb1 hg1 hn1
        exact hK.out _ _ ⟨x', A24, c24, A27, c27, (put1 u 19 x'), ⟨rfl, hI.out.2.1.upd 2 rfl rfl rfl rfl, ⟨hfr.out.new hg1 HW2.out.size (fun q e => by cases e)⟩, ⟨(hg1.block gr (blk_lt hgr.out) (fun e => by cases e)).trans hgr.out⟩, hI.out.2.2.2.2.1, hI.out.2.2.2.2.2.1, ⟨fun _ => rfl⟩, hI.out.2.2.2.2.2.2.2.1, ⟨fun _ _ => ho⟩, ⟨fun h => absurd (hp7.out h) (by rw [hLk]; decide)⟩, ⟨fun h => absurd (hp7.out (hp10.out h)) (by rw [hLk]; decide)⟩⟩⟩
      · intro LL a wx hI hLk hd K' hK
        obtain ⟨x19, A24, c24, A27, c27, u, hI⟩ := hI
        obtain rfl := hI.out.1
        rw [if_pos (by rfl)]
        go_simp
        exact hK.out _ _ ⟨x19, A24, c24, A27, c27, (put1 u 20 (.pointer (some ⟨gr, 0, none⟩))), ⟨rfl, hI.out.2.1.upd 3 rfl rfl rfl rfl, hI.out.2.2.1, hI.out.2.2.2.1, hI.out.2.2.2.2.1, hI.out.2.2.2.2.2.1, hI.out.2.2.2.2.2.2.1, hI.out.2.2.2.2.2.2.2.1, hI.out.2.2.2.2.2.2.2.2.1, hI.out.2.2.2.2.2.2.2.2.2.1, hI.out.2.2.2.2.2.2.2.2.2.2⟩⟩
      · intro LL a wx hI hLk hd K' hK
        obtain ⟨x19, A24, c24, A27, c27, u, hI⟩ := hI
        obtain rfl := hI.out.1
        have e3 := hI.out.2.1.at 3 rfl (hd 3 rfl)
        rw [if_pos (by rfl)]
        go_simp
        exact hK.out _ _ ⟨x19, A24, c24, A27, c27, (put1 (put1 u 20 (.pointer (some ⟨gr, 0, none⟩))) 21 (.pointer (some ⟨gr, 0, none⟩))), ⟨rfl, (hI.out.2.1.same (s := 20) (v := .pointer (some ⟨gr, 0, none⟩)) e3).upd 4 rfl rfl rfl rfl, hI.out.2.2.1, hI.out.2.2.2.1, hI.out.2.2.2.2.1, hI.out.2.2.2.2.2.1, hI.out.2.2.2.2.2.2.1, hI.out.2.2.2.2.2.2.2.1, hI.out.2.2.2.2.2.2.2.2.1, hI.out.2.2.2.2.2.2.2.2.2.1, hI.out.2.2.2.2.2.2.2.2.2.2⟩⟩
      · intro LL a wx hI hLk hd K' hK
        obtain ⟨x19, A24, c24, A27, c27, u, hI⟩ := hI
        obtain rfl := hI.out.1
        have e4 := hI.out.2.1.at 4 rfl (hd 4 rfl)
        rw [if_pos (by rfl)]
        go_simp
        exact hK.out _ _ ⟨x19, A24, c24, A27, c27, (put1 (put1 u 21 (.pointer (some ⟨gr, 0, none⟩))) 22 (.pointer (some ⟨gr, 0, none⟩))), ⟨rfl, (hI.out.2.1.same (s := 21) (v := .pointer (some ⟨gr, 0, none⟩)) e4).upd 5 rfl rfl rfl rfl, hI.out.2.2.1, hI.out.2.2.2.1, hI.out.2.2.2.2.1, hI.out.2.2.2.2.2.1, hI.out.2.2.2.2.2.2.1, hI.out.2.2.2.2.2.2.2.1, hI.out.2.2.2.2.2.2.2.2.1, hI.out.2.2.2.2.2.2.2.2.2.1, hI.out.2.2.2.2.2.2.2.2.2.2⟩⟩
      · intro LL a wx hI hLk hd K' hK
        obtain ⟨x19, A24, c24, A27, c27, u, hI⟩ := hI
        obtain rfl := hI.out.1
        have e5 := hI.out.2.1.at 5 rfl (hd 5 rfl)
        have hgr := hI.out.2.2.2.1
        have hz := hI.out.2.2.2.2.1
        have hg := hgr.out
        rw [flag_off (fun h => (hz.out h).1) hLk] at hg
        have d0 : wx.cell? ⟨gr, 0, none⟩ = some (.slice Av bs.length cv) := (blk_cell hg 0).trans rfl
        rw [if_pos (by rfl)]
        go_simp
        exact hK.out _ _ ⟨x19, A24, c24, A27, c27, (put1 (put1 u 22 (.pointer (some ⟨gr, 0, none⟩))) 23 (.slice Av bs.length cv)), ⟨rfl, (hI.out.2.1.same (s := 22) (v := .pointer (some ⟨gr, 0, none⟩)) e5).upd 6 rfl rfl rfl rfl, hI.out.2.2.1, hI.out.2.2.2.1, ⟨fun h => ⟨upd_old (hz.out h).1, upd_old (hz.out h).2.1, upd_old (hz.out h).2.2⟩⟩, hI.out.2.2.2.2.2.1, hI.out.2.2.2.2.2.2.1, hI.out.2.2.2.2.2.2.2.1, hI.out.2.2.2.2.2.2.2.2.1, hI.out.2.2.2.2.2.2.2.2.2.1, hI.out.2.2.2.2.2.2.2.2.2.2⟩⟩
      · intro LL a wx hI hLk hd K' hK
        obtain ⟨x19, A24, c24, A27, c27, u, hI⟩ := hI
        obtain rfl := hI.out.1
        have e2 := hI.out.2.1.at 2 rfl (hd 2 rfl)
        have e6 := hI.out.2.1.at 6 rfl (hd 6 rfl)
        have hfr := hI.out.2.2.1
        have hgr := hI.out.2.2.2.1
        have hp10 := hI.out.2.2.2.2.2.2.2.1
        have h19 := hI.out.2.2.2.2.2.2.2.2.1
        have hr19 := h19.out (hd 2 rfl) hLk
        have hq := Kd.R_base hr19
        refine Kd.R_append_rows_step (Kd.int .u8) (Rr := Kd.K (Kd.int .u8) wx) (w0 := wx) w2.heap.size (by rfl) (.tmp 19) (.tmp 23) 22 5 (.int .u8 0) 1 rfl Try.underlying22 info5 rfl (by decide) (by omega) (x19) [] bs Av bs.length cv (fun _ => True) (fun _ => False) e2 e6 (hr19) ((Kd.V_reads' (Kd.V_step HV.out (fun k hk hl => hfr.out.block k hl (fun e => HNB.out (by rw [show k = gr from e] at hk; exact hk))))).2.2) (fun _ _ h => h) (fun _ h => h.elim) (fun _ _ => trivial) (Below.refl _ _) hfr.out.below.size HLN.out.2 ?_
        intro x' w3 ho hb1 hg1 hn1
        rw [List.nil_append] at ho
        obtain ⟨A', c', rfl, _, _⟩ := Kd.R_reads ho
        exact hK.out _ _ ⟨x19, A', c', A27, c27, (put1 u 24 (.slice A' bs.length c')), ⟨rfl, hI.out.2.1.upd 7 rfl rfl rfl rfl, ⟨hfr.out.new hg1 HW2.out.size (fun q e => hq q e)⟩, ⟨(hg1.block gr (blk_lt hgr.out) (fun e => by have := HGL.out; have := hq gr e.symm; omega)).trans hgr.out⟩, hI.out.2.2.2.2.1, hI.out.2.2.2.2.2.1, ⟨fun _ => upd_old (hd 2 rfl)⟩, ⟨fun _ => rfl⟩, ⟨fun _ h => Bool.noConfusion (show true = false from h)⟩, ⟨fun _ _ => ho⟩, ⟨fun h => absurd (hp10.out h) (by rw [hLk]; decide)⟩⟩⟩
      · intro LL a wx hI hLk hd K' hK
        obtain ⟨x19, A24, c24, A27, c27, u, hI⟩ := hI
        obtain rfl := hI.out.1
        rw [if_pos (by rfl)]
        go_simp
        exact hK.out _ _ ⟨x19, A24, c24, A27, c27, (put1 u 25 (.pointer (some ⟨gd, 2, none⟩))), ⟨rfl, hI.out.2.1.upd 8 rfl rfl rfl rfl, hI.out.2.2.1, hI.out.2.2.2.1, hI.out.2.2.2.2.1, hI.out.2.2.2.2.2.1, hI.out.2.2.2.2.2.2.1, hI.out.2.2.2.2.2.2.2.1, hI.out.2.2.2.2.2.2.2.2.1, hI.out.2.2.2.2.2.2.2.2.2.1, hI.out.2.2.2.2.2.2.2.2.2.2⟩⟩
      · intro LL a wx hI hLk hd K' hK
        obtain ⟨x19, A24, c24, A27, c27, u, hI⟩ := hI
        obtain rfl := hI.out.1
        have e8 := hI.out.2.1.at 8 rfl (hd 8 rfl)
        have hfr := hI.out.2.2.1
        have hd2 : wx.heap[gd]? = _ := (hfr.out.block gd (blk_lt HD.out) HNE.out).trans HD.out
        have d2 : wx.cell? ⟨gd, 2, none⟩ = some (.slice Ad l.length cd) := (blk_cell hd2 2).trans rfl
        rw [if_pos (by rfl)]
        go_simp
        exact hK.out _ _ ⟨x19, A24, c24, A27, c27, (put1 (put1 u 25 (.pointer (some ⟨gd, 2, none⟩))) 26 (.slice Ad l.length cd)), ⟨rfl, (hI.out.2.1.same (s := 25) (v := .pointer (some ⟨gd, 2, none⟩)) e8).upd 9 rfl rfl rfl rfl, hI.out.2.2.1, hI.out.2.2.2.1, hI.out.2.2.2.2.1, hI.out.2.2.2.2.2.1, hI.out.2.2.2.2.2.2.1, hI.out.2.2.2.2.2.2.2.1, hI.out.2.2.2.2.2.2.2.2.1, hI.out.2.2.2.2.2.2.2.2.2.1, hI.out.2.2.2.2.2.2.2.2.2.2⟩⟩
      · intro LL a wx hI hLk hd K' hK
        obtain ⟨x19, A24, c24, A27, c27, u, hI⟩ := hI
        obtain rfl := hI.out.1
        have e7 := hI.out.2.1.at 7 rfl (hd 7 rfl)
        have e9 := hI.out.2.1.at 9 rfl (hd 9 rfl)
        have hfr := hI.out.2.2.1
        have hgr := hI.out.2.2.2.1
        have hz := hI.out.2.2.2.2.1
        have h24 := hI.out.2.2.2.2.2.2.2.2.2.1
        have hr24 := h24.out (hd 7 rfl) hLk
        have hq := Kd.R_base hr24
        refine Kd.R_append_rows_step (Kd.int .u8) (Rr := Kd.K (Kd.int .u8) wx) (w0 := wx) w2.heap.size (by rfl) (.tmp 24) (.tmp 26) 22 5 (.int .u8 0) 1 rfl Try.underlying22 info5 rfl (by decide) (by omega) (.slice A24 bs.length c24) bs l Ad l.length cd (fun _ => True) (fun _ => False) e7 e9 (hr24) (Kd.C_below HC.out (HW2.out.trans hfr.out.below)) (fun _ _ h => h) (fun _ h => h.elim) (fun _ _ => trivial) (Below.refl _ _) hfr.out.below.size HLN.out.1 ?_
        intro x' w3 ho hb1 hg1 hn1
        rw [← HBL.out] at ho
        obtain ⟨A', c', rfl, _, _⟩ := Kd.R_reads ho
        exact hK.out _ _ ⟨x19, A24, c24, A', c', (put1 u 27 (.slice A' bl.length c')), ⟨rfl, hI.out.2.1.upd 10 rfl rfl rfl rfl, ⟨hfr.out.new hg1 HW2.out.size (fun q e => hq q e)⟩, ⟨by have hg := hgr.out; have h21 : LL 21 = false := flag_off (fun h => (hz.out h).2.2) hLk; rw [h21] at hg; show _ = some (Obj.cells #[bif LL 21 then _ else _, _] 45 (0, 0)); rw [h21]; exact (hg1.block gr (blk_lt hgr.out) (fun e => by have := HGL.out; have := hq gr e.symm; omega)).trans hg⟩, ⟨fun h => ⟨upd_old (hz.out h).1, upd_old (hz.out h).2.1, upd_old (hz.out h).2.2⟩⟩, hI.out.2.2.2.2.2.1, hI.out.2.2.2.2.2.2.1, ⟨fun _ => upd_old (hd 7 rfl)⟩, ⟨fun _ h => absurd (hd 7 rfl) (by rw [show LL 7 = false from h]; decide)⟩, ⟨fun _ h => Bool.noConfusion (show true = false from h)⟩, ⟨fun _ => ho⟩⟩⟩
      · intro LL a wx hI hLk hd K' hK
        obtain ⟨x19, A24, c24, A27, c27, u, hI⟩ := hI
        obtain rfl := hI.out.1
        rw [if_pos (by rfl)]
        go_simp
        exact hK.out _ _ ⟨x19, A24, c24, A27, c27, (put1 u 28 (.pointer (some ⟨gr, 0, none⟩))), ⟨rfl, hI.out.2.1.upd 11 rfl rfl rfl rfl, hI.out.2.2.1, hI.out.2.2.2.1, hI.out.2.2.2.2.1, hI.out.2.2.2.2.2.1, hI.out.2.2.2.2.2.2.1, hI.out.2.2.2.2.2.2.2.1, hI.out.2.2.2.2.2.2.2.2.1, hI.out.2.2.2.2.2.2.2.2.2.1, hI.out.2.2.2.2.2.2.2.2.2.2⟩⟩
      · intro LL a wx hI hLk hd K' hK
        obtain ⟨x19, A24, c24, A27, c27, u, hI⟩ := hI
        obtain rfl := hI.out.1
        have e11 := hI.out.2.1.at 11 rfl (hd 11 rfl)
        rw [if_pos (by rfl)]
        go_simp
        exact hK.out _ _ ⟨x19, A24, c24, A27, c27, (put1 (put1 u 28 (.pointer (some ⟨gr, 0, none⟩))) 29 (.pointer (some ⟨gr, 0, none⟩))), ⟨rfl, (hI.out.2.1.same (s := 28) (v := .pointer (some ⟨gr, 0, none⟩)) e11).upd 12 rfl rfl rfl rfl, hI.out.2.2.1, hI.out.2.2.2.1, hI.out.2.2.2.2.1, hI.out.2.2.2.2.2.1, hI.out.2.2.2.2.2.2.1, hI.out.2.2.2.2.2.2.2.1, hI.out.2.2.2.2.2.2.2.2.1, hI.out.2.2.2.2.2.2.2.2.2.1, hI.out.2.2.2.2.2.2.2.2.2.2⟩⟩
      · intro LL a wx hI hLk hd K' hK
        obtain ⟨x19, A24, c24, A27, c27, u, hI⟩ := hI
        obtain rfl := hI.out.1
        have e12 := hI.out.2.1.at 12 rfl (hd 12 rfl)
        rw [if_pos (by rfl)]
        go_simp
        exact hK.out _ _ ⟨x19, A24, c24, A27, c27, (put1 (put1 u 29 (.pointer (some ⟨gr, 0, none⟩))) 30 (.pointer (some ⟨gr, 1, none⟩))), ⟨rfl, (hI.out.2.1.same (s := 29) (v := .pointer (some ⟨gr, 0, none⟩)) e12).upd 13 rfl rfl rfl rfl, hI.out.2.2.1, hI.out.2.2.2.1, hI.out.2.2.2.2.1, hI.out.2.2.2.2.2.1, hI.out.2.2.2.2.2.2.1, hI.out.2.2.2.2.2.2.2.1, hI.out.2.2.2.2.2.2.2.2.1, hI.out.2.2.2.2.2.2.2.2.2.1, hI.out.2.2.2.2.2.2.2.2.2.2⟩⟩
      · intro LL a wx hI hLk hd K' hK
        obtain ⟨x19, A24, c24, A27, c27, u, hI⟩ := hI
        obtain rfl := hI.out.1
        have e13 := hI.out.2.1.at 13 rfl (hd 13 rfl)
        have hgr := hI.out.2.2.2.1
        have hz := hI.out.2.2.2.2.1
        have hy := hI.out.2.2.2.2.2.1
        have hg := hgr.out
        rw [flag_off (fun h => (hz.out (hy.out h)).2.1) hLk] at hg
        have d1 : wx.cell? ⟨gr, 1, none⟩ = some (.int .i64 (lo : Int)) := (blk_cell hg 1).trans rfl
        rw [if_pos (by rfl)]
        go_simp
        exact hK.out _ _ ⟨x19, A24, c24, A27, c27, (put1 (put1 u 30 (.pointer (some ⟨gr, 1, none⟩))) 31 (.int .i64 (lo : Int))), ⟨rfl, (hI.out.2.1.same (s := 30) (v := .pointer (some ⟨gr, 1, none⟩)) e13).upd 14 rfl rfl rfl rfl, hI.out.2.2.1, hI.out.2.2.2.1, ⟨fun h => ⟨upd_old (hz.out h).1, upd_old (hz.out h).2.1, upd_old (hz.out h).2.2⟩⟩, hI.out.2.2.2.2.2.1, hI.out.2.2.2.2.2.2.1, hI.out.2.2.2.2.2.2.2.1, hI.out.2.2.2.2.2.2.2.2.1, hI.out.2.2.2.2.2.2.2.2.2.1, hI.out.2.2.2.2.2.2.2.2.2.2⟩⟩
      · intro LL a wx hI hLk hd K' hK
        obtain ⟨x19, A24, c24, A27, c27, u, hI⟩ := hI
        obtain rfl := hI.out.1
        rw [if_pos (by rfl)]
        go_simp
        exact hK.out _ _ ⟨x19, A24, c24, A27, c27, (put1 u 32 (.pointer (some ⟨gd, 2, none⟩))), ⟨rfl, hI.out.2.1.upd 15 rfl rfl rfl rfl, hI.out.2.2.1, hI.out.2.2.2.1, hI.out.2.2.2.2.1, hI.out.2.2.2.2.2.1, hI.out.2.2.2.2.2.2.1, hI.out.2.2.2.2.2.2.2.1, hI.out.2.2.2.2.2.2.2.2.1, hI.out.2.2.2.2.2.2.2.2.2.1, hI.out.2.2.2.2.2.2.2.2.2.2⟩⟩
      · intro LL a wx hI hLk hd K' hK
        obtain ⟨x19, A24, c24, A27, c27, u, hI⟩ := hI
        obtain rfl := hI.out.1
        have e15 := hI.out.2.1.at 15 rfl (hd 15 rfl)
        have hfr := hI.out.2.2.1
        have hd2 : wx.heap[gd]? = _ := (hfr.out.block gd (blk_lt HD.out) HNE.out).trans HD.out
        have d2 : wx.cell? ⟨gd, 2, none⟩ = some (.slice Ad l.length cd) := (blk_cell hd2 2).trans rfl
        rw [if_pos (by rfl)]
        go_simp
        exact hK.out _ _ ⟨x19, A24, c24, A27, c27, (put1 (put1 u 32 (.pointer (some ⟨gd, 2, none⟩))) 33 (.slice Ad l.length cd)), ⟨rfl, (hI.out.2.1.same (s := 32) (v := .pointer (some ⟨gd, 2, none⟩)) e15).upd 16 rfl rfl rfl rfl, hI.out.2.2.1, hI.out.2.2.2.1, hI.out.2.2.2.2.1, hI.out.2.2.2.2.2.1, hI.out.2.2.2.2.2.2.1, hI.out.2.2.2.2.2.2.2.1, hI.out.2.2.2.2.2.2.2.2.1, hI.out.2.2.2.2.2.2.2.2.2.1, hI.out.2.2.2.2.2.2.2.2.2.2⟩⟩
      · intro LL a wx hI hLk hd K' hK
        obtain ⟨x19, A24, c24, A27, c27, u, hI⟩ := hI
        obtain rfl := hI.out.1
        have e16 := hI.out.2.1.at 16 rfl (hd 16 rfl)
        rw [if_pos (by rfl)]
        go_simp
        exact hK.out _ _ ⟨x19, A24, c24, A27, c27, (put1 (put1 u 33 (.slice Ad l.length cd)) 34 (.int .i64 (l.length : Int))), ⟨rfl, (hI.out.2.1.same (s := 33) (v := .slice Ad l.length cd) e16).upd 17 rfl rfl rfl rfl, hI.out.2.2.1, hI.out.2.2.2.1, hI.out.2.2.2.2.1, hI.out.2.2.2.2.2.1, hI.out.2.2.2.2.2.2.1, hI.out.2.2.2.2.2.2.2.1, hI.out.2.2.2.2.2.2.2.2.1, hI.out.2.2.2.2.2.2.2.2.2.1, hI.out.2.2.2.2.2.2.2.2.2.2⟩⟩
      · intro LL a wx hI hLk hd K' hK
        obtain ⟨x19, A24, c24, A27, c27, u, hI⟩ := hI
        obtain rfl := hI.out.1
        have e14 := hI.out.2.1.at 14 rfl (hd 14 rfl)
        have e17 := hI.out.2.1.at 17 rfl (hd 17 rfl)
        have hsb := HSB.out
        rw [if_pos (by rfl)]
        go_simp
        exact hK.out _ _ ⟨x19, A24, c24, A27, c27, (put1 (put1 (put1 u 31 (.int .i64 (lo : Int))) 34 (.int .i64 (l.length : Int))) 35 (.int .i64 (lo2 : Int))), ⟨rfl, ((hI.out.2.1.same (s := 31) (v := .int .i64 (lo : Int)) e14).same (s := 34) (v := .int .i64 (l.length : Int)) e17).upd 18 rfl rfl rfl rfl, hI.out.2.2.1, hI.out.2.2.2.1, hI.out.2.2.2.2.1, hI.out.2.2.2.2.2.1, hI.out.2.2.2.2.2.2.1, hI.out.2.2.2.2.2.2.2.1, hI.out.2.2.2.2.2.2.2.2.1, hI.out.2.2.2.2.2.2.2.2.2.1, hI.out.2.2.2.2.2.2.2.2.2.2⟩⟩
      · intro LL a wx hI hLk hd K' hK
        obtain ⟨x19, A24, c24, A27, c27, u, hI⟩ := hI
        obtain rfl := hI.out.1
        have e0 := hI.out.2.1.at 0 rfl (hd 0 rfl)
        rw [if_pos (by rfl)]
        go_simp
        exact hK.out _ _ ⟨x19, A24, c24, A27, c27, (put1 (put1 u 17 (.pointer (some ⟨gr, 0, none⟩))) 36 (.pointer (some ⟨gr, 0, none⟩))), ⟨rfl, (hI.out.2.1.same (s := 17) (v := .pointer (some ⟨gr, 0, none⟩)) e0).upd 19 rfl rfl rfl rfl, hI.out.2.2.1, hI.out.2.2.2.1, hI.out.2.2.2.2.1, hI.out.2.2.2.2.2.1, hI.out.2.2.2.2.2.2.1, hI.out.2.2.2.2.2.2.2.1, hI.out.2.2.2.2.2.2.2.2.1, hI.out.2.2.2.2.2.2.2.2.2.1, hI.out.2.2.2.2.2.2.2.2.2.2⟩⟩
      · intro LL a wx hI hLk hd K' hK
        obtain ⟨x19, A24, c24, A27, c27, u, hI⟩ := hI
        obtain rfl := hI.out.1
        have e19 := hI.out.2.1.at 19 rfl (hd 19 rfl)
        rw [if_pos (by rfl)]
        go_simp
        exact hK.out _ _ ⟨x19, A24, c24, A27, c27, (put1 (put1 u 36 (.pointer (some ⟨gr, 0, none⟩))) 37 (.pointer (some ⟨gr, 0, none⟩))), ⟨rfl, (hI.out.2.1.same (s := 36) (v := .pointer (some ⟨gr, 0, none⟩)) e19).upd 20 rfl rfl rfl rfl, hI.out.2.2.1, hI.out.2.2.2.1, hI.out.2.2.2.2.1, hI.out.2.2.2.2.2.1, hI.out.2.2.2.2.2.2.1, hI.out.2.2.2.2.2.2.2.1, hI.out.2.2.2.2.2.2.2.2.1, hI.out.2.2.2.2.2.2.2.2.2.1, hI.out.2.2.2.2.2.2.2.2.2.2⟩⟩
      · intro LL a wx hI hLk hd K' hK
        obtain ⟨x19, A24, c24, A27, c27, u, hI⟩ := hI
        obtain rfl := hI.out.1
        have e20 := hI.out.2.1.at 20 rfl (hd 20 rfl)
        have e10 := hI.out.2.1.at 10 rfl (hd 10 rfl)
        have hfr := hI.out.2.2.1
        have hgr := hI.out.2.2.2.1
        have h27 := hI.out.2.2.2.2.2.2.2.2.2.2
        have hg := hgr.out
        rw [hLk] at hg
        have f0 := blk_frozen hg 0
        have d0 := blk_cell hg 0
        rw [if_pos (by rfl)]
        go_simp
        exact hK.out _ _ ⟨x19, A24, c24, A27, c27, (put1 (put1 u 37 (.pointer (some ⟨gr, 0, none⟩))) 27 (.slice A27 bl.length c27)), ⟨rfl, ((hI.out.2.1.same (s := 37) (v := .pointer (some ⟨gr, 0, none⟩)) e20).same (s := 27) (v := .slice A27 bl.length c27) e10).none 21 rfl, ⟨hfr.out.set (p := ⟨gr, 0, none⟩) rfl HGE.out _⟩, ⟨blk_put hg 0 _ rfl⟩, ⟨fun _ => ⟨hd 6 rfl, hd 14 rfl, hd 10 rfl⟩⟩, ⟨fun _ => rfl⟩, hI.out.2.2.2.2.2.2.1, hI.out.2.2.2.2.2.2.2.1, ⟨fun _ h => absurd (hd 7 rfl) (by rw [show LL 7 = false from h]; decide)⟩, ⟨fun _ h => absurd (hd 10 rfl) (by rw [show LL 10 = false from h]; decide)⟩, ⟨fun h => Kd.R_mono (Kd.R_far (p := ⟨gr, 0, none⟩) (Kd.R_bound (h27.out h)) (fun k hk he => by have := hk.2.1; have := HGL.out; have : k = gr := he; omega) _) (fun _ _ => trivial)⟩⟩⟩
      · intro LL a wx hI hLk hd K' hK
        obtain ⟨x19, A24, c24, A27, c27, u, hI⟩ := hI
        obtain rfl := hI.out.1
        have e1 := hI.out.2.1.at 1 rfl (hd 1 rfl)
        rw [if_pos (by rfl)]
        go_simp
        exact hK.out _ _ ⟨x19, A24, c24, A27, c27, (put1 (put1 u 18 (.pointer (some ⟨gr, 0, none⟩))) 38 (.pointer (some ⟨gr, 0, none⟩))), ⟨rfl, (hI.out.2.1.same (s := 18) (v := .pointer (some ⟨gr, 0, none⟩)) e1).upd 21 rfl rfl rfl rfl, hI.out.2.2.1, hI.out.2.2.2.1, hI.out.2.2.2.2.1, hI.out.2.2.2.2.2.1, hI.out.2.2.2.2.2.2.1, hI.out.2.2.2.2.2.2.2.1, hI.out.2.2.2.2.2.2.2.2.1, hI.out.2.2.2.2.2.2.2.2.2.1, hI.out.2.2.2.2.2.2.2.2.2.2⟩⟩
      · intro LL a wx hI hLk hd K' hK
        obtain ⟨x19, A24, c24, A27, c27, u, hI⟩ := hI
        obtain rfl := hI.out.1
        have e22 := hI.out.2.1.at 21 rfl (hd 22 rfl)
        rw [if_pos (by rfl)]
        go_simp
        exact hK.out _ _ ⟨x19, A24, c24, A27, c27, (put1 (put1 u 38 (.pointer (some ⟨gr, 0, none⟩))) 39 (.pointer (some ⟨gr, 1, none⟩))), ⟨rfl, (hI.out.2.1.same (s := 38) (v := .pointer (some ⟨gr, 0, none⟩)) e22).upd 22 rfl rfl rfl rfl, hI.out.2.2.1, hI.out.2.2.2.1, hI.out.2.2.2.2.1, hI.out.2.2.2.2.2.1, hI.out.2.2.2.2.2.2.1, hI.out.2.2.2.2.2.2.2.1, hI.out.2.2.2.2.2.2.2.2.1, hI.out.2.2.2.2.2.2.2.2.2.1, hI.out.2.2.2.2.2.2.2.2.2.2⟩⟩
      · intro LL a wx hI hLk hd K' hK
        obtain ⟨x19, A24, c24, A27, c27, u, hI⟩ := hI
        obtain rfl := hI.out.1
        have e23 := hI.out.2.1.at 22 rfl (hd 23 rfl)
        have e18 := hI.out.2.1.at 18 rfl (hd 18 rfl)
        have hfr := hI.out.2.2.1
        have hgr := hI.out.2.2.2.1
        have h27 := hI.out.2.2.2.2.2.2.2.2.2.2
        have hg := hgr.out
        rw [hLk, hd 21 rfl] at hg
        have f0 := blk_frozen hg 1
        have d0 := blk_cell hg 1
        rw [if_pos (by rfl)]
        go_simp
        exact hK.out _ _ ⟨x19, A24, c24, A27, c27, (put1 (put1 u 39 (.pointer (some ⟨gr, 1, none⟩))) 35 (.int .i64 (lo2 : Int))), ⟨rfl, ((hI.out.2.1.same (s := 39) (v := .pointer (some ⟨gr, 1, none⟩)) e23).same (s := 35) (v := .int .i64 (lo2 : Int)) e18).none 24 rfl, ⟨hfr.out.set (p := ⟨gr, 1, none⟩) rfl HGE.out _⟩, ⟨by have h21 : LL 21 = true := hd 21 rfl; show _ = some (Obj.cells #[bif LL 21 then _ else _, _] 45 (0, 0)); rw [h21]; exact blk_put hg 1 _ rfl⟩, hI.out.2.2.2.2.1, ⟨fun _ => hd 21 rfl⟩, hI.out.2.2.2.2.2.2.1, hI.out.2.2.2.2.2.2.2.1, ⟨fun _ h => absurd (hd 7 rfl) (by rw [show LL 7 = false from h]; decide)⟩, ⟨fun _ h => absurd (hd 10 rfl) (by rw [show LL 10 = false from h]; decide)⟩, ⟨fun h => Kd.R_mono (Kd.R_far (p := ⟨gr, 1, none⟩) (Kd.R_bound (h27.out h)) (fun k hk he => by have := hk.2.1; have := HGL.out; have : k = gr := he; omega) _) (fun _ _ => trivial)⟩⟩⟩
    · intro LL a w9 hall hI
      obtain ⟨x19, A24, c24, A27, c27, u, hI⟩ := hI
      obtain rfl := hI.out.1
      have hfr := hI.out.2.2.1
      have hgr := hI.out.2.2.2.1
      have hz := hI.out.2.2.2.2.1
      have hy := hI.out.2.2.2.2.2.1
      have hp7 := hI.out.2.2.2.2.2.2.1
      have hp10 := hI.out.2.2.2.2.2.2.2.1
      have h19 := hI.out.2.2.2.2.2.2.2.2.1
      have h24 := hI.out.2.2.2.2.2.2.2.2.2.1
      have h27 := hI.out.2.2.2.2.2.2.2.2.2.2
      have hg := hgr.out
      rw [hall 21 (by decide), hall 24 (by decide)] at hg
      have HFIN := Aside0.mk (FIN.out _ _ _ hfr.out hg (h27.out (hall 10 (by decide))))
      clear hI hfr hgr hz hy hp7 hp10 h19 h24 h27 hg
      go_wp2
      refine bodyPost_end (results_none rfl _ _ _) rfl ?_
      exact HFIN.out
  by_cases q1 : dd = 1
  · subst q1
    go_enter Try.func26, Try.ntmps26
    go_wp2_with ((with_reducible refine gate_dst (N := 5) rfl ?_); refine box_event ?hg (N := 5) ?hd (cs := #[.int .i64 1, .int .i64 nn, .slice Ad l.length cd]) (t := 48) ?hr ?_; (case hd => rfl); (case hg => rfl); (case hr => first | (go_simp; done) | (go_simp; rfl)); intro gd hgd w1 hbox hb; have d0 : w1.cell? ⟨gd, 0, none⟩ = some (.int .i64 1) := (blk_cell hbox 0).trans rfl; have d1 : w1.cell? ⟨gd, 1, none⟩ = some (.int .i64 nn) := (blk_cell hbox 1).trans rfl; have d2 : w1.cell? ⟨gd, 2, none⟩ = some (.slice Ad l.length cd) := (blk_cell hbox 2).trans rfl; have HD1 := Aside0.mk hbox; have HB1 := Aside0.mk hb; have HGD := Aside0.mk hgd; clear hbox hb hgd)
    go_at_call 13; refine (append_calls w0.heap.size g _ _ bs l s P w1 (HM.out.below HB1.out) (Kd.C_below HC.out (below_step HW0.out HB1.out)) (by have := HLN0.out; omega) (below_step HW0.out HB1.out).size HP1.out.1).mono ?_
    rintro e w2 ⟨rfl, hm, hf⟩
    have HNE : Aside0 (¬ gd = gr) := ⟨fun e => by have := blk_lt HG0.out; have := HGD.out; omega⟩
    have HD : Aside0 (w2.heap[gd]? = some (.cells #[.int .i64 1, .int .i64 nn, .slice Ad l.length cd] 48 (0, 0))) := ⟨(hf.block gd (blk_lt HD1.out) (fun h => by have := HP1.out.2.2.2 gd (.inl h); have := HGD.out; omega)).trans HD1.out⟩
    have HG : Aside0 (w2.heap[gr]? = some (.cells #[.slice Av bs.length cv, .int .i64 (lo : Int)] 45 (0, 0))) := ⟨(hf.block gr (Nat.lt_of_lt_of_le (blk_lt HG0.out) HB1.out.size) HP1.out.2.1).trans (blk_below HG0.out HB1.out)⟩
    have HV : Aside0 (Kd.V (Kd.int .u8) 5 w2 0 B (.slice Av bs.length cv) bs) := ⟨Kd.V_step (Kd.V_below HV0.out HB1.out) (fun k hk hl => hf.block k hl (fun h => HP1.out.2.2.1 k h hk))⟩
    have HW2 : Aside0 (Below w0.heap.size w0 w2) := ⟨(below_step HW0.out HB1.out).trans hf.below⟩
    have HGL : Aside0 (gr < w2.heap.size) := ⟨blk_lt HG.out⟩
    have HLN : Aside0 ((bs.length + l.length) * 1 ≤ 140737488355328 ∧ (([] : List Int).length + bs.length) * 1 ≤ 140737488355328) := ⟨by have := HLN0.out; simp; omega⟩
    have FIN : Aside0 (∀ (wx : World) (A : Option Addr) (c : Nat), Fr w0.heap.size (fun k => k = gr) w2 wx → wx.heap[gr]? = some (.cells #[.slice A bl.length c, .int .i64 (lo2 : Int)] 45 (0, 0)) → Kd.R (Kd.int .u8) 5 wx w2.heap.size (fun _ => True) (.slice A bl.length c) bl → DoPost w0 W g gr P B bs l (.returned (.tuple #[])) wx) := ⟨fun wx A c fr hg hr => by
      have hm2 := (hm.cap).fr fr (fun k hk e => by
        have e : k = gr := e
        subst e
        rcases hk.1 with h | h
        · exact HP1.out.2.1 h
        · have := blk_lt HG0.out; have := HB1.out.size; omega)
      have hle := HLN0.out
      have hw := HB1.out.size
      have hw2 := hf.below.size
      refine ⟨rfl, fun k => (P k ∨ w1.heap.size ≤ k) ∧ k < w2.heap.size, fun k => w2.heap.size ≤ k ∧ k < wx.heap.size, bl, s, ⟨by rw [HBL.out]; exact hm2, ⟨_, ?_, Kd.V_mono (V_of_R (Kd.R_bound hr)) (fun k hk => ⟨hk.2.1, hk.2.2.1⟩), ?_⟩, HGE.out, ?_, ?_, ?_, ?_⟩, ?_, ?_, ?_, ?_⟩
      · rw [show bl.length - s = lo2 by rw [HBL.out, HLO2.out, List.length_append]; omega]; exact hg
      · intro h; have := HGL.out; omega
      · intro k hk; rcases hk.1 with h | h
        · exact HP1.out.1 k h
        · have := HW0.out.size; omega
      · intro h; rcases h.1 with h | h
        · exact HP1.out.2.1 h
        · have := blk_lt HG0.out; omega
      · intro k hk hb; omega
      · intro k hk; have := fr.below.size; rcases hk with hk | hk <;> omega
      · intro k hk; rcases hk.1 with h | h
        · exact .inl h
        · exact .inr (by omega)
      · intro k hk; exact .inr (by omega)
      · exact ((((Fr.refl w0.heap.size _ W).step HB1.out HW0.out.size).then (hf.weak (fun k hk => .inl hk))).then (fr.weak (fun k hk => .inr hk)))
      · rw [HBL.out, List.length_append]; omega⟩
    clear hm hf d0 d1 d2 HD1
    go_wp2_with fail
    refine wp_region_steps 25 rfl rfl (by kernel_rfl) (fun LL a wx => ∃ x19 : Value, ∃ A24 : Option Addr, ∃ c24 : Nat, ∃ A27 : Option Addr, ∃ c27 : Nat, ∃ u : Nat → Value, Aside0 (a = { tmps := List.toArray (.pointer (some ⟨g, 0, none⟩) :: .pointer (some ⟨gr, 0, none⟩) :: .agg #[.int .i64 1, .int .i64 nn, .slice Ad l.length cd] :: undef :: undef :: .pointer (some ⟨gd, 0, none⟩) :: .pointer (some ⟨gd, 0, none⟩) :: .int .i64 1 :: .bool true :: .bool false :: .bool true :: undef :: undef :: .pointer (some ⟨g, 0, none⟩) :: .pointer (some ⟨gd, 2, none⟩) :: .slice Ad l.length cd :: .tuple #[] :: u 17 :: u 18 :: u 19 :: u 20 :: u 21 :: u 22 :: u 23 :: u 24 :: u 25 :: u 26 :: u 27 :: u 28 :: u 29 :: u 30 :: u 31 :: u 32 :: u 33 :: u 34 :: u 35 :: u 36 :: u 37 :: u 38 :: u 39 :: undef :: undef :: undef :: undef :: undef :: undef :: undef :: undef :: undef :: undef :: undef :: undef :: undef :: undef :: undef :: undef :: undef :: undef :: undef :: undef :: undef :: undef :: undef :: undef :: undef :: undef :: undef :: undef :: undef :: undef :: undef :: undef :: undef :: undef :: []), defers := [] } ∧ Tab LL u [(0, 17, .pointer (some ⟨gr, 0, none⟩)), (1, 18, .pointer (some ⟨gr, 0, none⟩)), (2, 19, x19), (3, 20, .pointer (some ⟨gr, 0, none⟩)), (4, 21, .pointer (some ⟨gr, 0, none⟩)), (5, 22, .pointer (some ⟨gr, 0, none⟩)), (6, 23, .slice Av bs.length cv), (7, 24, .slice A24 bs.length c24), (8, 25, .pointer (some ⟨gd, 2, none⟩)), (9, 26, .slice Ad l.length cd), (10, 27, .slice A27 bl.length c27), (11, 28, .pointer (some ⟨gr, 0, none⟩)), (12, 29, .pointer (some ⟨gr, 0, none⟩)), (13, 30, .pointer (some ⟨gr, 1, none⟩)), (14, 31, .int .i64 (lo : Int)), (15, 32, .pointer (some ⟨gd, 2, none⟩)), (16, 33, .slice Ad l.length cd), (17, 34, .int .i64 (l.length : Int)), (18, 35, .int .i64 (lo2 : Int)), (19, 36, .pointer (some ⟨gr, 0, none⟩)), (20, 37, .pointer (some ⟨gr, 0, none⟩)), (22, 38, .pointer (some ⟨gr, 0, none⟩)), (23, 39, .pointer (some ⟨gr, 1, none⟩))] ∧ Aside0 (Fr w0.heap.size (fun k => k = gr) w2 wx) ∧ Aside0 (wx.heap[gr]? = some (.cells #[bif LL 21 then .slice A27 bl.length c27 else .slice Av bs.length cv, bif LL 24 then .int .i64 (lo2 : Int) else .int .i64 (lo : Int)] 45 (0, 0))) ∧ Aside0 (LL 21 = true → LL 6 = true ∧ LL 14 = true ∧ LL 10 = true) ∧ Aside0 (LL 24 = true → LL 21 = true) ∧ Aside0 (LL 7 = true → LL 2 = true) ∧ Aside0 (LL 10 = true → LL 7 = true) ∧ Aside0 (LL 2 = true → LL 7 = false → Kd.R (Kd.int .u8) 5 wx w2.heap.size (fun _ => True) x19 []) ∧ Aside0 (LL 7 = true → LL 10 = false → Kd.R (Kd.int .u8) 5 wx w2.heap.size (fun _ => True) (.slice A24 bs.length c24) bs) ∧ Aside0 (LL 10 = true → Kd.R (Kd.int .u8) 5 wx w2.heap.size (fun _ => True) (.slice A27 bl.length c27) bl))) ?_ ?_ ?_
    · exact ⟨.slice none 0 0, none, 0, none, 0, fun _ => undef, ⟨rfl, Tab.start 25 rfl rfl, ⟨(Fr.refl _ _ _).step (below_drew (Below.refl _ _)) HW2.out.size⟩, ⟨blk_below HG.out (below_drew (Below.refl _ _))⟩, ⟨fun h => absurd h (by decide)⟩, ⟨fun h => absurd h (by decide)⟩, ⟨fun h => absurd h (by decide)⟩, ⟨fun h => absurd h (by decide)⟩, ⟨fun h => absurd h (by decide)⟩, ⟨fun h => absurd h (by decide)⟩, ⟨fun h => absurd h (by decide)⟩⟩⟩
    · refine Steps.cons ?_ (Steps.cons ?_ (Steps.cons ?_ (Steps.cons ?_ (Steps.cons ?_ (Steps.cons ?_ (Steps.cons ?_ (Steps.cons ?_ (Steps.cons ?_ (Steps.cons ?_ (Steps.cons ?_ (Steps.cons ?_ (Steps.cons ?_ (Steps.cons ?_ (Steps.cons ?_ (Steps.cons ?_ (Steps.cons ?_ (Steps.cons ?_ (Steps.cons ?_ (Steps.cons ?_ (Steps.cons ?_ (Steps.cons ?_ (Steps.cons ?_ (Steps.cons ?_ (Steps.cons ?_ (Steps.nil)))))))))))))))))))))))))
      · intro LL a wx hI hLk hd K' hK
        obtain ⟨x19, A24, c24, A27, c27, u, hI⟩ := hI
        obtain rfl := hI.out.1
        rw [if_pos (by rfl)]
        go_simp
        exact hK.out _ _ ⟨x19, A24, c24, A27, c27, (put1 u 17 (.pointer (some ⟨gr, 0, none⟩))), ⟨rfl, hI.out.2.1.upd 0 rfl rfl rfl rfl, hI.out.2.2.1, hI.out.2.2.2.1, hI.out.2.2.2.2.1, hI.out.2.2.2.2.2.1, hI.out.2.2.2.2.2.2.1, hI.out.2.2.2.2.2.2.2.1, hI.out.2.2.2.2.2.2.2.2.1, hI.out.2.2.2.2.2.2.2.2.2.1, hI.out.2.2.2.2.2.2.2.2.2.2⟩⟩
      · intro LL a wx hI hLk hd K' hK
        obtain ⟨x19, A24, c24, A27, c27, u, hI⟩ := hI
        obtain rfl := hI.out.1
        rw [if_pos (by rfl)]
        go_simp
        exact hK.out _ _ ⟨x19, A24, c24, A27, c27, (put1 u 18 (.pointer (some ⟨gr, 0, none⟩))), ⟨rfl, hI.out.2.1.upd 1 rfl rfl rfl rfl, hI.out.2.2.1, hI.out.2.2.2.1, hI.out.2.2.2.2.1, hI.out.2.2.2.2.2.1, hI.out.2.2.2.2.2.2.1, hI.out.2.2.2.2.2.2.2.1, hI.out.2.2.2.2.2.2.2.2.1, hI.out.2.2.2.2.2.2.2.2.2.1, hI.out.2.2.2.2.2.2.2.2.2.2⟩⟩
      · intro LL a wx hI hLk hd K' hK
        obtain ⟨x19, A24, c24, A27, c27, u, hI⟩ := hI
        obtain rfl := hI.out.1
        have hfr := hI.out.2.2.1
        have hgr := hI.out.2.2.2.1
        have hp7 := hI.out.2.2.2.2.2.2.1
        have hp10 := hI.out.2.2.2.2.2.2.2.1
        have hfr0 := hfr.out
        refine Kd.R_lit_step (Kd.int .u8) (w0 := wx) w2.heap.size 5 (by rfl) (N := 19) rfl (xs := ([] : List Int)) (inner := []) (ok := fun _ => True) (okp := fun _ => True) (by first | (go_simp; done) | (go_simp; rfl)) (Reps.none _ _) (fun _ hk => hk) trivial (Below.refl _ _) hfr.out.below.size (by simp) ?_
        intro x' w3 ho hb1 hg1 hn1
        exact hK.out _ _ ⟨x', A24, c24, A27, c27, (put1 u 19 x'), ⟨rfl, hI.out.2.1.upd 2 rfl rfl rfl rfl, ⟨hfr.out.new hg1 HW2.out.size (fun q e => by cases e)⟩, ⟨(hg1.block gr (blk_lt hgr.out) (fun e => by cases e)).trans hgr.out⟩, hI.out.2.2.2.2.1, hI.out.2.2.2.2.2.1, ⟨fun _ => rfl⟩, hI.out.2.2.2.2.2.2.2.1, ⟨fun _ _ => ho⟩, ⟨fun h => absurd (hp7.out h) (by rw [hLk]; decide)⟩, ⟨fun h => absurd (hp7.out (hp10.out h)) (by rw [hLk]; decide)⟩⟩⟩
      · intro LL a wx hI hLk hd K' hK
        obtain ⟨x19, A24, c24, A27, c27, u, hI⟩ := hI
        obtain rfl := hI.out.1
        rw [if_pos (by rfl)]
        go_simp
        exact hK.out _ _ ⟨x19, A24, c24, A27, c27, (put1 u 20 (.pointer (some ⟨gr, 0, none⟩))), ⟨rfl, hI.out.2.1.upd 3 rfl rfl rfl rfl, hI.out.2.2.1, hI.out.2.2.2.1, hI.out.2.2.2.2.1, hI.out.2.2.2.2.2.1, hI.out.2.2.2.2.2.2.1, hI.out.2.2.2.2.2.2.2.1, hI.out.2.2.2.2.2.2.2.2.1, hI.out.2.2.2.2.2.2.2.2.2.1, hI.out.2.2.2.2.2.2.2.2.2.2⟩⟩
      · intro LL a wx hI hLk hd K' hK
        obtain ⟨x19, A24, c24, A27, c27, u, hI⟩ := hI
        obtain rfl := hI.out.1
        have e3 := hI.out.2.1.at 3 rfl (hd 3 rfl)
        rw [if_pos (by rfl)]
        go_simp
        exact hK.out _ _ ⟨x19, A24, c24, A27, c27, (put1 (put1 u 20 (.pointer (some ⟨gr, 0, none⟩))) 21 (.pointer (some ⟨gr, 0, none⟩))), ⟨rfl, (hI.out.2.1.same (s := 20) (v := .pointer (some ⟨gr, 0, none⟩)) e3).upd 4 rfl rfl rfl rfl, hI.out.2.2.1, hI.out.2.2.2.1, hI.out.2.2.2.2.1, hI.out.2.2.2.2.2.1, hI.out.2.2.2.2.2.2.1, hI.out.2.2.2.2.2.2.2.1, hI.out.2.2.2.2.2.2.2.2.1, hI.out.2.2.2.2.2.2.2.2.2.1, hI.out.2.2.2.2.2.2.2.2.2.2⟩⟩
      · intro LL a wx hI hLk hd K' hK
        obtain ⟨x19, A24, c24, A27, c27, u, hI⟩ := hI
        obtain rfl := hI.out.1
        have e4 := hI.out.2.1.at 4 rfl (hd 4 rfl)
        rw [if_pos (by rfl)]
        go_simp
        exact hK.out _ _ ⟨x19, A24, c24, A27, c27, (put1 (put1 u 21 (.pointer (some ⟨gr, 0, none⟩))) 22 (.pointer (some ⟨gr, 0, none⟩))), ⟨rfl, (hI.out.2.1.same (s := 21) (v := .pointer (some ⟨gr, 0, none⟩)) e4).upd 5 rfl rfl rfl rfl, hI.out.2.2.1, hI.out.2.2.2.1, hI.out.2.2.2.2.1, hI.out.2.2.2.2.2.1, hI.out.2.2.2.2.2.2.1, hI.out.2.2.2.2.2.2.2.1, hI.out.2.2.2.2.2.2.2.2.1, hI.out.2.2.2.2.2.2.2.2.2.1, hI.out.2.2.2.2.2.2.2.2.2.2⟩⟩
      · intro LL a wx hI hLk hd K' hK
        obtain ⟨x19, A24, c24, A27, c27, u, hI⟩ := hI
        obtain rfl := hI.out.1
        have e5 := hI.out.2.1.at 5 rfl (hd 5 rfl)
        have hgr := hI.out.2.2.2.1
        have hz := hI.out.2.2.2.2.1
        have hg := hgr.out
        rw [flag_off (fun h => (hz.out h).1) hLk] at hg
        have d0 : wx.cell? ⟨gr, 0, none⟩ = some (.slice Av bs.length cv) := (blk_cell hg 0).trans rfl
        rw [if_pos (by rfl)]
        go_simp
        exact hK.out _ _ ⟨x19, A24, c24, A27, c27, (put1 (put1 u 22 (.pointer (some ⟨gr, 0, none⟩))) 23 (.slice Av bs.length cv)), ⟨rfl, (hI.out.2.1.same (s := 22) (v := .pointer (some ⟨gr, 0, none⟩)) e5).upd 6 rfl rfl rfl rfl, hI.out.2.2.1, hI.out.2.2.2.1, ⟨fun h => ⟨upd_old (hz.out h).1, upd_old (hz.out h).2.1, upd_old (hz.out h).2.2⟩⟩, hI.out.2.2.2.2.2.1, hI.out.2.2.2.2.2.2.1, hI.out.2.2.2.2.2.2.2.1, hI.out.2.2.2.2.2.2.2.2.1, hI.out.2.2.2.2.2.2.2.2.2.1, hI.out.2.2.2.2.2.2.2.2.2.2⟩⟩
      · intro LL a wx hI hLk hd K' hK
        obtain ⟨x19, A24, c24, A27, c27, u, hI⟩ := hI
        obtain rfl := hI.out.1
        have e2 := hI.out.2.1.at 2 rfl (hd 2 rfl)
        have e6 := hI.out.2.1.at 6 rfl (hd 6 rfl)
        have hfr := hI.out.2.2.1
        have hgr := hI.out.2.2.2.1
        have hp10 := hI.out.2.2.2.2.2.2.2.1
        have h19 := hI.out.2.2.2.2.2.2.2.2.1
        have hr19 := h19.out (hd 2 rfl) hLk
        have hq := Kd.R_base hr19
        refine Kd.R_append_rows_step (Kd.int .u8) (Rr := Kd.K (Kd.int .u8) wx) (w0 := wx) w2.heap.size (by rfl) (.tmp 19) (.tmp 23) 22 5 (.int .u8 0) 1 rfl Try.underlying22 info5 rfl (by decide) (by omega) (x19) [] bs Av bs.length cv (fun _ => True) (fun _ => False) e2 e6 (hr19) ((Kd.V_reads' (Kd.V_step HV.out (fun k hk hl => hfr.out.block k hl (fun e => HNB.out (by rw [show k = gr from e] at hk; exact hk))))).2.2) (fun _ _ h => h) (fun _ h => h.elim) (fun _ _ => trivial) (Below.refl _ _) hfr.out.below.size HLN.out.2 ?_
        intro x' w3 ho hb1 hg1 hn1
        rw [List.nil_append] at ho
        obtain ⟨A', c', rfl, _, _⟩ := Kd.R_reads ho
        exact hK.out _ _ ⟨x19, A', c', A27, c27, (put1 u 24 (.slice A' bs.length c')), ⟨rfl, hI.out.2.1.upd 7 rfl rfl rfl rfl, ⟨hfr.out.new hg1 HW2.out.size (fun q e => hq q e)⟩, ⟨(hg1.block gr (blk_lt hgr.out) (fun e => by have := HGL.out; have := hq gr e.symm; omega)).trans hgr.out⟩, hI.out.2.2.2.2.1, hI.out.2.2.2.2.2.1, ⟨fun _ => upd_old (hd 2 rfl)⟩, ⟨fun _ => rfl⟩, ⟨fun _ h => Bool.noConfusion (show true = false from h)⟩, ⟨fun _ _ => ho⟩, ⟨fun h => absurd (hp10.out h) (by rw [hLk]; decide)⟩⟩⟩
      · intro LL a wx hI hLk hd K' hK
        obtain ⟨x19, A24, c24, A27, c27, u, hI⟩ := hI
        obtain rfl := hI.out.1
        rw [if_pos (by rfl)]
        go_simp
        exact hK.out _ _ ⟨x19, A24, c24, A27, c27, (put1 u 25 (.pointer (some ⟨gd, 2, none⟩))), ⟨rfl, hI.out.2.1.upd 8 rfl rfl rfl rfl, hI.out.2.2.1, hI.out.2.2.2.1, hI.out.2.2.2.2.1, hI.out.2.2.2.2.2.1, hI.out.2.2.2.2.2.2.1, hI.out.2.2.2.2.2.2.2.1, hI.out.2.2.2.2.2.2.2.2.1, hI.out.2.2.2.2.2.2.2.2.2.1, hI.out.2.2.2.2.2.2.2.2.2.2⟩⟩
      · intro LL a wx hI hLk hd K' hK
        obtain ⟨x19, A24, c24, A27, c27, u, hI⟩ := hI
        obtain rfl := hI.out.1
        have e8 := hI.out.2.1.at 8 rfl (hd 8 rfl)
        have hfr := hI.out.2.2.1
        have hd2 : wx.heap[gd]? = _ := (hfr.out.block gd (blk_lt HD.out) HNE.out).trans HD.out
        have d2 : wx.cell? ⟨gd, 2, none⟩ = some (.slice Ad l.length cd) := (blk_cell hd2 2).trans rfl
        rw [if_pos (by rfl)]
        go_simp
        exact hK.out _ _ ⟨x19, A24, c24, A27, c27, (put1 (put1 u 25 (.pointer (some ⟨gd, 2, none⟩))) 26 (.slice Ad l.length cd)), ⟨rfl, (hI.out.2.1.same (s := 25) (v := .pointer (some ⟨gd, 2, none⟩)) e8).upd 9 rfl rfl rfl rfl, hI.out.2.2.1, hI.out.2.2.2.1, hI.out.2.2.2.2.1, hI.out.2.2.2.2.2.1, hI.out.2.2.2.2.2.2.1, hI.out.2.2.2.2.2.2.2.1, hI.out.2.2.2.2.2.2.2.2.1, hI.out.2.2.2.2.2.2.2.2.2.1, hI.out.2.2.2.2.2.2.2.2.2.2⟩⟩
      · intro LL a wx hI hLk hd K' hK
        obtain ⟨x19, A24, c24, A27, c27, u, hI⟩ := hI
        obtain rfl := hI.out.1
        have e7 := hI.out.2.1.at 7 rfl (hd 7 rfl)
        have e9 := hI.out.2.1.at 9 rfl (hd 9 rfl)
        have hfr := hI.out.2.2.1
        have hgr := hI.out.2.2.2.1
        have hz := hI.out.2.2.2.2.1
        have h24 := hI.out.2.2.2.2.2.2.2.2.2.1
        have hr24 := h24.out (hd 7 rfl) hLk
        have hq := Kd.R_base hr24
        refine Kd.R_append_rows_step (Kd.int .u8) (Rr := Kd.K (Kd.int .u8) wx) (w0 := wx) w2.heap.size (by rfl) (.tmp 24) (.tmp 26) 22 5 (.int .u8 0) 1 rfl Try.underlying22 info5 rfl (by decide) (by omega) (.slice A24 bs.length c24) bs l Ad l.length cd (fun _ => True) (fun _ => False) e7 e9 (hr24) (Kd.C_below HC.out (HW2.out.trans hfr.out.below)) (fun _ _ h => h) (fun _ h => h.elim) (fun _ _ => trivial) (Below.refl _ _) hfr.out.below.size HLN.out.1 ?_
        intro x' w3 ho hb1 hg1 hn1
        rw [← HBL.out] at ho
        obtain ⟨A', c', rfl, _, _⟩ := Kd.R_reads ho
        exact hK.out _ _ ⟨x19, A24, c24, A', c', (put1 u 27 (.slice A' bl.length c')), ⟨rfl, hI.out.2.1.upd 10 rfl rfl rfl rfl, ⟨hfr.out.new hg1 HW2.out.size (fun q e => hq q e)⟩, ⟨by have hg := hgr.out; have h21 : LL 21 = false := flag_off (fun h => (hz.out h).2.2) hLk; rw [h21] at hg; show _ = some (Obj.cells #[bif LL 21 then _ else _, _] 45 (0, 0)); rw [h21]; exact (hg1.block gr (blk_lt hgr.out) (fun e => by have := HGL.out; have := hq gr e.symm; omega)).trans hg⟩, ⟨fun h => ⟨upd_old (hz.out h).1, upd_old (hz.out h).2.1, upd_old (hz.out h).2.2⟩⟩, hI.out.2.2.2.2.2.1, hI.out.2.2.2.2.2.2.1, ⟨fun _ => upd_old (hd 7 rfl)⟩, ⟨fun _ h => absurd (hd 7 rfl) (by rw [show LL 7 = false from h]; decide)⟩, ⟨fun _ h => Bool.noConfusion (show true = false from h)⟩, ⟨fun _ => ho⟩⟩⟩
      · intro LL a wx hI hLk hd K' hK
        obtain ⟨x19, A24, c24, A27, c27, u, hI⟩ := hI
        obtain rfl := hI.out.1
        rw [if_pos (by rfl)]
        go_simp
        exact hK.out _ _ ⟨x19, A24, c24, A27, c27, (put1 u 28 (.pointer (some ⟨gr, 0, none⟩))), ⟨rfl, hI.out.2.1.upd 11 rfl rfl rfl rfl, hI.out.2.2.1, hI.out.2.2.2.1, hI.out.2.2.2.2.1, hI.out.2.2.2.2.2.1, hI.out.2.2.2.2.2.2.1, hI.out.2.2.2.2.2.2.2.1, hI.out.2.2.2.2.2.2.2.2.1, hI.out.2.2.2.2.2.2.2.2.2.1, hI.out.2.2.2.2.2.2.2.2.2.2⟩⟩
      · intro LL a wx hI hLk hd K' hK
        obtain ⟨x19, A24, c24, A27, c27, u, hI⟩ := hI
        obtain rfl := hI.out.1
        have e11 := hI.out.2.1.at 11 rfl (hd 11 rfl)
        rw [if_pos (by rfl)]
        go_simp
        exact hK.out _ _ ⟨x19, A24, c24, A27, c27, (put1 (put1 u 28 (.pointer (some ⟨gr, 0, none⟩))) 29 (.pointer (some ⟨gr, 0, none⟩))), ⟨rfl, (hI.out.2.1.same (s := 28) (v := .pointer (some ⟨gr, 0, none⟩)) e11).upd 12 rfl rfl rfl rfl, hI.out.2.2.1, hI.out.2.2.2.1, hI.out.2.2.2.2.1, hI.out.2.2.2.2.2.1, hI.out.2.2.2.2.2.2.1, hI.out.2.2.2.2.2.2.2.1, hI.out.2.2.2.2.2.2.2.2.1, hI.out.2.2.2.2.2.2.2.2.2.1, hI.out.2.2.2.2.2.2.2.2.2.2⟩⟩
      · intro LL a wx hI hLk hd K' hK
        obtain ⟨x19, A24, c24, A27, c27, u, hI⟩ := hI
        obtain rfl := hI.out.1
        have e12 := hI.out.2.1.at 12 rfl (hd 12 rfl)
        rw [if_pos (by rfl)]
        go_simp
        exact hK.out _ _ ⟨x19, A24, c24, A27, c27, (put1 (put1 u 29 (.pointer (some ⟨gr, 0, none⟩))) 30 (.pointer (some ⟨gr, 1, none⟩))), ⟨rfl, (hI.out.2.1.same (s := 29) (v := .pointer (some ⟨gr, 0, none⟩)) e12).upd 13 rfl rfl rfl rfl, hI.out.2.2.1, hI.out.2.2.2.1, hI.out.2.2.2.2.1, hI.out.2.2.2.2.2.1, hI.out.2.2.2.2.2.2.1, hI.out.2.2.2.2.2.2.2.1, hI.out.2.2.2.2.2.2.2.2.1, hI.out.2.2.2.2.2.2.2.2.2.1, hI.out.2.2.2.2.2.2.2.2.2.2⟩⟩
      · intro LL a wx hI hLk hd K' hK
        obtain ⟨x19, A24, c24, A27, c27, u, hI⟩ := hI
        obtain rfl := hI.out.1
        have e13 := hI.out.2.1.at 13 rfl (hd 13 rfl)
        have hgr := hI.out.2.2.2.1
        have hz := hI.out.2.2.2.2.1
        have hy := hI.out.2.2.2.2.2.1
        have hg := hgr.out
        rw [flag_off (fun h => (hz.out (hy.out h)).2.1) hLk] at hg
        have d1 : wx.cell? ⟨gr, 1, none⟩ = some (.int .i64 (lo : Int)) := (blk_cell hg 1).trans rfl
        rw [if_pos (by rfl)]
        go_simp
        exact hK.out _ _ ⟨x19, A24, c24, A27, c27, (put1 (put1 u 30 (.pointer (some ⟨gr, 1, none⟩))) 31 (.int .i64 (lo : Int))), ⟨rfl, (hI.out.2.1.same (s := 30) (v := .pointer (some ⟨gr, 1, none⟩)) e13).upd 14 rfl rfl rfl rfl, hI.out.2.2.1, hI.out.2.2.2.1, ⟨fun h => ⟨upd_old (hz.out h).1, upd_old (hz.out h).2.1, upd_old (hz.out h).2.2⟩⟩, hI.out.2.2.2.2.2.1, hI.out.2.2.2.2.2.2.1, hI.out.2.2.2.2.2.2.2.1, hI.out.2.2.2.2.2.2.2.2.1, hI.out.2.2.2.2.2.2.2.2.2.1, hI.out.2.2.2.2.2.2.2.2.2.2⟩⟩
      · intro LL a wx hI hLk hd K' hK
        obtain ⟨x19, A24, c24, A27, c27, u, hI⟩ := hI
        obtain rfl := hI.out.1
        rw [if_pos (by rfl)]
        go_simp
        exact hK.out _ _ ⟨x19, A24, c24, A27, c27, (put1 u 32 (.pointer (some ⟨gd, 2, none⟩))), ⟨rfl, hI.out.2.1.upd 15 rfl rfl rfl rfl, hI.out.2.2.1, hI.out.2.2.2.1, hI.out.2.2.2.2.1, hI.out.2.2.2.2.2.1, hI.out.2.2.2.2.2.2.1, hI.out.2.2.2.2.2.2.2.1, hI.out.2.2.2.2.2.2.2.2.1, hI.out.2.2.2.2.2.2.2.2.2.1, hI.out.2.2.2.2.2.2.2.2.2.2⟩⟩
      · intro LL a wx hI hLk hd K' hK
        obtain ⟨x19, A24, c24, A27, c27, u, hI⟩ := hI
        obtain rfl := hI.out.1
        have e15 := hI.out.2.1.at 15 rfl (hd 15 rfl)
        have hfr := hI.out.2.2.1
        have hd2 : wx.heap[gd]? = _ := (hfr.out.block gd (blk_lt HD.out) HNE.out).trans HD.out
        have d2 : wx.cell? ⟨gd, 2, none⟩ = some (.slice Ad l.length cd) := (blk_cell hd2 2).trans rfl
        rw [if_pos (by rfl)]
        go_simp
        exact hK.out _ _ ⟨x19, A24, c24, A27, c27, (put1 (put1 u 32 (.pointer (some ⟨gd, 2, none⟩))) 33 (.slice Ad l.length cd)), ⟨rfl, (hI.out.2.1.same (s := 32) (v := .pointer (some ⟨gd, 2, none⟩)) e15).upd 16 rfl rfl rfl rfl, hI.out.2.2.1, hI.out.2.2.2.1, hI.out.2.2.2.2.1, hI.out.2.2.2.2.2.1, hI.out.2.2.2.2.2.2.1, hI.out.2.2.2.2.2.2.2.1, hI.out.2.2.2.2.2.2.2.2.1, hI.out.2.2.2.2.2.2.2.2.2.1, hI.out.2.2.2.2.2.2.2.2.2.2⟩⟩
      · intro LL a wx hI hLk hd K' hK
        obtain ⟨x19, A24, c24, A27, c27, u, hI⟩ := hI
        obtain rfl := hI.out.1
        have e16 := hI.out.2.1.at 16 rfl (hd 16 rfl)
        rw [if_pos (by rfl)]
        go_simp
        exact hK.out _ _ ⟨x19, A24, c24, A27, c27, (put1 (put1 u 33 (.slice Ad l.length cd)) 34 (.int .i64 (l.length : Int))), ⟨rfl, (hI.out.2.1.same (s := 33) (v := .slice Ad l.length cd) e16).upd 17 rfl rfl rfl rfl, hI.out.2.2.1, hI.out.2.2.2.1, hI.out.2.2.2.2.1, hI.out.2.2.2.2.2.1, hI.out.2.2.2.2.2.2.1, hI.out.2.2.2.2.2.2.2.1, hI.out.2.2.2.2.2.2.2.2.1, hI.out.2.2.2.2.2.2.2.2.2.1, hI.out.2.2.2.2.2.2.2.2.2.2⟩⟩
      · intro LL a wx hI hLk hd K' hK
        obtain ⟨x19, A24, c24, A27, c27, u, hI⟩ := hI
        obtain rfl := hI.out.1
        have e14 := hI.out.2.1.at 14 rfl (hd 14 rfl)
        have e17 := hI.out.2.1.at 17 rfl (hd 17 rfl)
        have hsb := HSB.out
        rw [if_pos (by rfl)]
        go_simp
        exact hK.out _ _ ⟨x19, A24, c24, A27, c27, (put1 (put1 (put1 u 31 (.int .i64 (lo : Int))) 34 (.int .i64 (l.length : Int))) 35 (.int .i64 (lo2 : Int))), ⟨rfl, ((hI.out.2.1.same (s := 31) (v := .int .i64 (lo : Int)) e14).same (s := 34) (v := .int .i64 (l.length : Int)) e17).upd 18 rfl rfl rfl rfl, hI.out.2.2.1, hI.out.2.2.2.1, hI.out.2.2.2.2.1, hI.out.2.2.2.2.2.1, hI.out.2.2.2.2.2.2.1, hI.out.2.2.2.2.2.2.2.1, hI.out.2.2.2.2.2.2.2.2.1, hI.out.2.2.2.2.2.2.2.2.2.1, hI.out.2.2.2.2.2.2.2.2.2.2⟩⟩
      · intro LL a wx hI hLk hd K' hK
        obtain ⟨x19, A24, c24, A27, c27, u, hI⟩ := hI
        obtain rfl := hI.out.1
        have e0 := hI.out.2.1.at 0 rfl (hd 0 rfl)
        rw [if_pos (by rfl)]
        go_simp
        exact hK.out _ _ ⟨x19, A24, c24, A27, c27, (put1 (put1 u 17 (.pointer (some ⟨gr, 0, none⟩))) 36 (.pointer (some ⟨gr, 0, none⟩))), ⟨rfl, (hI.out.2.1.same (s := 17) (v := .pointer (some ⟨gr, 0, none⟩)) e0).upd 19 rfl rfl rfl rfl, hI.out.2.2.1, hI.out.2.2.2.1, hI.out.2.2.2.2.1, hI.out.2.2.2.2.2.1, hI.out.2.2.2.2.2.2.1, hI.out.2.2.2.2.2.2.2.1, hI.out.2.2.2.2.2.2.2.2.1, hI.out.2.2.2.2.2.2.2.2.2.1, hI.out.2.2.2.2.2.2.2.2.2.2⟩⟩
      · intro LL a wx hI hLk hd K' hK
        obtain ⟨x19, A24, c24, A27, c27, u, hI⟩ := hI
        obtain rfl := hI.out.1
        have e19 := hI.out.2.1.at 19 rfl (hd 19 rfl)
        rw [if_pos (by rfl)]
        go_simp
        exact hK.out _ _ ⟨x19, A24, c24, A27, c27, (put1 (put1 u 36 (.pointer (some ⟨gr, 0, none⟩))) 37 (.pointer (some ⟨gr, 0, none⟩))), ⟨rfl, (hI.out.2.1.same (s := 36) (v := .pointer (some ⟨gr, 0, none⟩)) e19).upd 20 rfl rfl rfl rfl, hI.out.2.2.1, hI.out.2.2.2.1, hI.out.2.2.2.2.1, hI.out.2.2.2.2.2.1, hI.out.2.2.2.2.2.2.1, hI.out.2.2.2.2.2.2.2.1, hI.out.2.2.2.2.2.2.2.2.1, hI.out.2.2.2.2.2.2.2.2.2.1, hI.out.2.2.2.2.2.2.2.2.2.2⟩⟩
      · intro LL a wx hI hLk hd K' hK
        obtain ⟨x19, A24, c24, A27, c27, u, hI⟩ := hI
        obtain rfl := hI.out.1
        have e20 := hI.out.2.1.at 20 rfl (hd 20 rfl)
        have e10 := hI.out.2.1.at 10 rfl (hd 10 rfl)
        have hfr := hI.out.2.2.1
        have hgr := hI.out.2.2.2.1
        have h27 := hI.out.2.2.2.2.2.2.2.2.2.2
        have hg := hgr.out
        rw [hLk] at hg
        have f0 := blk_frozen hg 0
        have d0 := blk_cell hg 0
        rw [if_pos (by rfl)]
        go_simp
        exact hK.out _ _ ⟨x19, A24, c24, A27, c27, (put1 (put1 u 37 (.pointer (some ⟨gr, 0, none⟩))) 27 (.slice A27 bl.length c27)), ⟨rfl, ((hI.out.2.1.same (s := 37) (v := .pointer (some ⟨gr, 0, none⟩)) e20).same (s := 27) (v := .slice A27 bl.length c27) e10).none 21 rfl, ⟨hfr.out.set (p := ⟨gr, 0, none⟩) rfl HGE.out _⟩, ⟨blk_put hg 0 _ rfl⟩, ⟨fun _ => ⟨hd 6 rfl, hd 14 rfl, hd 10 rfl⟩⟩, ⟨fun _ => rfl⟩, hI.out.2.2.2.2.2.2.1, hI.out.2.2.2.2.2.2.2.1, ⟨fun _ h => absurd (hd 7 rfl) (by rw [show LL 7 = false from h]; decide)⟩, ⟨fun _ h => absurd (hd 10 rfl) (by rw [show LL 10 = false from h]; decide)⟩, ⟨fun h => Kd.R_mono (Kd.R_far (p := ⟨gr, 0, none⟩) (Kd.R_bound (h27.out h)) (fun k hk he => by have := hk.2.1; have := HGL.out; have : k = gr := he; omega) _) (fun _ _ => trivial)⟩⟩⟩
      · intro LL a wx hI hLk hd K' hK
        obtain ⟨x19, A24, c24, A27, c27, u, hI⟩ := hI
        obtain rfl := hI.out.1
        have e1 := hI.out.2.1.at 1 rfl (hd 1 rfl)
        rw [if_pos (by rfl)]
        go_simp
        exact hK.out _ _ ⟨x19, A24, c24, A27, c27, (put1 (put1 u 18 (.pointer (some ⟨gr, 0, none⟩))) 38 (.pointer (some ⟨gr, 0, none⟩))), ⟨rfl, (hI.out.2.1.same (s := 18) (v := .pointer (some ⟨gr, 0, none⟩)) e1).upd 21 rfl rfl rfl rfl, hI.out.2.2.1, hI.out.2.2.2.1, hI.out.2.2.2.2.1, hI.out.2.2.2.2.2.1, hI.out.2.2.2.2.2.2.1, hI.out.2.2.2.2.2.2.2.1, hI.out.2.2.2.2.2.2.2.2.1, hI.out.2.2.2.2.2.2.2.2.2.1, hI.out.2.2.2.2.2.2.2.2.2.2⟩⟩
      · intro LL a wx hI hLk hd K' hK
        obtain ⟨x19, A24, c24, A27, c27, u, hI⟩ := hI
        obtain rfl := hI.out.1
        have e22 := hI.out.2.1.at 21 rfl (hd 22 rfl)
        rw [if_pos (by rfl)]
        go_simp
        exact hK.out _ _ ⟨x19, A24, c24, A27, c27, (put1 (put1 u 38 (.pointer (some ⟨gr, 0, none⟩))) 39 (.pointer (some ⟨gr, 1, none⟩))), ⟨rfl, (hI.out.2.1.same (s := 38) (v := .pointer (some ⟨gr, 0, none⟩)) e22).upd 22 rfl rfl rfl rfl, hI.out.2.2.1, hI.out.2.2.2.1, hI.out.2.2.2.2.1, hI.out.2.2.2.2.2.1, hI.out.2.2.2.2.2.2.1, hI.out.2.2.2.2.2.2.2.1, hI.out.2.2.2.2.2.2.2.2.1, hI.out.2.2.2.2.2.2.2.2.2.1, hI.out.2.2.2.2.2.2.2.2.2.2⟩⟩
      · intro LL a wx hI hLk hd K' hK
        obtain ⟨x19, A24, c24, A27, c27, u, hI⟩ := hI
        obtain rfl := hI.out.1
        have e23 := hI.out.2.1.at 22 rfl (hd 23 rfl)
        have e18 := hI.out.2.1.at 18 rfl (hd 18 rfl)
        have hfr := hI.out.2.2.1
        have hgr := hI.out.2.2.2.1
        have h27 := hI.out.2.2.2.2.2.2.2.2.2.2
        have hg := hgr.out
        rw [hLk, hd 21 rfl] at hg
        have f0 := blk_frozen hg 1
        have d0 := blk_cell hg 1
        rw [if_pos (by rfl)]
        go_simp
        exact hK.out _ _ ⟨x19, A24, c24, A27, c27, (put1 (put1 u 39 (.pointer (some ⟨gr, 1, none⟩))) 35 (.int .i64 (lo2 : Int))), ⟨rfl, ((hI.out.2.1.same (s := 39) (v := .pointer (some ⟨gr, 1, none⟩)) e23).same (s := 35) (v := .int .i64 (lo2 : Int)) e18).none 24 rfl, ⟨hfr.out.set (p := ⟨gr, 1, none⟩) rfl HGE.out _⟩, ⟨by have h21 : LL 21 = true := hd 21 rfl; show _ = some (Obj.cells #[bif LL 21 then _ else _, _] 45 (0, 0)); rw [h21]; exact blk_put hg 1 _ rfl⟩, hI.out.2.2.2.2.1, ⟨fun _ => hd 21 rfl⟩, hI.out.2.2.2.2.2.2.1, hI.out.2.2.2.2.2.2.2.1, ⟨fun _ h => absurd (hd 7 rfl) (by rw [show LL 7 = false from h]; decide)⟩, ⟨fun _ h => absurd (hd 10 rfl) (by rw [show LL 10 = false from h]; decide)⟩, ⟨fun h => Kd.R_mono (Kd.R_far (p := ⟨gr, 1, none⟩) (Kd.R_bound (h27.out h)) (fun k hk he => by have := hk.2.1; have := HGL.out; have : k = gr := he; omega) _) (fun _ _ => trivial)⟩⟩⟩
    · intro LL a w9 hall hI
      obtain ⟨x19, A24, c24, A27, c27, u, hI⟩ := hI
      obtain rfl := hI.out.1
      have hfr := hI.out.2.2.1
      have hgr := hI.out.2.2.2.1
      have hz := hI.out.2.2.2.2.1
      have hy := hI.out.2.2.2.2.2.1
      have hp7 := hI.out.2.2.2.2.2.2.1
      have hp10 := hI.out.2.2.2.2.2.2.2.1
      have h19 := hI.out.2.2.2.2.2.2.2.2.1
      have h24 := hI.out.2.2.2.2.2.2.2.2.2.1
      have h27 := hI.out.2.2.2.2.2.2.2.2.2.2
      have hg := hgr.out
      rw [hall 21 (by decide), hall 24 (by decide)] at hg
      have HFIN := Aside0.mk (FIN.out _ _ _ hfr.out hg (h27.out (hall 10 (by decide))))
      clear hI hfr hgr hz hy hp7 hp10 h19 h24 h27 hg
      go_wp2
      refine bodyPost_end (results_none rfl _ _ _) rfl ?_
      exact HFIN.out
  by_cases q2 : dd = 2
  · subst q2
    go_enter Try.func26, Try.ntmps26
    go_wp2_with ((with_reducible refine gate_dst (N := 5) rfl ?_); refine box_event ?hg (N := 5) ?hd (cs := #[.int .i64 2, .int .i64 nn, .slice Ad l.length cd]) (t := 48) ?hr ?_; (case hd => rfl); (case hg => rfl); (case hr => first | (go_simp; done) | (go_simp; rfl)); intro gd hgd w1 hbox hb; have d0 : w1.cell? ⟨gd, 0, none⟩ = some (.int .i64 2) := (blk_cell hbox 0).trans rfl; have d1 : w1.cell? ⟨gd, 1, none⟩ = some (.int .i64 nn) := (blk_cell hbox 1).trans rfl; have d2 : w1.cell? ⟨gd, 2, none⟩ = some (.slice Ad l.length cd) := (blk_cell hbox 2).trans rfl; have HD1 := Aside0.mk hbox; have HB1 := Aside0.mk hb; have HGD := Aside0.mk hgd; clear hbox hb hgd)
    go_at_call 13; refine (append_calls w0.heap.size g _ _ bs l s P w1 (HM.out.below HB1.out) (Kd.C_below HC.out (below_step HW0.out HB1.out)) (by have := HLN0.out; omega) (below_step HW0.out HB1.out).size HP1.out.1).mono ?_
    rintro e w2 ⟨rfl, hm, hf⟩
    have HNE : Aside0 (¬ gd = gr) := ⟨fun e => by have := blk_lt HG0.out; have := HGD.out; omega⟩
    have HD : Aside0 (w2.heap[gd]? = some (.cells #[.int .i64 2, .int .i64 nn, .slice Ad l.length cd] 48 (0, 0))) := ⟨(hf.block gd (blk_lt HD1.out) (fun h => by have := HP1.out.2.2.2 gd (.inl h); have := HGD.out; omega)).trans HD1.out⟩
    have HG : Aside0 (w2.heap[gr]? = some (.cells #[.slice Av bs.length cv, .int .i64 (lo : Int)] 45 (0, 0))) := ⟨(hf.block gr (Nat.lt_of_lt_of_le (blk_lt HG0.out) HB1.out.size) HP1.out.2.1).trans (blk_below HG0.out HB1.out)⟩
    have HV : Aside0 (Kd.V (Kd.int .u8) 5 w2 0 B (.slice Av bs.length cv) bs) := ⟨Kd.V_step (Kd.V_below HV0.out HB1.out) (fun k hk hl => hf.block k hl (fun h => HP1.out.2.2.1 k h hk))⟩
    have HW2 : Aside0 (Below w0.heap.size w0 w2) := ⟨(below_step HW0.out HB1.out).trans hf.below⟩
    have HGL : Aside0 (gr < w2.heap.size) := ⟨blk_lt HG.out⟩
    have HLN : Aside0 ((bs.length + l.length) * 1 ≤ 140737488355328 ∧ (([] : List Int).length + bs.length) * 1 ≤ 140737488355328) := ⟨by have := HLN0.out; simp; omega⟩
    have FIN : Aside0 (∀ (wx : World) (A : Option Addr) (c : Nat), Fr w0.heap.size (fun k => k = gr) w2 wx → wx.heap[gr]? = some (.cells #[.slice A bl.length c, .int .i64 (lo2 : Int)] 45 (0, 0)) → Kd.R (Kd.int .u8) 5 wx w2.heap.size (fun _ => True) (.slice A bl.length c) bl → DoPost w0 W g gr P B bs l (.returned (.tuple #[])) wx) := ⟨fun wx A c fr hg hr => by
      have hm2 := (hm.cap).fr fr (fun k hk e => by
        have e : k = gr := e
        subst e
        rcases hk.1 with h | h
        · exact HP1.out.2.1 h
        · have := blk_lt HG0.out; have := HB1.out.size; omega)
      have hle := HLN0.out
      have hw := HB1.out.size
      have hw2 := hf.below.size
      refine ⟨rfl, fun k => (P k ∨ w1.heap.size ≤ k) ∧ k < w2.heap.size, fun k => w2.heap.size ≤ k ∧ k < wx.heap.size, bl, s, ⟨by rw [HBL.out]; exact hm2, ⟨_, ?_, Kd.V_mono (V_of_R (Kd.R_bound hr)) (fun k hk => ⟨hk.2.1, hk.2.2.1⟩), ?_⟩, HGE.out, ?_, ?_, ?_, ?_⟩, ?_, ?_, ?_, ?_⟩
      · rw [show bl.length - s = lo2 by rw [HBL.out, HLO2.out, List.length_append]; omega]; exact hg
      · intro h; have := HGL.out; omega
      · intro k hk; rcases hk.1 with h | h
        · exact HP1.out.1 k h
        · have := HW0.out.size; omega
      · intro h; rcases h.1 with h | h
        · exact HP1.out.2.1 h
        · have := blk_lt HG0.out; omega
      · intro k hk hb; omega
      · intro k hk; have := fr.below.size; rcases hk with hk | hk <;> omega
      · intro k hk; rcases hk.1 with h | h
        · exact .inl h
        · exact .inr (by omega)
      · intro k hk; exact .inr (by omega)
      · exact ((((Fr.refl w0.heap.size _ W).step HB1.out HW0.out.size).then (hf.weak (fun k hk => .inl hk))).then (fr.weak (fun k hk => .inr hk)))
      · rw [HBL.out, List.length_append]; omega⟩
    clear hm hf d0 d1 d2 HD1
    go_wp2_with fail
    refine wp_region_steps 25 rfl rfl (by kernel_rfl) (fun LL a wx => ∃ x19 : Value, ∃ A24 : Option Addr, ∃ c24 : Nat, ∃ A27 : Option Addr, ∃ c27 : Nat, ∃ u : Nat → Value, Aside0 (a = { tmps := List.toArray (.pointer (some ⟨g, 0, none⟩) :: .pointer (some ⟨gr, 0, none⟩) :: .agg #[.int .i64 2, .int .i64 nn, .slice Ad l.length cd] :: undef :: undef :: .pointer (some ⟨gd, 0, none⟩) :: .pointer (some ⟨gd, 0, none⟩) :: .int .i64 2 :: .bool true :: .bool false :: .bool false :: .bool true :: undef :: .pointer (some ⟨g, 0, none⟩) :: .pointer (some ⟨gd, 2, none⟩) :: .slice Ad l.length cd :: .tuple #[] :: u 17 :: u 18 :: u 19 :: u 20 :: u 21 :: u 22 :: u 23 :: u 24 :: u 25 :: u 26 :: u 27 :: u 28 :: u 29 :: u 30 :: u 31 :: u 32 :: u 33 :: u 34 :: u 35 :: u 36 :: u 37 :: u 38 :: u 39 :: undef :: undef :: undef :: undef :: undef :: undef :: undef :: undef :: undef :: undef :: undef :: undef :: undef :: undef :: undef :: undef :: undef :: undef :: undef :: undef :: undef :: undef :: undef :: undef :: undef :: undef :: undef :: undef :: undef :: undef :: undef :: undef :: undef :: undef :: []), defers := [] } ∧ Tab LL u [(0, 17, .pointer (some ⟨gr, 0, none⟩)), (1, 18, .pointer (some ⟨gr, 0, none⟩)), (2, 19, x19), (3, 20, .pointer (some ⟨gr, 0, none⟩)), (4, 21, .pointer (some ⟨gr, 0, none⟩)), (5, 22, .pointer (some ⟨gr, 0, none⟩)), (6, 23, .slice Av bs.length cv), (7, 24, .slice A24 bs.length c24), (8, 25, .pointer (some ⟨gd, 2, none⟩)), (9, 26, .slice Ad l.length cd), (10, 27, .slice A27 bl.length c27), (11, 28, .pointer (some ⟨gr, 0, none⟩)), (12, 29, .pointer (some ⟨gr, 0, none⟩)), (13, 30, .pointer (some ⟨gr, 1, none⟩)), (14, 31, .int .i64 (lo : Int)), (15, 32, .pointer (some ⟨gd, 2, none⟩)), (16, 33, .slice Ad l.length cd), (17, 34, .int .i64 (l.length : Int)), (18, 35, .int .i64 (lo2 : Int)), (19, 36, .pointer (some ⟨gr, 0, none⟩)), (20, 37, .pointer (some ⟨gr, 0, none⟩)), (22, 38, .pointer (some ⟨gr, 0, none⟩)), (23, 39, .pointer (some ⟨gr, 1, none⟩))] ∧ Aside0 (Fr w0.heap.size (fun k => k = gr) w2 wx) ∧ Aside0 (wx.heap[gr]? = some (.cells #[bif LL 21 then .slice A27 bl.length c27 else .slice Av bs.length cv, bif LL 24 then .int .i64 (lo2 : Int) else .int .i64 (lo : Int)] 45 (0, 0))) ∧ Aside0 (LL 21 = true → LL 6 = true ∧ LL 14 = true ∧ LL 10 = true) ∧ Aside0 (LL 24 = true → LL 21 = true) ∧ Aside0 (LL 7 = true → LL 2 = true) ∧ Aside0 (LL 10 = true → LL 7 = true) ∧ Aside0 (LL 2 = true → LL 7 = false → Kd.R (Kd.int .u8) 5 wx w2.heap.size (fun _ => True) x19 []) ∧ Aside0 (LL 7 = true → LL 10 = false → Kd.R (Kd.int .u8) 5 wx w2.heap.size (fun _ => True) (.slice A24 bs.length c24) bs) ∧ Aside0 (LL 10 = true → Kd.R (Kd.int .u8) 5 wx w2.heap.size (fun _ => True) (.slice A27 bl.length c27) bl))) ?_ ?_ ?_
    · exact ⟨.slice none 0 0, none, 0, none, 0, fun _ => undef, ⟨rfl, Tab.start 25 rfl rfl, ⟨(Fr.refl _ _ _).step (below_drew (Below.refl _ _)) HW2.out.size⟩, ⟨blk_below HG.out (below_drew (Below.refl _ _))⟩, ⟨fun h => absurd h (by decide)⟩, ⟨fun h => absurd h (by decide)⟩, ⟨fun h => absurd h (by decide)⟩, ⟨fun h => absurd h (by decide)⟩, ⟨fun h => absurd h (by decide)⟩, ⟨fun h => absurd h (by decide)⟩, ⟨fun h => absurd h (by decide)⟩⟩⟩
    · refine Steps.cons ?_ (Steps.cons ?_ (Steps.cons ?_ (Steps.cons ?_ (Steps.cons ?_ (Steps.cons ?_ (Steps.cons ?_ (Steps.cons ?_ (Steps.cons ?_ (Steps.cons ?_ (Steps.cons ?_ (Steps.cons ?_ (Steps.cons ?_ (Steps.cons ?_ (Steps.cons ?_ (Steps.cons ?_ (Steps.cons ?_ (Steps.cons ?_ (Steps.cons ?_ (Steps.cons ?_ (Steps.cons ?_ (Steps.cons ?_ (Steps.cons ?_ (Steps.cons ?_ (Steps.cons ?_ (Steps.nil)))))))))))))))))))))))))
      · intro LL a wx hI hLk hd K' hK
        obtain ⟨x19, A24, c24, A27, c27, u, hI⟩ := hI
        obtain rfl := hI.out.1
        rw [if_pos (by rfl)]
        go_simp
        exact hK.out _ _ ⟨x19, A24, c24, A27, c27, (put1 u 17 (.pointer (some ⟨gr, 0, none⟩))), ⟨rfl, hI.out.2.1.upd 0 rfl rfl rfl rfl, hI.out.2.2.1, hI.out.2.2.2.1, hI.out.2.2.2.2.1, hI.out.2.2.2.2.2.1, hI.out.2.2.2.2.2.2.1, hI.out.2.2.2.2.2.2.2.1, hI.out.2.2.2.2.2.2.2.2.1, hI.out.2.2.2.2.2.2.2.2.2.1, hI.out.2.2.2.2.2.2.2.2.2.2⟩⟩
      · intro LL a wx hI hLk hd K' hK
        obtain ⟨x19, A24, c24, A27, c27, u, hI⟩ := hI
        obtain rfl := hI.out.1
        rw [if_pos (by rfl)]
        go_simp
        exact hK.out _ _ ⟨x19, A24, c24, A27, c27, (put1 u 18 (.pointer (some ⟨gr, 0, none⟩))), ⟨rfl, hI.out.2.1.upd 1 rfl rfl rfl rfl, hI.out.2.2.1, hI.out.2.2.2.1, hI.out.2.2.2.2.1, hI.out.2.2.2.2.2.1, hI.out.2.2.2.2.2.2.1, hI.out.2.2.2.2.2.2.2.1, hI.out.2.2.2.2.2.2.2.2.1, hI.out.2.2.2.2.2.2.2.2.2.1, hI.out.2.2.2.2.2.2.2.2.2.2⟩⟩
      · intro LL a wx hI hLk hd K' hK
        obtain ⟨x19, A24, c24, A27, c27, u, hI⟩ := hI
        obtain rfl := hI.out.1
        have hfr := hI.out.2.2.1
        have hgr := hI.out.2.2.2.1
        have hp7 := hI.out.2.2.2.2.2.2.1
        have hp10 := hI.out.2.2.2.2.2.2.2.1
        have hfr0 := hfr.out
        refine Kd.R_lit_step (Kd.int .u8) (w0 := wx) w2.heap.size 5 (by rfl) (N := 19) rfl (xs := ([] : List Int)) (inner := []) (ok := fun _ => True) (okp := fun _ => True) (by first | (go_simp; done) | (go_simp; rfl)) (Reps.none _ _) (fun _ hk => hk) trivial (Below.refl _ _) hfr.out.below.size (by simp) ?_
        intro x' w3 ho hb1 hg1 hn1
        exact hK.out _ _ ⟨x', A24, c24, A27, c27, (put1 u 19 x'), ⟨rfl, hI.out.2.1.upd 2 rfl rfl rfl rfl, ⟨hfr.out.new hg1 HW2.out.size (fun q e => by cases e)⟩, ⟨(hg1.block gr (blk_lt hgr.out) (fun e => by cases e)).trans hgr.out⟩, hI.out.2.2.2.2.1, hI.out.2.2.2.2.2.1, ⟨fun _ => rfl⟩, hI.out.2.2.2.2.2.2.2.1, ⟨fun _ _ => ho⟩, ⟨fun h => absurd (hp7.out h) (by rw [hLk]; decide)⟩, ⟨fun h => absurd (hp7.out (hp10.out h)) (by rw [hLk]; decide)⟩⟩⟩
      · intro LL a wx hI hLk hd K' hK
        obtain ⟨x19, A24, c24, A27, c27, u, hI⟩ := hI
        obtain rfl := hI.out.1
        rw [if_pos (by rfl)]
        go_simp
        exact hK.out _ _ ⟨x19, A24, c24, A27, c27, (put1 u 20 (.pointer (some ⟨gr, 0, none⟩))), ⟨rfl, hI.out.2.1.upd 3 rfl rfl rfl rfl, hI.out.2.2.1, hI.out.2.2.2.1, hI.out.2.2.2.2.1, hI.out.2.2.2.2.2.1, hI.out.2.2.2.2.2.2.1, hI.out.2.2.2.2.2.2.2.1, hI.out.2.2.2.2.2.2.2.2.1, hI.out.2.2.2.2.2.2.2.2.2.1, hI.out.2.2.2.2.2.2.2.2.2.2⟩⟩
      · intro LL a wx hI hLk hd K' hK
        obtain ⟨x19, A24, c24, A27, c27, u, hI⟩ := hI
        obtain rfl := hI.out.1
        have e3 := hI.out.2.1.at 3 rfl (hd 3 rfl)
        rw [if_pos (by rfl)]
        go_simp
        exact hK.out _ _ ⟨x19, A24, c24, A27, c27, (put1 (put1 u 20 (.pointer (some ⟨gr, 0, none⟩))) 21 (.pointer (some ⟨gr, 0, none⟩))), ⟨rfl, (hI.out.2.1.same (s := 20) (v := .pointer (some ⟨gr, 0, none⟩)) e3).upd 4 rfl rfl rfl rfl, hI.out.2.2.1, hI.out.2.2.2.1, hI.out.2.2.2.2.1, hI.out.2.2.2.2.2.1, hI.out.2.2.2.2.2.2.1, hI.out.2.2.2.2.2.2.2.1, hI.out.2.2.2.2.2.2.2.2.1, hI.out.2.2.2.2.2.2.2.2.2.1, hI.out.2.2.2.2.2.2.2.2.2.2⟩⟩
      · intro LL a wx hI hLk hd K' hK
        obtain ⟨x19, A24, c24, A27, c27, u, hI⟩ := hI
        obtain rfl := hI.out.1
        have e4 := hI.out.2.1.at 4 rfl (hd 4 rfl)
        rw [if_pos (by rfl)]
        go_simp
        exact hK.out _ _ ⟨x19, A24, c24, A27, c27, (put1 (put1 u 21 (.pointer (some ⟨gr, 0, none⟩))) 22 (.pointer (some ⟨gr, 0, none⟩))), ⟨rfl, (hI.out.2.1.same (s := 21) (v := .pointer (some ⟨gr, 0, none⟩)) e4).upd 5 rfl rfl rfl rfl, hI.out.2.2.1, hI.out.2.2.2.1, hI.out.2.2.2.2.1, hI.out.2.2.2.2.2.1, hI.out.2.2.2.2.2.2.1, hI.out.2.2.2.2.2.2.2.1, hI.out.2.2.2.2.2.2.2.2.1, hI.out.2.2.2.2.2.2.2.2.2.1, hI.out.2.2.2.2.2.2.2.2.2.2⟩⟩
      · intro LL a wx hI hLk hd K' hK
        obtain ⟨x19, A24, c24, A27, c27, u, hI⟩ := hI
        obtain rfl := hI.out.1
        have e5 := hI.out.2.1.at 5 rfl (hd 5 rfl)
        have hgr := hI.out.2.2.2.1
        have hz := hI.out.2.2.2.2.1
        have hg := hgr.out
        rw [flag_off (fun h => (hz.out h).1) hLk] at hg
        have d0 : wx.cell? ⟨gr, 0, none⟩ = some (.slice Av bs.length cv) := (blk_cell hg 0).trans rfl
        rw [if_pos (by rfl)]
        go_simp
        exact hK.out _ _ ⟨x19, A24, c24, A27, c27, (put1 (put1 u 22 (.pointer (some ⟨gr, 0, none⟩))) 23 (.slice Av bs.length cv)), ⟨rfl, (hI.out.2.1.same (s := 22) (v := .pointer (some ⟨gr, 0, none⟩)) e5).upd 6 rfl rfl rfl rfl, hI.out.2.2.1, hI.out.2.2.2.1, ⟨fun h => ⟨upd_old (hz.out h).1, upd_old (hz.out h).2.1, upd_old (hz.out h).2.2⟩⟩, hI.out.2.2.2.2.2.1, hI.out.2.2.2.2.2.2.1, hI.out.2.2.2.2.2.2.2.1, hI.out.2.2.2.2.2.2.2.2.1, hI.out.2.2.2.2.2.2.2.2.2.1, hI.out.2.2.2.2.2.2.2.2.2.2⟩⟩
      · intro LL a wx hI hLk hd K' hK
        obtain ⟨x19, A24, c24, A27, c27, u, hI⟩ := hI
        obtain rfl := hI.out.1
        have e2 := hI.out.2.1.at 2 rfl (hd 2 rfl)
        have e6 := hI.out.2.1.at 6 rfl (hd 6 rfl)
        have hfr := hI.out.2.2.1
        have hgr := hI.out.2.2.2.1
        have hp10 := hI.out.2.2.2.2.2.2.2.1
        have h19 := hI.out.2.2.2.2.2.2.2.2.1
        have hr19 := h19.out (hd 2 rfl) hLk
        have hq := Kd.R_base hr19
        refine Kd.R_append_rows_step (Kd.int .u8) (Rr := Kd.K (Kd.int .u8) wx) (w0 := wx) w2.heap.size (by rfl) (.tmp 19) (.tmp 23) 22 5 (.int .u8 0) 1 rfl Try.underlying22 info5 rfl (by decide) (by omega) (x19) [] bs Av bs.length cv (fun _ => True) (fun _ => False) e2 e6 (hr19) ((Kd.V_reads' (Kd.V_step HV.out (fun k hk hl => hfr.out.block k hl (fun e => HNB.out (by rw [show k = gr from e] at hk; exact hk))))).2.2) (fun _ _ h => h) (fun _ h => h.elim) (fun _ _ => trivial) (Below.refl _ _) hfr.out.below.size HLN.out.2 ?_
        intro x' w3 ho hb1 hg1 hn1
        rw [List.nil_append] at ho
        obtain ⟨A', c', rfl, _, _⟩ := Kd.R_reads ho
        exact hK.out _ _ ⟨x19, A', c', A27, c27, (put1 u 24 (.slice A' bs.length c')), ⟨rfl, hI.out.2.1.upd 7 rfl rfl rfl rfl, ⟨hfr.out.new hg1 HW2.out.size (fun q e => hq q e)⟩, ⟨(hg1.block gr (blk_lt hgr.out) (fun e => by have := HGL.out; have := hq gr e.symm; omega)).trans hgr.out⟩, hI.out.2.2.2.2.1, hI.out.2.2.2.2.2.1, ⟨fun _ => upd_old (hd 2 rfl)⟩, ⟨fun _ => rfl⟩, ⟨fun _ h => Bool.noConfusion (show true = false from h)⟩, ⟨fun _ _ => ho⟩, ⟨fun h => absurd (hp10.out h) (by rw [hLk]; decide)⟩⟩⟩
      · intro LL a wx hI hLk hd K' hK
        obtain ⟨x19, A24, c24, A27, c27, u, hI⟩ := hI
        obtain rfl := hI.out.1
        rw [if_pos (by rfl)]
        go_simp
        exact hK.out _ _ ⟨x19, A24, c24, A27, c27, (put1 u 25 (.pointer (some ⟨gd, 2, none⟩))), ⟨rfl, hI.out.2.1.upd 8 rfl rfl rfl rfl, hI.out.2.2.1, hI.out.2.2.2.1, hI.out.2.2.2.2.1, hI.out.2.2.2.2.2.1, hI.out.2.2.2.2.2.2.1, hI.out.2.2.2.2.2.2.2.1, hI.out.2.2.2.2.2.2.2.2.1, hI.out.2.2.2.2.2.2.2.2.2.1, hI.out.2.2.2.2.2.2.2.2.2.2⟩⟩
      · intro LL a wx hI hLk hd K' hK
        obtain ⟨x19, A24, c24, A27, c27, u, hI⟩ := hI
        obtain rfl := hI.out.1
        have e8 := hI.out.2.1.at 8 rfl (hd 8 rfl)
        have hfr := hI.out.2.2.1
        have hd2 : wx.heap[gd]? = _ := (hfr.out.block gd (blk_lt HD.out) HNE.out).trans HD.out
        have d2 : wx.cell? ⟨gd, 2, none⟩ = some (.slice Ad l.length cd) := (blk_cell hd2 2).trans rfl
        rw [if_pos (by rfl)]
        go_simp
        exact hK.out _ _ ⟨x19, A24, c24, A27, c27, (put1 (put1 u 25 (.pointer (some ⟨gd, 2, none⟩))) 26 (.slice Ad l.length cd)), ⟨rfl, (hI.out.2.1.same (s := 25) (v := .pointer (some ⟨gd, 2, none⟩)) e8).upd 9 rfl rfl rfl rfl, hI.out.2.2.1, hI.out.2.2.2.1, hI.out.2.2.2.2.1, hI.out.2.2.2.2.2.1, hI.out.2.2.2.2.2.2.1, hI.out.2.2.2.2.2.2.2.1, hI.out.2.2.2.2.2.2.2.2.1, hI.out.2.2.2.2.2.2.2.2.2.1, hI.out.2.2.2.2.2.2.2.2.2.2⟩⟩
      · intro LL a wx hI hLk hd K' hK
        obtain ⟨x19, A24, c24, A27, c27, u, hI⟩ := hI
        obtain rfl := hI.out.1
        have e7 := hI.out.2.1.at 7 rfl (hd 7 rfl)
        have e9 := hI.out.2.1.at 9 rfl (hd 9 rfl)
        have hfr := hI.out.2.2.1
        have hgr := hI.out.2.2.2.1
        have hz := hI.out.2.2.2.2.1
        have h24 := hI.out.2.2.2.2.2.2.2.2.2.1
        have hr24 := h24.out (hd 7 rfl) hLk
        have hq := Kd.R_base hr24
        refine Kd.R_append_rows_step (Kd.int .u8) (Rr := Kd.K (Kd.int .u8) wx) (w0 := wx) w2.heap.size (by rfl) (.tmp 24) (.tmp 26) 22 5 (.int .u8 0) 1 rfl Try.underlying22 info5 rfl (by decide) (by omega) (.slice A24 bs.length c24) bs l Ad l.length cd (fun _ => True) (fun _ => False) e7 e9 (hr24) (Kd.C_below HC.out (HW2.out.trans hfr.out.below)) (fun _ _ h => h) (fun _ h => h.elim) (fun _ _ => trivial) (Below.refl _ _) hfr.out.below.size HLN.out.1 ?_
        intro x' w3 ho hb1 hg1 hn1
        rw [← HBL.out] at ho
        obtain ⟨A', c', rfl, _, _⟩ := Kd.R_reads ho
        exact hK.out _ _ ⟨x19, A24, c24, A', c', (put1 u 27 (.slice A' bl.length c')), ⟨rfl, hI.out.2.1.upd 10 rfl rfl rfl rfl, ⟨hfr.out.new hg1 HW2.out.size (fun q e => hq q e)⟩, ⟨by have hg := hgr.out; have h21 : LL 21 = false := flag_off (fun h => (hz.out h).2.2) hLk; rw [h21] at hg; show _ = some (Obj.cells #[bif LL 21 then _ else _, _] 45 (0, 0)); rw [h21]; exact (hg1.block gr (blk_lt hgr.out) (fun e => by have := HGL.out; have := hq gr e.symm; omega)).trans hg⟩, ⟨fun h => ⟨upd_old (hz.out h).1, upd_old (hz.out h).2.1, upd_old (hz.out h).2.2⟩⟩, hI.out.2.2.2.2.2.1, hI.out.2.2.2.2.2.2.1, ⟨fun _ => upd_old (hd 7 rfl)⟩, ⟨fun _ h => absurd (hd 7 rfl) (by rw [show LL 7 = false from h]; decide)⟩, ⟨fun _ h => Bool.noConfusion (show true = false from h)⟩, ⟨fun _ => ho⟩⟩⟩
      · intro LL a wx hI hLk hd K' hK
        obtain ⟨x19, A24, c24, A27, c27, u, hI⟩ := hI
        obtain rfl := hI.out.1
        rw [if_pos (by rfl)]
        go_simp
        exact hK.out _ _ ⟨x19, A24, c24, A27, c27, (put1 u 28 (.pointer (some ⟨gr, 0, none⟩))), ⟨rfl, hI.out.2.1.upd 11 rfl rfl rfl rfl, hI.out.2.2.1, hI.out.2.2.2.1, hI.out.2.2.2.2.1, hI.out.2.2.2.2.2.1, hI.out.2.2.2.2.2.2.1, hI.out.2.2.2.2.2.2.2.1, hI.out.2.2.2.2.2.2.2.2.1, hI.out.2.2.2.2.2.2.2.2.2.1, hI.out.2.2.2.2.2.2.2.2.2.2⟩⟩
      · intro LL a wx hI hLk hd K' hK
        obtain ⟨x19, A24, c24, A27, c27, u, hI⟩ := hI
        obtain rfl := hI.out.1
        have e11 := hI.out.2.1.at 11 rfl (hd 11 rfl)
        rw [if_pos (by rfl)]
        go_simp
        exact hK.out _ _ ⟨x19, A24, c24, A27, c27, (put1 (put1 u 28 (.pointer (some ⟨gr, 0, none⟩))) 29 (.pointer (some ⟨gr, 0, none⟩))), ⟨rfl, (hI.out.2.1.same (s := 28) (v := .pointer (some ⟨gr, 0, none⟩)) e11).upd 12 rfl rfl rfl rfl, hI.out.2.2.1, hI.out.2.2.2.1, hI.out.2.2.2.2.1, hI.out.2.2.2.2.2.1, hI.out.2.2.2.2.2.2.1, hI.out.2.2.2.2.2.2.2.1, hI.out.2.2.2.2.2.2.2.2.1, hI.out.2.2.2.2.2.2.2.2.2.1, hI.out.2.2.2.2.2.2.2.2.2.2⟩⟩
      · intro LL a wx hI hLk hd K' hK
        obtain ⟨x19, A24, c24, A27, c27, u, hI⟩ := hI
        obtain rfl := hI.out.1
        have e12 := hI.out.2.1.at 12 rfl (hd 12 rfl)
        rw [if_pos (by rfl)]
        go_simp
        exact hK.out _ _ ⟨x19, A24, c24, A27, c27, (put1 (put1 u 29 (.pointer (some ⟨gr, 0, none⟩))) 30 (.pointer (some ⟨gr, 1, none⟩))), ⟨rfl, (hI.out.2.1.same (s := 29) (v := .pointer (some ⟨gr, 0, none⟩)) e12).upd 13 rfl rfl rfl rfl, hI.out.2.2.1, hI.out.2.2.2.1, hI.out.2.2.2.2.1, hI.out.2.2.2.2.2.1, hI.out.2.2.2.2.2.2.1, hI.out.2.2.2.2.2.2.2.1, hI.out.2.2.2.2.2.2.2.2.1, hI.out.2.2.2.2.2.2.2.2.2.1, hI.out.2.2.2.2.2.2.2.2.2.2⟩⟩
      · intro LL a wx hI hLk hd K' hK
        obtain ⟨x19, A24, c24, A27, c27, u, hI⟩ := hI
        obtain rfl := hI.out.1
        have e13 := hI.out.2.1.at 13 rfl (hd 13 rfl)
        have hgr := hI.out.2.2.2.1
        have hz := hI.out.2.2.2.2.1
        have hy := hI.out.2.2.2.2.2.1
        have hg := hgr.out
        rw [flag_off (fun h => (hz.out (hy.out h)).2.1) hLk] at hg
        have d1 : wx.cell? ⟨gr, 1, none⟩ = some (.int .i64 (lo : Int)) := (blk_cell hg 1).trans rfl
        rw [if_pos (by rfl)]
        go_simp
        exact hK.out _ _ ⟨x19, A24, c24, A27, c27, (put1 (put1 u 30 (.pointer (some ⟨gr, 1, none⟩))) 31 (.int .i64 (lo : Int))), ⟨rfl, (hI.out.2.1.same (s := 30) (v := .pointer (some ⟨gr, 1, none⟩)) e13).upd 14 rfl rfl rfl rfl, hI.out.2.2.1, hI.out.2.2.2.1, ⟨fun h => ⟨upd_old (hz.out h).1, upd_old (hz.out h).2.1, upd_old (hz.out h).2.2⟩⟩, hI.out.2.2.2.2.2.1, hI.out.2.2.2.2.2.2.1, hI.out.2.2.2.2.2.2.2.1, hI.out.2.2.2.2.2.2.2.2.1, hI.out.2.2.2.2.2.2.2.2.2.1, hI.out.2.2.2.2.2.2.2.2.2.2⟩⟩
      · intro LL a wx hI hLk hd K' hK
        obtain ⟨x19, A24, c24, A27, c27, u, hI⟩ := hI
        obtain rfl := hI.out.1
        rw [if_pos (by rfl)]
        go_simp
        exact hK.out _ _ ⟨x19, A24, c24, A27, c27, (put1 u 32 (.pointer (some ⟨gd, 2, none⟩))), ⟨rfl, hI.out.2.1.upd 15 rfl rfl rfl rfl, hI.out.2.2.1, hI.out.2.2.2.1, hI.out.2.2.2.2.1, hI.out.2.2.2.2.2.1, hI.out.2.2.2.2.2.2.1, hI.out.2.2.2.2.2.2.2.1, hI.out.2.2.2.2.2.2.2.2.1, hI.out.2.2.2.2.2.2.2.2.2.1, hI.out.2.2.2.2.2.2.2.2.2.2⟩⟩
      · intro LL a wx hI hLk hd K' hK
        obtain ⟨x19, A24, c24, A27, c27, u, hI⟩ := hI
        obtain rfl := hI.out.1
        have e15 := hI.out.2.1.at 15 rfl (hd 15 rfl)
        have hfr := hI.out.2.2.1
        have hd2 : wx.heap[gd]? = _ := (hfr.out.block gd (blk_lt HD.out) HNE.out).trans HD.out
        have d2 : wx.cell? ⟨gd, 2, none⟩ = some (.slice Ad l.length cd) := (blk_cell hd2 2).trans rfl
        rw [if_pos (by rfl)]
        go_simp
        exact hK.out _ _ ⟨x19, A24, c24, A27, c27, (put1 (put1 u 32 (.pointer (some ⟨gd, 2, none⟩))) 33 (.slice Ad l.length cd)), ⟨rfl, (hI.out.2.1.same (s := 32) (v := .pointer (some ⟨gd, 2, none⟩)) e15).upd 16 rfl rfl rfl rfl, hI.out.2.2.1, hI.out.2.2.2.1, hI.out.2.2.2.2.1, hI.out.2.2.2.2.2.1, hI.out.2.2.2.2.2.2.1, hI.out.2.2.2.2.2.2.2.1, hI.out.2.2.2.2.2.2.2.2.1, hI.out.2.2.2.2.2.2.2.2.2.1, hI.out.2.2.2.2.2.2.2.2.2.2⟩⟩
      · intro LL a wx hI hLk hd K' hK
        obtain ⟨x19, A24, c24, A27, c27, u, hI⟩ := hI
        obtain rfl := hI.out.1
        have e16 := hI.out.2.1.at 16 rfl (hd 16 rfl)
        rw [if_pos (by rfl)]
        go_simp
        exact hK.out _ _ ⟨x19, A24, c24, A27, c27, (put1 (put1 u 33 (.slice Ad l.length cd)) 34 (.int .i64 (l.length : Int))), ⟨rfl, (hI.out.2.1.same (s := 33) (v := .slice Ad l.length cd) e16).upd 17 rfl rfl rfl rfl, hI.out.2.2.1, hI.out.2.2.2.1, hI.out.2.2.2.2.1, hI.out.2.2.2.2.2.1, hI.out.2.2.2.2.2.2.1, hI.out.2.2.2.2.2.2.2.1, hI.out.2.2.2.2.2.2.2.2.1, hI.out.2.2.2.2.2.2.2.2.2.1, hI.out.2.2.2.2.2.2.2.2.2.2⟩⟩
      · intro LL a wx hI hLk hd K' hK
        obtain ⟨x19, A24, c24, A27, c27, u, hI⟩ := hI
        obtain rfl := hI.out.1
        have e14 := hI.out.2.1.at 14 rfl (hd 14 rfl)
        have e17 := hI.out.2.1.at 17 rfl (hd 17 rfl)
        have hsb := HSB.out
        rw [if_pos (by rfl)]
        go_simp
        exact hK.out _ _ ⟨x19, A24, c24, A27, c27, (put1 (put1 (put1 u 31 (.int .i64 (lo : Int))) 34 (.int .i64 (l.length : Int))) 35 (.int .i64 (lo2 : Int))), ⟨rfl, ((hI.out.2.1.same (s := 31) (v := .int .i64 (lo : Int)) e14).same (s := 34) (v := .int .i64 (l.length : Int)) e17).upd 18 rfl rfl rfl rfl, hI.out.2.2.1, hI.out.2.2.2.1, hI.out.2.2.2.2.1, hI.out.2.2.2.2.2.1, hI.out.2.2.2.2.2.2.1, hI.out.2.2.2.2.2.2.2.1, hI.out.2.2.2.2.2.2.2.2.1, hI.out.2.2.2.2.2.2.2.2.2.1, hI.out.2.2.2.2.2.2.2.2.2.2⟩⟩
      · intro LL a wx hI hLk hd K' hK
        obtain ⟨x19, A24, c24, A27, c27, u, hI⟩ := hI
        obtain rfl := hI.out.1
        have e0 := hI.out.2.1.at 0 rfl (hd 0 rfl)
        rw [if_pos (by rfl)]
        go_simp
        exact hK.out _ _ ⟨x19, A24, c24, A27, c27, (put1 (put1 u 17 (.pointer (some ⟨gr, 0, none⟩))) 36 (.pointer (some ⟨gr, 0, none⟩))), ⟨rfl, (hI.out.2.1.same (s := 17) (v := .pointer (some ⟨gr, 0, none⟩)) e0).upd 19 rfl rfl rfl rfl, hI.out.2.2.1, hI.out.2.2.2.1, hI.out.2.2.2.2.1, hI.out.2.2.2.2.2.1, hI.out.2.2.2.2.2.2.1, hI.out.2.2.2.2.2.2.2.1, hI.out.2.2.2.2.2.2.2.2.1, hI.out.2.2.2.2.2.2.2.2.2.1, hI.out.2.2.2.2.2.2.2.2.2.2⟩⟩
      · intro LL a wx hI hLk hd K' hK
        obtain ⟨x19, A24, c24, A27, c27, u, hI⟩ := hI
        obtain rfl := hI.out.1
        have e19 := hI.out.2.1.at 19 rfl (hd 19 rfl)
        rw [if_pos (by rfl)]
        go_simp
        exact hK.out _ _ ⟨x19, A24, c24, A27, c27, (put1 (put1 u 36 (.pointer (some ⟨gr, 0, none⟩))) 37 (.pointer (some ⟨gr, 0, none⟩))), ⟨rfl, (hI.out.2.1.same (s := 36) (v := .pointer (some ⟨gr, 0, none⟩)) e19).upd 20 rfl rfl rfl rfl, hI.out.2.2.1, hI.out.2.2.2.1, hI.out.2.2.2.2.1, hI.out.2.2.2.2.2.1, hI.out.2.2.2.2.2.2.1, hI.out.2.2.2.2.2.2.2.1, hI.out.2.2.2.2.2.2.2.2.1, hI.out.2.2.2.2.2.2.2.2.2.1, hI.out.2.2.2.2.2.2.2.2.2.2⟩⟩
      · intro LL a wx hI hLk hd K' hK
        obtain ⟨x19, A24, c24, A27, c27, u, hI⟩ := hI
        obtain rfl := hI.out.1
        have e20 := hI.out.2.1.at 20 rfl (hd 20 rfl)
        have e10 := hI.out.2.1.at 10 rfl (hd 10 rfl)
        have hfr := hI.out.2.2.1
        have hgr := hI.out.2.2.2.1
        have h27 := hI.out.2.2.2.2.2.2.2.2.2.2
        have hg := hgr.out
        rw [hLk] at hg
        have f0 := blk_frozen hg 0
        have d0 := blk_cell hg 0
        rw [if_pos (by rfl)]
        go_simp
        exact hK.out _ _ ⟨x19, A24, c24, A27, c27, (put1 (put1 u 37 (.pointer (some ⟨gr, 0, none⟩))) 27 (.slice A27 bl.length c27)), ⟨rfl, ((hI.out.2.1.same (s := 37) (v := .pointer (some ⟨gr, 0, none⟩)) e20).same (s := 27) (v := .slice A27 bl.length c27) e10).none 21 rfl, ⟨hfr.out.set (p := ⟨gr, 0, none⟩) rfl HGE.out _⟩, ⟨blk_put hg 0 _ rfl⟩, ⟨fun _ => ⟨hd 6 rfl, hd 14 rfl, hd 10 rfl⟩⟩, ⟨fun _ => rfl⟩, hI.out.2.2.2.2.2.2.1, hI.out.2.2.2.2.2.2.2.1, ⟨fun _ h => absurd (hd 7 rfl) (by rw [show LL 7 = false from h]; decide)⟩, ⟨fun _ h => absurd (hd 10 rfl) (by rw [show LL 10 = false from h]; decide)⟩, ⟨fun h => Kd.R_mono (Kd.R_far (p := ⟨gr, 0, none⟩) (Kd.R_bound (h27.out h)) (fun k hk he => by have := hk.2.1; have := HGL.out; have : k = gr := he; omega) _) (fun _ _ => trivial)⟩⟩⟩
      · intro LL a wx hI hLk hd K' hK
        obtain ⟨x19, A24, c24, A27, c27, u, hI⟩ := hI
        obtain rfl := hI.out.1
        have e1 := hI.out.2.1.at 1 rfl (hd 1 rfl)
        rw [if_pos (by rfl)]
        go_simp
        exact hK.out _ _ ⟨x19, A24, c24, A27, c27, (put1 (put1 u 18 (.pointer (some ⟨gr, 0, none⟩))) 38 (.pointer (some ⟨gr, 0, none⟩))), ⟨rfl, (hI.out.2.1.same (s := 18) (v := .pointer (some ⟨gr, 0, none⟩)) e1).upd 21 rfl rfl rfl rfl, hI.out.2.2.1, hI.out.2.2.2.1, hI.out.2.2.2.2.1, hI.out.2.2.2.2.2.1, hI.out.2.2.2.2.2.2.1, hI.out.2.2.2.2.2.2.2.1, hI.out.2.2.2.2.2.2.2.2.1, hI.out.2.2.2.2.2.2.2.2.2.1, hI.out.2.2.2.2.2.2.2.2.2.2⟩⟩
      · intro LL a wx hI hLk hd K' hK
        obtain ⟨x19, A24, c24, A27, c27, u, hI⟩ := hI
        obtain rfl := hI.out.1
        have e22 := hI.out.2.1.at 21 rfl (hd 22 rfl)
        rw [if_pos (by rfl)]
        go_simp
        exact hK.out _ _ ⟨x19, A24, c24, A27, c27, (put1 (put1 u 38 (.pointer (some ⟨gr, 0, none⟩))) 39 (.pointer (some ⟨gr, 1, none⟩))), ⟨rfl, (hI.out.2.1.same (s := 38) (v := .pointer (some ⟨gr, 0, none⟩)) e22).upd 22 rfl rfl rfl rfl, hI.out.2.2.1, hI.out.2.2.2.1, hI.out.2.2.2.2.1, hI.out.2.2.2.2.2.1, hI.out.2.2.2.2.2.2.1, hI.out.2.2.2.2.2.2.2.1, hI.out.2.2.2.2.2.2.2.2.1, hI.out.2.2.2.2.2.2.2.2.2.1, hI.out.2.2.2.2.2.2.2.2.2.2⟩⟩
      · intro LL a wx hI hLk hd K' hK
        obtain ⟨x19, A24, c24, A27, c27, u, hI⟩ := hI
        obtain rfl := hI.out.1
        have e23 := hI.out.2.1.at 22 rfl (hd 23 rfl)
        have e18 := hI.out.2.1.at 18 rfl (hd 18 rfl)
        have hfr := hI.out.2.2.1
        have hgr := hI.out.2.2.2.1
        have h27 := hI.out.2.2.2.2.2.2.2.2.2.2
        have hg := hgr.out
        rw [hLk, hd 21 rfl] at hg
        have f0 := blk_frozen hg 1
        have d0 := blk_cell hg 1
        rw [if_pos (by rfl)]
        go_simp
        exact hK.out _ _ ⟨x19, A24, c24, A27, c27, (put1 (put1 u 39 (.pointer (some ⟨gr, 1, none⟩))) 35 (.int .i64 (lo2 : Int))), ⟨rfl, ((hI.out.2.1.same (s := 39) (v := .pointer (some ⟨gr, 1, none⟩)) e23).same (s := 35) (v := .int .i64 (lo2 : Int)) e18).none 24 rfl, ⟨hfr.out.set (p := ⟨gr, 1, none⟩) rfl HGE.out _⟩, ⟨by have h21 : LL 21 = true := hd 21 rfl; show _ = some (Obj.cells #[bif LL 21 then _ else _, _] 45 (0, 0)); rw [h21]; exact blk_put hg 1 _ rfl⟩, hI.out.2.2.2.2.1, ⟨fun _ => hd 21 rfl⟩, hI.out.2.2.2.2.2.2.1, hI.out.2.2.2.2.2.2.2.1, ⟨fun _ h => absurd (hd 7 rfl) (by rw [show LL 7 = false from h]; decide)⟩, ⟨fun _ h => absurd (hd 10 rfl) (by rw [show LL 10 = false from h]; decide)⟩, ⟨fun h => Kd.R_mono (Kd.R_far (p := ⟨gr, 1, none⟩) (Kd.R_bound (h27.out h)) (fun k hk he => by have := hk.2.1; have := HGL.out; have : k = gr := he; omega) _) (fun _ _ => trivial)⟩⟩⟩
    · intro LL a w9 hall hI
      obtain ⟨x19, A24, c24, A27, c27, u, hI⟩ := hI
      obtain rfl := hI.out.1
      have hfr := hI.out.2.2.1
      have hgr := hI.out.2.2.2.1
      have hz := hI.out.2.2.2.2.1
      have hy := hI.out.2.2.2.2.2.1
      have hp7 := hI.out.2.2.2.2.2.2.1
      have hp10 := hI.out.2.2.2.2.2.2.2.1
      have h19 := hI.out.2.2.2.2.2.2.2.2.1
      have h24 := hI.out.2.2.2.2.2.2.2.2.2.1
      have h27 := hI.out.2.2.2.2.2.2.2.2.2.2
      have hg := hgr.out
      rw [hall 21 (by decide), hall 24 (by decide)] at hg
      have HFIN := Aside0.mk (FIN.out _ _ _ hfr.out hg (h27.out (hall 10 (by decide))))
      clear hI hfr hgr hz hy hp7 hp10 h19 h24 h27 hg
      go_wp2
      refine bodyPost_end (results_none rfl _ _ _) rfl ?_
      exact HFIN.out
  by_cases q3 : dd = 3
  · subst q3
    go_enter Try.func26, Try.ntmps26
    go_wp2_with ((with_reducible refine gate_dst (N := 5) rfl ?_); refine box_event ?hg (N := 5) ?hd (cs := #[.int .i64 3, .int .i64 nn, .slice Ad l.length cd]) (t := 48) ?hr ?_; (case hd => rfl); (case hg => rfl); (case hr => first | (go_simp; done) | (go_simp; rfl)); intro gd hgd w1 hbox hb; have d0 : w1.cell? ⟨gd, 0, none⟩ = some (.int .i64 3) := (blk_cell hbox 0).trans rfl; have d1 : w1.cell? ⟨gd, 1, none⟩ = some (.int .i64 nn) := (blk_cell hbox 1).trans rfl; have d2 : w1.cell? ⟨gd, 2, none⟩ = some (.slice Ad l.length cd) := (blk_cell hbox 2).trans rfl; have HD1 := Aside0.mk hbox; have HB1 := Aside0.mk hb; have HGD := Aside0.mk hgd; clear hbox hb hgd)
    go_at_call 13; refine (append_calls w0.heap.size g _ _ bs l s P w1 (HM.out.below HB1.out) (Kd.C_below HC.out (below_step HW0.out HB1.out)) (by have := HLN0.out; omega) (below_step HW0.out HB1.out).size HP1.out.1).mono ?_
    rintro e w2 ⟨rfl, hm, hf⟩
    have HNE : Aside0 (¬ gd = gr) := ⟨fun e => by have := blk_lt HG0.out; have := HGD.out; omega⟩
    have HD : Aside0 (w2.heap[gd]? = some (.cells #[.int .i64 3, .int .i64 nn, .slice Ad l.length cd] 48 (0, 0))) := ⟨(hf.block gd (blk_lt HD1.out) (fun h => by have := HP1.out.2.2.2 gd (.inl h); have := HGD.out; omega)).trans HD1.out⟩
    have HG : Aside0 (w2.heap[gr]? = some (.cells #[.slice Av bs.length cv, .int .i64 (lo : Int)] 45 (0, 0))) := ⟨(hf.block gr (Nat.lt_of_lt_of_le (blk_lt HG0.out) HB1.out.size) HP1.out.2.1).trans (blk_below HG0.out HB1.out)⟩
    have HV : Aside0 (Kd.V (Kd.int .u8) 5 w2 0 B (.slice Av bs.length cv) bs) := ⟨Kd.V_step (Kd.V_below HV0.out HB1.out) (fun k hk hl => hf.block k hl (fun h => HP1.out.2.2.1 k h hk))⟩
    have HW2 : Aside0 (Below w0.heap.size w0 w2) := ⟨(below_step HW0.out HB1.out).trans hf.below⟩
    have HGL : Aside0 (gr < w2.heap.size) := ⟨blk_lt HG.out⟩
    have HLN : Aside0 ((bs.length + l.length) * 1 ≤ 140737488355328 ∧ (([] : List Int).length + bs.length) * 1 ≤ 140737488355328) := ⟨by have := HLN0.out; simp; omega⟩
    have FIN : Aside0 (∀ (wx : World) (A : Option Addr) (c : Nat), Fr w0.heap.size (fun k => k = gr) w2 wx → wx.heap[gr]? = some (.cells #[.slice A bl.length c, .int .i64 (lo2 : Int)] 45 (0, 0)) → Kd.R (Kd.int .u8) 5 wx w2.heap.size (fun _ => True) (.slice A bl.length c) bl → DoPost w0 W g gr P B bs l (.returned (.tuple #[])) wx) := ⟨fun wx A c fr hg hr => by
      have hm2 := (hm.cap).fr fr (fun k hk e => by
        have e : k = gr := e
        subst e
        rcases hk.1 with h | h
        · exact HP1.out.2.1 h
        · have := blk_lt HG0.out; have := HB1.out.size; omega)
      have hle := HLN0.out
      have hw := HB1.out.size
      have hw2 := hf.below.size
      refine ⟨rfl, fun k => (P k ∨ w1.heap.size ≤ k) ∧ k < w2.heap.size, fun k => w2.heap.size ≤ k ∧ k < wx.heap.size, bl, s, ⟨by rw [HBL.out]; exact hm2, ⟨_, ?_, Kd.V_mono (V_of_R (Kd.R_bound hr)) (fun k hk => ⟨hk.2.1, hk.2.2.1⟩), ?_⟩, HGE.out, ?_, ?_, ?_, ?_⟩, ?_, ?_, ?_, ?_⟩
      · rw [show bl.length - s = lo2 by rw [HBL.out, HLO2.out, List.length_append]; omega]; exact hg
      · intro h; have := HGL.out; omega
      · intro k hk; rcases hk.1 with h | h
        · exact HP1.out.1 k h
        · have := HW0.out.size; omega
      · intro h; rcases h.1 with h | h
        · exact HP1.out.2.1 h
        · have := blk_lt HG0.out; omega
      · intro k hk hb; omega
      · intro k hk; have := fr.below.size; rcases hk with hk | hk <;> omega
      · intro k hk; rcases hk.1 with h | h
        · exact .inl h
        · exact .inr (by omega)
      · intro k hk; exact .inr (by omega)
      · exact ((((Fr.refl w0.heap.size _ W).step HB1.out HW0.out.size).then (hf.weak (fun k hk => .inl hk))).then (fr.weak (fun k hk => .inr hk)))
      · rw [HBL.out, List.length_append]; omega⟩
    clear hm hf d0 d1 d2 HD1
    go_wp2_with fail
    refine wp_region_steps 25 rfl rfl (by kernel_rfl) (fun LL a wx => ∃ x19 : Value, ∃ A24 : Option Addr, ∃ c24 : Nat, ∃ A27 : Option Addr, ∃ c27 : Nat, ∃ u : Nat → Value, Aside0 (a = { tmps := List.toArray (.pointer (some ⟨g, 0, none⟩) :: .pointer (some ⟨gr, 0, none⟩) :: .agg #[.int .i64 3, .int .i64 nn, .slice Ad l.length cd] :: undef :: undef :: .pointer (some ⟨gd, 0, none⟩) :: .pointer (some ⟨gd, 0, none⟩) :: .int .i64 3 :: .bool true :: .bool false :: .bool false :: .bool false :: .bool true :: .pointer (some ⟨g, 0, none⟩) :: .pointer (some ⟨gd, 2, none⟩) :: .slice Ad l.length cd :: .tuple #[] :: u 17 :: u 18 :: u 19 :: u 20 :: u 21 :: u 22 :: u 23 :: u 24 :: u 25 :: u 26 :: u 27 :: u 28 :: u 29 :: u 30 :: u 31 :: u 32 :: u 33 :: u 34 :: u 35 :: u 36 :: u 37 :: u 38 :: u 39 :: undef :: undef :: undef :: undef :: undef :: undef :: undef :: undef :: undef :: undef :: undef :: undef :: undef :: undef :: undef :: undef :: undef :: undef :: undef :: undef :: undef :: undef :: undef :: undef :: undef :: undef :: undef :: undef :: undef :: undef :: undef :: undef :: undef :: undef :: []), defers := [] } ∧ Tab LL u [(0, 17, .pointer (some ⟨gr, 0, none⟩)), (1, 18, .pointer (some ⟨gr, 0, none⟩)), (2, 19, x19), (3, 20, .pointer (some ⟨gr, 0, none⟩)), (4, 21, .pointer (some ⟨gr, 0, none⟩)), (5, 22, .pointer (some ⟨gr, 0, none⟩)), (6, 23, .slice Av bs.length cv), (7, 24, .slice A24 bs.length c24), (8, 25, .pointer (some ⟨gd, 2, none⟩)), (9, 26, .slice Ad l.length cd), (10, 27, .slice A27 bl.length c27), (11, 28, .pointer (some ⟨gr, 0, none⟩)), (12, 29, .pointer (some ⟨gr, 0, none⟩)), (13, 30, .pointer (some ⟨gr, 1, none⟩)), (14, 31, .int .i64 (lo : Int)), (15, 32, .pointer (some ⟨gd, 2, none⟩)), (16, 33, .slice Ad l.length cd), (17, 34, .int .i64 (l.length : Int)), (18, 35, .int .i64 (lo2 : Int)), (19, 36, .pointer (some ⟨gr, 0, none⟩)), (20, 37, .pointer (some ⟨gr, 0, none⟩)), (22, 38, .pointer (some ⟨gr, 0, none⟩)), (23, 39, .pointer (some ⟨gr, 1, none⟩))] ∧ Aside0 (Fr w0.heap.size (fun k => k = gr) w2 wx) ∧ Aside0 (wx.heap[gr]? = some (.cells #[bif LL 21 then .slice A27 bl.length c27 else .slice Av bs.length cv, bif LL 24 then .int .i64 (lo2 : Int) else .int .i64 (lo : Int)] 45 (0, 0))) ∧ Aside0 (LL 21 = true → LL 6 = true ∧ LL 14 = true ∧ LL 10 = true) ∧ Aside0 (LL 24 = true → LL 21 = true) ∧ Aside0 (LL 7 = true → LL 2 = true) ∧ Aside0 (LL 10 = true → LL 7 = true) ∧ Aside0 (LL 2 = true → LL 7 = false → Kd.R (Kd.int .u8) 5 wx w2.heap.size (fun _ => True) x19 []) ∧ Aside0 (LL 7 = true → LL 10 = false → Kd.R (Kd.int .u8) 5 wx w2.heap.size (fun _ => True) (.slice A24 bs.length c24) bs) ∧ Aside0 (LL 10 = true → Kd.R (Kd.int .u8) 5 wx w2.heap.size (fun _ => True) (.slice A27 bl.length c27) bl))) ?_ ?_ ?_
    · exact ⟨.slice none 0 0, none, 0, none, 0, fun _ => undef, ⟨rfl, Tab.start 25 rfl rfl, ⟨(Fr.refl _ _ _).step (below_drew (Below.refl _ _)) HW2.out.size⟩, ⟨blk_below HG.out (below_drew (Below.refl _ _))⟩, ⟨fun h => absurd h (by decide)⟩, ⟨fun h => absurd h (by decide)⟩, ⟨fun h => absurd h (by decide)⟩, ⟨fun h => absurd h (by decide)⟩, ⟨fun h => absurd h (by decide)⟩, ⟨fun h => absurd h (by decide)⟩, ⟨fun h => absurd h (by decide)⟩⟩⟩
    · refine Steps.cons ?_ (Steps.cons ?_ (Steps.cons ?_ (Steps.cons ?_ (Steps.cons ?_ (Steps.cons ?_ (Steps.cons ?_ (Steps.cons ?_ (Steps.cons ?_ (Steps.cons ?_ (Steps.cons ?_ (Steps.cons ?_ (Steps.cons ?_ (Steps.cons ?_ (Steps.cons ?_ (Steps.cons ?_ (Steps.cons ?_ (Steps.cons ?_ (Steps.cons ?_ (Steps.cons ?_ (Steps.cons ?_ (Steps.cons ?_ (Steps.cons ?_ (Steps.cons ?_ (Steps.cons ?_ (Steps.nil)))))))))))))))))))))))))
      · intro LL a wx hI hLk hd K' hK
        obtain ⟨x19, A24, c24, A27, c27, u, hI⟩ := hI
        obtain rfl := hI.out.1
        rw [if_pos (by rfl)]
        go_simp
        exact hK.out _ _ ⟨x19, A24, c24, A27, c27, (put1 u 17 (.pointer (some ⟨gr, 0, none⟩))), ⟨rfl, hI.out.2.1.upd 0 rfl rfl rfl rfl, hI.out.2.2.1, hI.out.2.2.2.1, hI.out.2.2.2.2.1, hI.out.2.2.2.2.2.1, hI.out.2.2.2.2.2.2.1, hI.out.2.2.2.2.2.2.2.1, hI.out.2.2.2.2.2.2.2.2.1, hI.out.2.2.2.2.2.2.2.2.2.1, hI.out.2.2.2.2.2.2.2.2.2.2⟩⟩
      · intro LL a wx hI hLk hd K' hK
        obtain ⟨x19, A24, c24, A27, c27, u, hI⟩ := hI
        obtain rfl := hI.out.1
        rw [if_pos (by rfl)]
        go_simp
        exact hK.out _ _ ⟨x19, A24, c24, A27, c27, (put1 u 18 (.pointer (some ⟨gr, 0, none⟩))), ⟨rfl, hI.out.2.1.upd 1 rfl rfl rfl rfl, hI.out.2.2.1, hI.out.2.2.2.1, hI.out.2.2.2.2.1, hI.out.2.2.2.2.2.1, hI.out.2.2.2.2.2.2.1, hI.out.2.2.2.2.2.2.2.1, hI.out.2.2.2.2.2.2.2.2.1, hI.out.2.2.2.2.2.2.2.2.2.1, hI.out.2.2.2.2.2.2.2.2.2.2⟩⟩
      · intro LL a wx hI hLk hd K' hK
        obtain ⟨x19, A24, c24, A27, c27, u, hI⟩ := hI
        obtain rfl := hI.out.1
        have hfr := hI.out.2.2.1
        have hgr := hI.out.2.2.2.1
        have hp7 := hI.out.2.2.2.2.2.2.1
        have hp10 := hI.out.2.2.2.2.2.2.2.1
        have hfr0 := hfr.out
        refine Kd.R_lit_step (Kd.int .u8) (w0 := wx) w2.heap.size 5 (by rfl) (N := 19) rfl (xs := ([] : List Int)) (inner := []) (ok := fun _ => True) (okp := fun _ => True) (by first | (go_simp; done) | (go_simp; rfl)) (Reps.none _ _) (fun _ hk => hk) trivial (Below.refl _ _) hfr.out.below.size (by simp) ?_
        intro x' w3 ho hb1 hg1 hn1
        exact hK.out _ _ ⟨x', A24, c24, A27, c27, (put1 u 19 x'), ⟨rfl, hI.out.2.1.upd 2 rfl rfl rfl rfl, ⟨hfr.out.new hg1 HW2.out.size (fun q e => by cases e)⟩, ⟨(hg1.block gr (blk_lt hgr.out) (fun e => by cases e)).trans hgr.out⟩, hI.out.2.2.2.2.1, hI.out.2.2.2.2.2.1, ⟨fun _ => rfl⟩, hI.out.2.2.2.2.2.2.2.1, ⟨fun _ _ => ho⟩, ⟨fun h => absurd (hp7.out h) (by rw [hLk]; decide)⟩, ⟨fun h => absurd (hp7.out (hp10.out h)) (by rw [hLk]; decide)⟩⟩⟩
      · intro LL a wx hI hLk hd K' hK
        obtain ⟨x19, A24, c24, A27, c27, u, hI⟩ := hI
        obtain rfl := hI.out.1
        rw [if_pos (by rfl)]
        go_simp
        exact hK.out _ _ ⟨x19, A24, c24, A27, c27, (put1 u 20 (.pointer (some ⟨gr, 0, none⟩))), ⟨rfl, hI.out.2.1.upd 3 rfl rfl rfl rfl, hI.out.2.2.1, hI.out.2.2.2.1, hI.out.2.2.2.2.1, hI.out.2.2.2.2.2.1, hI.out.2.2.2.2.2.2.1, hI.out.2.2.2.2.2.2.2.1, hI.out.2.2.2.2.2.2.2.2.1, hI.out.2.2.2.2.2.2.2.2.2.1, hI.out.2.2.2.2.2.2.2.2.2.2⟩⟩
      · intro LL a wx hI hLk hd K' hK
        obtain ⟨x19, A24, c24, A27, c27, u, hI⟩ := hI
        obtain rfl := hI.out.1
        have e3 := hI.out.2.1.at 3 rfl (hd 3 rfl)
        rw [if_pos (by rfl)]
        go_simp
        exact hK.out _ _ ⟨x19, A24, c24, A27, c27, (put1 (put1 u 20 (.pointer (some ⟨gr, 0, none⟩))) 21 (.pointer (some ⟨gr, 0, none⟩))), ⟨rfl, (hI.out.2.1.same (s := 20) (v := .pointer (some ⟨gr, 0, none⟩)) e3).upd 4 rfl rfl rfl rfl, hI.out.2.2.1, hI.out.2.2.2.1, hI.out.2.2.2.2.1, hI.out.2.2.2.2.2.1, hI.out.2.2.2.2.2.2.1, hI.out.2.2.2.2.2.2.2.1, hI.out.2.2.2.2.2.2.2.2.1, hI.out.2.2.2.2.2.2.2.2.2.1, hI.out.2.2.2.2.2.2.2.2.2.2⟩⟩
      · intro LL a wx hI hLk hd K' hK
        obtain ⟨x19, A24, c24, A27, c27, u, hI⟩ := hI
        obtain rfl := hI.out.1
        have e4 := hI.out.2.1.at 4 rfl (hd 4 rfl)
        rw [if_pos (by rfl)]
        go_simp
        exact hK.out _ _ ⟨x19, A24, c24, A27, c27, (put1 (put1 u 21 (.pointer (some ⟨gr, 0, none⟩))) 22 (.pointer (some ⟨gr, 0, none⟩))), ⟨rfl, (hI.out.2.1.same (s := 21) (v := .pointer (some ⟨gr, 0, none⟩)) e4).upd 5 rfl rfl rfl rfl, hI.out.2.2.1, hI.out.2.2.2.1, hI.out.2.2.2.2.1, hI.out.2.2.2.2.2.1, hI.out.2.2.2.2.2.2.1, hI.out.2.2.2.2.2.2.2.1, hI.out.2.2.2.2.2.2.2.2.1, hI.out.2.2.2.2.2.2.2.2.2.1, hI.out.2.2.2.2.2.2.2.2.2.2⟩⟩
      · intro LL a wx hI hLk hd K' hK
        obtain ⟨x19, A24, c24, A27, c27, u, hI⟩ := hI
        obtain rfl := hI.out.1
        have e5 := hI.out.2.1.at 5 rfl (hd 5 rfl)
        have hgr := hI.out.2.2.2.1
        have hz := hI.out.2.2.2.2.1
        have hg := hgr.out
        rw [flag_off (fun h => (hz.out h).1) hLk] at hg
        have d0 : wx.cell? ⟨gr, 0, none⟩ = some (.slice Av bs.length cv) := (blk_cell hg 0).trans rfl
        rw [if_pos (by rfl)]
        go_simp
        exact hK.out _ _ ⟨x19, A24, c24, A27, c27, (put1 (put1 u 22 (.pointer (some ⟨gr, 0, none⟩))) 23 (.slice Av bs.length cv)), ⟨rfl, (hI.out.2.1.same (s := 22) (v := .pointer (some ⟨gr, 0, none⟩)) e5).upd 6 rfl rfl rfl rfl, hI.out.2.2.1, hI.out.2.2.2.1, ⟨fun h => ⟨upd_old (hz.out h).1, upd_old (hz.out h).2.1, upd_old (hz.out h).2.2⟩⟩, hI.out.2.2.2.2.2.1, hI.out.2.2.2.2.2.2.1, hI.out.2.2.2.2.2.2.2.1, hI.out.2.2.2.2.2.2.2.2.1, hI.out.2.2.2.2.2.2.2.2.2.1, hI.out.2.2.2.2.2.2.2.2.2.2⟩⟩
      · intro LL a wx hI hLk hd K' hK
        obtain ⟨x19, A24, c24, A27, c27, u, hI⟩ := hI
        obtain rfl := hI.out.1
        have e2 := hI.out.2.1.at 2 rfl (hd 2 rfl)
        have e6 := hI.out.2.1.at 6 rfl (hd 6 rfl)
        have hfr := hI.out.2.2.1
        have hgr := hI.out.2.2.2.1
        have hp10 := hI.out.2.2.2.2.2.2.2.1
        have h19 := hI.out.2.2.2.2.2.2.2.2.1
        have hr19 := h19.out (hd 2 rfl) hLk
        have hq := Kd.R_base hr19
        refine Kd.R_append_rows_step (Kd.int .u8) (Rr := Kd.K (Kd.int .u8) wx) (w0 := wx) w2.heap.size (by rfl) (.tmp 19) (.tmp 23) 22 5 (.int .u8 0) 1 rfl Try.underlying22 info5 rfl (by decide) (by omega) (x19) [] bs Av bs.length cv (fun _ => True) (fun _ => False) e2 e6 (hr19) ((Kd.V_reads' (Kd.V_step HV.out (fun k hk hl => hfr.out.block k hl (fun e => HNB.out (by rw [show k = gr from e] at hk; exact hk))))).2.2) (fun _ _ h => h) (fun _ h => h.elim) (fun _ _ => trivial) (Below.refl _ _) hfr.out.below.size HLN.out.2 ?_
        intro x' w3 ho hb1 hg1 hn1
        rw [List.nil_append] at ho
        obtain ⟨A', c', rfl, _, _⟩ := Kd.R_reads ho
        exact hK.out _ _ ⟨x19, A', c', A27, c27, (put1 u 24 (.slice A' bs.length c')), ⟨rfl, hI.out.2.1.upd 7 rfl rfl rfl rfl, ⟨hfr.out.new hg1 HW2.out.size (fun q e => hq q e)⟩, ⟨(hg1.block gr (blk_lt hgr.out) (fun e => by have := HGL.out; have := hq gr e.symm; omega)).trans hgr.out⟩, hI.out.2.2.2.2.1, hI.out.2.2.2.2.2.1, ⟨fun _ => upd_old (hd 2 rfl)⟩, ⟨fun _ => rfl⟩, ⟨fun _ h => Bool.noConfusion (show true = false from h)⟩, ⟨fun _ _ => ho⟩, ⟨fun h => absurd (hp10.out h) (by rw [hLk]; decide)⟩⟩⟩
      · intro LL a wx hI hLk hd K' hK
        obtain ⟨x19, A24, c24, A27, c27, u, hI⟩ := hI
        obtain rfl := hI.out.1
        rw [if_pos (by rfl)]
        go_simp
        exact hK.out _ _ ⟨x19, A24, c24, A27, c27, (put1 u 25 (.pointer (some ⟨gd, 2, none⟩))), ⟨rfl, hI.out.2.1.upd 8 rfl rfl rfl rfl, hI.out.2.2.1, hI.out.2.2.2.1, hI.out.2.2.2.2.1, hI.out.2.2.2.2.2.1, hI.out.2.2.2.2.2.2.1, hI.out.2.2.2.2.2.2.2.1, hI.out.2.2.2.2.2.2.2.2.1, hI.out.2.2.2.2.2.2.2.2.2.1, hI.out.2.2.2.2.2.2.2.2.2.2⟩⟩
      · intro LL a wx hI hLk hd K' hK
        obtain ⟨x19, A24, c24, A27, c27, u, hI⟩ := hI
        obtain rfl := hI.out.1
        have e8 := hI.out.2.1.at 8 rfl (hd 8 rfl)
        have hfr := hI.out.2.2.1
        have hd2 : wx.heap[gd]? = _ := (hfr.out.block gd (blk_lt HD.out) HNE.out).trans HD.out
        have d2 : wx.cell? ⟨gd, 2, none⟩ = some (.slice Ad l.length cd) := (blk_cell hd2 2).trans rfl
        rw [if_pos (by rfl)]
        go_simp
        exact hK.out _ _ ⟨x19, A24, c24, A27, c27, (put1 (put1 u 25 (.pointer (some ⟨gd, 2, none⟩))) 26 (.slice Ad l.length cd)), ⟨rfl, (hI.out.2.1.same (s := 25) (v := .pointer (some ⟨gd, 2, none⟩)) e8).upd 9 rfl rfl rfl rfl, hI.out.2.2.1, hI.out.2.2.2.1, hI.out.2.2.2.2.1, hI.out.2.2.2.2.2.1, hI.out.2.2.2.2.2.2.1, hI.out.2.2.2.2.2.2.2.1, hI.out.2.2.2.2.2.2.2.2.1, hI.out.2.2.2.2.2.2.2.2.2.1, hI.out.2.2.2.2.2.2.2.2.2.2⟩⟩
      · intro LL a wx hI hLk hd K' hK
        obtain ⟨x19, A24, c24, A27, c27, u, hI⟩ := hI
        obtain rfl := hI.out.1
        have e7 := hI.out.2.1.at 7 rfl (hd 7 rfl)
        have e9 := hI.out.2.1.at 9 rfl (hd 9 rfl)
        have hfr := hI.out.2.2.1
        have hgr := hI.out.2.2.2.1
        have hz := hI.out.2.2.2.2.1
        have h24 := hI.out.2.2.2.2.2.2.2.2.2.1
        have hr24 := h24.out (hd 7 rfl) hLk
        have hq := Kd.R_base hr24
        refine Kd.R_append_rows_step (Kd.int .u8) (Rr := Kd.K (Kd.int .u8) wx) (w0 := wx) w2.heap.size (by rfl) (.tmp 24) (.tmp 26) 22 5 (.int .u8 0) 1 rfl Try.underlying22 info5 rfl (by decide) (by omega) (.slice A24 bs.length c24) bs l Ad l.length cd (fun _ => True) (fun _ => False) e7 e9 (hr24) (Kd.C_below HC.out (HW2.out.trans hfr.out.below)) (fun _ _ h => h) (fun _ h => h.elim) (fun _ _ => trivial) (Below.refl _ _) hfr.out.below.size HLN.out.1 ?_
        intro x' w3 ho hb1 hg1 hn1
        rw [← HBL.out] at ho
        obtain ⟨A', c', rfl, _, _⟩ := Kd.R_reads ho
        exact hK.out _ _ ⟨x19, A24, c24, A', c', (put1 u 27 (.slice A' bl.length c')), ⟨rfl, hI.out.2.1.upd 10 rfl rfl rfl rfl, ⟨hfr.out.new hg1 HW2.out.size (fun q e => hq q e)⟩, ⟨by have hg := hgr.out; have h21 : LL 21 = false := flag_off (fun h => (hz.out h).2.2) hLk; rw [h21] at hg; show _ = some (Obj.cells #[bif LL 21 then _ else _, _] 45 (0, 0)); rw [h21]; exact (hg1.block gr (blk_lt hgr.out) (fun e => by have := HGL.out; have := hq gr e.symm; omega)).trans hg⟩, ⟨fun h => ⟨upd_old (hz.out h).1, upd_old (hz.out h).2.1, upd_old (hz.out h).2.2⟩⟩, hI.out.2.2.2.2.2.1, hI.out.2.2.2.2.2.2.1, ⟨fun _ => upd_old (hd 7 rfl)⟩, ⟨fun _ h => absurd (hd 7 rfl) (by rw [show LL 7 = false from h]; decide)⟩, ⟨fun _ h => Bool.noConfusion (show true = false from h)⟩, ⟨fun _ => ho⟩⟩⟩
      · intro LL a wx hI hLk hd K' hK
        obtain ⟨x19, A24, c24, A27, c27, u, hI⟩ := hI
        obtain rfl := hI.out.1
        rw [if_pos (by rfl)]
        go_simp
        exact hK.out _ _ ⟨x19, A24, c24, A27, c27, (put1 u 28 (.pointer (some ⟨gr, 0, none⟩))), ⟨rfl, hI.out.2.1.upd 11 rfl rfl rfl rfl, hI.out.2.2.1, hI.out.2.2.2.1, hI.out.2.2.2.2.1, hI.out.2.2.2.2.2.1, hI.out.2.2.2.2.2.2.1, hI.out.2.2.2.2.2.2.2.1, hI.out.2.2.2.2.2.2.2.2.1, hI.out.2.2.2.2.2.2.2.2.2.1, hI.out.2.2.2.2.2.2.2.2.2.2⟩⟩
      · intro LL a wx hI hLk hd K' hK
        obtain ⟨x19, A24, c24, A27, c27, u, hI⟩ := hI
        obtain rfl := hI.out.1
        have e11 := hI.out.2.1.at 11 rfl (hd 11 rfl)
        rw [if_pos (by rfl)]
        go_simp
        exact hK.out _ _ ⟨x19, A24, c24, A27, c27, (put1 (put1 u 28 (.pointer (some ⟨gr, 0, none⟩))) 29 (.pointer (some ⟨gr, 0, none⟩))), ⟨rfl, (hI.out.2.1.same (s := 28) (v := .pointer (some ⟨gr, 0, none⟩)) e11).upd 12 rfl rfl rfl rfl, hI.out.2.2.1, hI.out.2.2.2.1, hI.out.2.2.2.2.1, hI.out.2.2.2.2.2.1, hI.out.2.2.2.2.2.2.1, hI.out.2.2.2.2.2.2.2.1, hI.out.2.2.2.2.2.2.2.2.1, hI.out.2.2.2.2.2.2.2.2.2.1, hI.out.2.2.2.2.2.2.2.2.2.2⟩⟩
      · intro LL a wx hI hLk hd K' hK
        obtain ⟨x19, A24, c24, A27, c27, u, hI⟩ := hI
        obtain rfl := hI.out.1
        have e12 := hI.out.2.1.at 12 rfl (hd 12 rfl)
        rw [if_pos (by rfl)]
        go_simp
        exact hK.out _ _ ⟨x19, A24, c24, A27, c27, (put1 (put1 u 29 (.pointer (some ⟨gr, 0, none⟩))) 30 (.pointer (some ⟨gr, 1, none⟩))), ⟨rfl, (hI.out.2.1.same (s := 29) (v := .pointer (some ⟨gr, 0, none⟩)) e12).upd 13 rfl rfl rfl rfl, hI.out.2.2.1, hI.out.2.2.2.1, hI.out.2.2.2.2.1, hI.out.2.2.2.2.2.1, hI.out.2.2.2.2.2.2.1, hI.out.2.2.2.2.2.2.2.1, hI.out.2.2.2.2.2.2.2.2.1, hI.out.2.2.2.2.2.2.2.2.2.1, hI.out.2.2.2.2.2.2.2.2.2.2⟩⟩
      · intro LL a wx hI hLk hd K' hK
        obtain ⟨x19, A24, c24, A27, c27, u, hI⟩ := hI
        obtain rfl := hI.out.1
        have e13 := hI.out.2.1.at 13 rfl (hd 13 rfl)
        have hgr := hI.out.2.2.2.1
        have hz := hI.out.2.2.2.2.1
        have hy := hI.out.2.2.2.2.2.1
        have hg := hgr.out
        rw [flag_off (fun h => (hz.out (hy.out h)).2.1) hLk] at hg
        have d1 : wx.cell? ⟨gr, 1, none⟩ = some (.int .i64 (lo : Int)) := (blk_cell hg 1).trans rfl
        rw [if_pos (by rfl)]
        go_simp
        exact hK.out _ _ ⟨x19, A24, c24, A27, c27, (put1 (put1 u 30 (.pointer (some ⟨gr, 1, none⟩))) 31 (.int .i64 (lo : Int))), ⟨rfl, (hI.out.2.1.same (s := 30) (v := .pointer (some ⟨gr, 1, none⟩)) e13).upd 14 rfl rfl rfl rfl, hI.out.2.2.1, hI.out.2.2.2.1, ⟨fun h => ⟨upd_old (hz.out h).1, upd_old (hz.out h).2.1, upd_old (hz.out h).2.2⟩⟩, hI.out.2.2.2.2.2.1, hI.out.2.2.2.2.2.2.1, hI.out.2.2.2.2.2.2.2.1, hI.out.2.2.2.2.2.2.2.2.1, hI.out.2.2.2.2.2.2.2.2.2.1, hI.out.2.2.2.2.2.2.2.2.2.2⟩⟩
      · intro LL a wx hI hLk hd K' hK
        obtain ⟨x19, A24, c24, A27, c27, u, hI⟩ := hI
        obtain rfl := hI.out.1
        rw [if_pos (by rfl)]
        go_simp
        exact hK.out _ _ ⟨x19, A24, c24, A27, c27, (put1 u 32 (.pointer (some ⟨gd, 2, none⟩))), ⟨rfl, hI.out.2.1.upd 15 rfl rfl rfl rfl, hI.out.2.2.1, hI.out.2.2.2.1, hI.out.2.2.2.2.1, hI.out.2.2.2.2.2.1, hI.out.2.2.2.2.2.2.1, hI.out.2.2.2.2.2.2.2.1, hI.out.2.2.2.2.2.2.2.2.1, hI.out.2.2.2.2.2.2.2.2.2.1, hI.out.2.2.2.2.2.2.2.2.2.2⟩⟩
      · intro LL a wx hI hLk hd K' hK
        obtain ⟨x19, A24, c24, A27, c27, u, hI⟩ := hI
        obtain rfl := hI.out.1
        have e15 := hI.out.2.1.at 15 rfl (hd 15 rfl)
        have hfr := hI.out.2.2.1
        have hd2 : wx.heap[gd]? = _ := (hfr.out.block gd (blk_lt HD.out) HNE.out).trans HD.out
        have d2 : wx.cell? ⟨gd, 2, none⟩ = some (.slice Ad l.length cd) := (blk_cell hd2 2).trans rfl
        rw [if_pos (by rfl)]
        go_simp
        exact hK.out _ _ ⟨x19, A24, c24, A27, c27, (put1 (put1 u 32 (.pointer (some ⟨gd, 2, none⟩))) 33 (.slice Ad l.length cd)), ⟨rfl, (hI.out.2.1.same (s := 32) (v := .pointer (some ⟨gd, 2, none⟩)) e15).upd 16 rfl rfl rfl rfl, hI.out.2.2.1, hI.out.2.2.2.1, hI.out.2.2.2.2.1, hI.out.2.2.2.2.2.1, hI.out.2.2.2.2.2.2.1, hI.out.2.2.2.2.2.2.2.1, hI.out.2.2.2.2.2.2.2.2.1, hI.out.2.2.2.2.2.2.2.2.2.1, hI.out.2.2.2.2.2.2.2.2.2.2⟩⟩
      · intro LL a wx hI hLk hd K' hK
        obtain ⟨x19, A24, c24, A27, c27, u, hI⟩ := hI
        obtain rfl := hI.out.1
        have e16 := hI.out.2.1.at 16 rfl (hd 16 rfl)
        rw [if_pos (by rfl)]
        go_simp
        exact hK.out _ _ ⟨x19, A24, c24, A27, c27, (put1 (put1 u 33 (.slice Ad l.length cd)) 34 (.int .i64 (l.length : Int))), ⟨rfl, (hI.out.2.1.same (s := 33) (v := .slice Ad l.length cd) e16).upd 17 rfl rfl rfl rfl, hI.out.2.2.1, hI.out.2.2.2.1, hI.out.2.2.2.2.1, hI.out.2.2.2.2.2.1, hI.out.2.2.2.2.2.2.1, hI.out.2.2.2.2.2.2.2.1, hI.out.2.2.2.2.2.2.2.2.1, hI.out.2.2.2.2.2.2.2.2.2.1, hI.out.2.2.2.2.2.2.2.2.2.2⟩⟩
      · intro LL a wx hI hLk hd K' hK
        obtain ⟨x19, A24, c24, A27, c27, u, hI⟩ := hI
        obtain rfl := hI.out.1
        have e14 := hI.out.2.1.at 14 rfl (hd 14 rfl)
        have e17 := hI.out.2.1.at 17 rfl (hd 17 rfl)
        have hsb := HSB.out
        rw [if_pos (by rfl)]
        go_simp
        exact hK.out _ _ ⟨x19, A24, c24, A27, c27, (put1 (put1 (put1 u 31 (.int .i64 (lo : Int))) 34 (.int .i64 (l.length : Int))) 35 (.int .i64 (lo2 : Int))), ⟨rfl, ((hI.out.2.1.same (s := 31) (v := .int .i64 (lo : Int)) e14).same (s := 34) (v := .int .i64 (l.length : Int)) e17).upd 18 rfl rfl rfl rfl, hI.out.2.2.1, hI.out.2.2.2.1, hI.out.2.2.2.2.1, hI.out.2.2.2.2.2.1, hI.out.2.2.2.2.2.2.1, hI.out.2.2.2.2.2.2.2.1, hI.out.2.2.2.2.2.2.2.2.1, hI.out.2.2.2.2.2.2.2.2.2.1, hI.out.2.2.2.2.2.2.2.2.2.2⟩⟩
      · intro LL a wx hI hLk hd K' hK
        obtain ⟨x19, A24, c24, A27, c27, u, hI⟩ := hI
        obtain rfl := hI.out.1
        have e0 := hI.out.2.1.at 0 rfl (hd 0 rfl)
        rw [if_pos (by rfl)]
        go_simp
        exact hK.out _ _ ⟨x19, A24, c24, A27, c27, (put1 (put1 u 17 (.pointer (some ⟨gr, 0, none⟩))) 36 (.pointer (some ⟨gr, 0, none⟩))), ⟨rfl, (hI.out.2.1.same (s := 17) (v := .pointer (some ⟨gr, 0, none⟩)) e0).upd 19 rfl rfl rfl rfl, hI.out.2.2.1, hI.out.2.2.2.1, hI.out.2.2.2.2.1, hI.out.2.2.2.2.2.1, hI.out.2.2.2.2.2.2.1, hI.out.2.2.2.2.2.2.2.1, hI.out.2.2.2.2.2.2.2.2.1, hI.out.2.2.2.2.2.2.2.2.2.1, hI.out.2.2.2.2.2.2.2.2.2.2⟩⟩
      · intro LL a wx hI hLk hd K' hK
        obtain ⟨x19, A24, c24, A27, c27, u, hI⟩ := hI
        obtain rfl := hI.out.1
        have e19 := hI.out.2.1.at 19 rfl (hd 19 rfl)
        rw [if_pos (by rfl)]
        go_simp
        exact hK.out _ _ ⟨x19, A24, c24, A27, c27, (put1 (put1 u 36 (.pointer (some ⟨gr, 0, none⟩))) 37 (.pointer (some ⟨gr, 0, none⟩))), ⟨rfl, (hI.out.2.1.same (s := 36) (v := .pointer (some ⟨gr, 0, none⟩)) e19).upd 20 rfl rfl rfl rfl, hI.out.2.2.1, hI.out.2.2.2.1, hI.out.2.2.2.2.1, hI.out.2.2.2.2.2.1, hI.out.2.2.2.2.2.2.1, hI.out.2.2.2.2.2.2.2.1, hI.out.2.2.2.2.2.2.2.2.1, hI.out.2.2.2.2.2.2.2.2.2.1, hI.out.2.2.2.2.2.2.2.2.2.2⟩⟩
      · intro LL a wx hI hLk hd K' hK
        obtain ⟨x19, A24, c24, A27, c27, u, hI⟩ := hI
        obtain rfl := hI.out.1
        have e20 := hI.out.2.1.at 20 rfl (hd 20 rfl)
        have e10 := hI.out.2.1.at 10 rfl (hd 10 rfl)
        have hfr := hI.out.2.2.1
        have hgr := hI.out.2.2.2.1
        have h27 := hI.out.2.2.2.2.2.2.2.2.2.2
        have hg := hgr.out
        rw [hLk] at hg
        have f0 := blk_frozen hg 0
        have d0 := blk_cell hg 0
        rw [if_pos (by rfl)]
        go_simp
        exact hK.out _ _ ⟨x19, A24, c24, A27, c27, (put1 (put1 u 37 (.pointer (some ⟨gr, 0, none⟩))) 27 (.slice A27 bl.length c27)), ⟨rfl, ((hI.out.2.1.same (s := 37) (v := .pointer (some ⟨gr, 0, none⟩)) e20).same (s := 27) (v := .slice A27 bl.length c27) e10).none 21 rfl, ⟨hfr.out.set (p := ⟨gr, 0, none⟩) rfl HGE.out _⟩, ⟨blk_put hg 0 _ rfl⟩, ⟨fun _ => ⟨hd 6 rfl, hd 14 rfl, hd 10 rfl⟩⟩, ⟨fun _ => rfl⟩, hI.out.2.2.2.2.2.2.1, hI.out.2.2.2.2.2.2.2.1, ⟨fun _ h => absurd (hd 7 rfl) (by rw [show LL 7 = false from h]; decide)⟩, ⟨fun _ h => absurd (hd 10 rfl) (by rw [show LL 10 = false from h]; decide)⟩, ⟨fun h => Kd.R_mono (Kd.R_far (p := ⟨gr, 0, none⟩) (Kd.R_bound (h27.out h)) (fun k hk he => by have := hk.2.1; have := HGL.out; have : k = gr := he; omega) _) (fun _ _ => trivial)⟩⟩⟩
      · intro LL a wx hI hLk hd K' hK
        obtain ⟨x19, A24, c24, A27, c27, u, hI⟩ := hI
        obtain rfl := hI.out.1
        have e1 := hI.out.2.1.at 1 rfl (hd 1 rfl)
        rw [if_pos (by rfl)]
        go_simp
        exact hK.out _ _ ⟨x19, A24, c24, A27, c27, (put1 (put1 u 18 (.pointer (some ⟨gr, 0, none⟩))) 38 (.pointer (some ⟨gr, 0, none⟩))), ⟨rfl, (hI.out.2.1.same (s := 18) (v := .pointer (some ⟨gr, 0, none⟩)) e1).upd 21 rfl rfl rfl rfl, hI.out.2.2.1, hI.out.2.2.2.1, hI.out.2.2.2.2.1, hI.out.2.2.2.2.2.1, hI.out.2.2.2.2.2.2.1, hI.out.2.2.2.2.2.2.2.1, hI.out.2.2.2.2.2.2.2.2.1, hI.out.2.2.2.2.2.2.2.2.2.1, hI.out.2.2.2.2.2.2.2.2.2.2⟩⟩
      · intro LL a wx hI hLk hd K' hK
        obtain ⟨x19, A24, c24, A27, c27, u, hI⟩ := hI
        obtain rfl := hI.out.1
        have e22 := hI.out.2.1.at 21 rfl (hd 22 rfl)
        rw [if_pos (by rfl)]
        go_simp
        exact hK.out _ _ ⟨x19, A24, c24, A27, c27, (put1 (put1 u 38 (.pointer (some ⟨gr, 0, none⟩))) 39 (.pointer (some ⟨gr, 1, none⟩))), ⟨rfl, (hI.out.2.1.same (s := 38) (v := .pointer (some ⟨gr, 0, none⟩)) e22).upd 22 rfl rfl rfl rfl, hI.out.2.2.1, hI.out.2.2.2.1, hI.out.2.2.2.2.1, hI.out.2.2.2.2.2.1, hI.out.2.2.2.2.2.2.1, hI.out.2.2.2.2.2.2.2.1, hI.out.2.2.2.2.2.2.2.2.1, hI.out.2.2.2.2.2.2.2.2.2.1, hI.out.2.2.2.2.2.2.2.2.2.2⟩⟩
      · intro LL a wx hI hLk hd K' hK
        obtain ⟨x19, A24, c24, A27, c27, u, hI⟩ := hI
        obtain rfl := hI.out.1
        have e23 := hI.out.2.1.at 22 rfl (hd 23 rfl)
        have e18 := hI.out.2.1.at 18 rfl (hd 18 rfl)
        have hfr := hI.out.2.2.1
        have hgr := hI.out.2.2.2.1
        have h27 := hI.out.2.2.2.2.2.2.2.2.2.2
        have hg := hgr.out
        rw [hLk, hd 21 rfl] at hg
        have f0 := blk_frozen hg 1
        have d0 := blk_cell hg 1
        rw [if_pos (by rfl)]
        go_simp
        exact hK.out _ _ ⟨x19, A24, c24, A27, c27, (put1 (put1 u 39 (.pointer (some ⟨gr, 1, none⟩))) 35 (.int .i64 (lo2 : Int))), ⟨rfl, ((hI.out.2.1.same (s := 39) (v := .pointer (some ⟨gr, 1, none⟩)) e23).same (s := 35) (v := .int .i64 (lo2 : Int)) e18).none 24 rfl, ⟨hfr.out.set (p := ⟨gr, 1, none⟩) rfl HGE.out _⟩, ⟨by have h21 : LL 21 = true := hd 21 rfl; show _ = some (Obj.cells #[bif LL 21 then _ else _, _] 45 (0, 0)); rw [h21]; exact blk_put hg 1 _ rfl⟩, hI.out.2.2.2.2.1, ⟨fun _ => hd 21 rfl⟩, hI.out.2.2.2.2.2.2.1, hI.out.2.2.2.2.2.2.2.1, ⟨fun _ h => absurd (hd 7 rfl) (by rw [show LL 7 = false from h]; decide)⟩, ⟨fun _ h => absurd (hd 10 rfl) (by rw [show LL 10 = false from h]; decide)⟩, ⟨fun h => Kd.R_mono (Kd.R_far (p := ⟨gr, 1, none⟩) (Kd.R_bound (h27.out h)) (fun k hk he => by have := hk.2.1; have := HGL.out; have : k = gr := he; omega) _) (fun _ _ => trivial)⟩⟩⟩
    · intro LL a w9 hall hI
      obtain ⟨x19, A24, c24, A27, c27, u, hI⟩ := hI
      obtain rfl := hI.out.1
      have hfr := hI.out.2.2.1
      have hgr := hI.out.2.2.2.1
      have hz := hI.out.2.2.2.2.1
      have hy := hI.out.2.2.2.2.2.1
      have hp7 := hI.out.2.2.2.2.2.2.1
      have hp10 := hI.out.2.2.2.2.2.2.2.1
      have h19 := hI.out.2.2.2.2.2.2.2.2.1
      have h24 := hI.out.2.2.2.2.2.2.2.2.2.1
      have h27 := hI.out.2.2.2.2.2.2.2.2.2.2
      have hg := hgr.out
      rw [hall 21 (by decide), hall 24 (by decide)] at hg
      have HFIN := Aside0.mk (FIN.out _ _ _ hfr.out hg (h27.out (hall 10 (by decide))))
      clear hI hfr hgr hz hy hp7 hp10 h19 h24 h27 hg
      go_wp2
      refine bodyPost_end (results_none rfl _ _ _) rfl ?_
      exact HFIN.out
  by_cases q4 : dd = 4
  · subst q4
    go_enter Try.func26, Try.ntmps26
    go_wp2_with ((with_reducible refine gate_dst (N := 5) rfl ?_); refine box_event ?hg (N := 5) ?hd (cs := #[.int .i64 4, .int .i64 nn, .slice Ad l.length cd]) (t := 48) ?hr ?_; (case hd => rfl); (case hg => rfl); (case hr => first | (go_simp; done) | (go_simp; rfl)); intro gd hgd w1 hbox hb; have d0 : w1.cell? ⟨gd, 0, none⟩ = some (.int .i64 4) := (blk_cell hbox 0).trans rfl; have d1 : w1.cell? ⟨gd, 1, none⟩ = some (.int .i64 nn) := (blk_cell hbox 1).trans rfl; have d2 : w1.cell? ⟨gd, 2, none⟩ = some (.slice Ad l.length cd) := (blk_cell hbox 2).trans rfl; have HD1 := Aside0.mk hbox; have HB1 := Aside0.mk hb; have HGD := Aside0.mk hgd; clear hbox hb hgd)
    go_at_call 14; refine (sync_calls w0.heap.size g bs s P w1 (HM.out.below HB1.out)).mono ?_
    rintro e w2 ⟨rfl, hm, hf⟩
    have hg : w2.heap[gr]? = some (.cells #[.slice Av bs.length cv, .int .i64 (lo : Int)] 45 (0, 0)) := (hf.block gr (Nat.lt_of_lt_of_le (blk_lt HG0.out) HB1.out.size) HP1.out.2.1).trans (blk_below HG0.out HB1.out)
    have hv : Kd.V (Kd.int .u8) 5 w2 0 B (.slice Av bs.length cv) bs := Kd.V_step (Kd.V_below HV0.out HB1.out) (fun k hk hl => hf.block k hl (fun h => HP1.out.2.2.1 k h hk))
    have HFIN : Aside0 (DoPost w0 W g gr P B bs l (.returned (.tuple #[])) (w2.setCell ⟨gr, 1, none⟩ (.int .i64 0))) := ⟨by
      have fr : Fr w0.heap.size (fun k => k = gr) w2 (w2.setCell ⟨gr, 1, none⟩ (.int .i64 0)) := (Fr.refl w0.heap.size (fun k => k = gr) w2).set (p := ⟨gr, 1, none⟩) rfl HGE.out _
      have hw := HB1.out.size
      have hw2 := hf.below.size
      have hw3 := fr.below.size
      refine ⟨rfl, P, B, bs, bs.length, ⟨hm.fr fr (fun k hk e => HP1.out.2.1 (by rw [show k = gr from e] at hk; exact hk)), ⟨.slice Av bs.length cv, ?_, ?_, HNB.out⟩, HGE.out, HP1.out.1, HP1.out.2.1, HP1.out.2.2.1, ?_⟩, fun k hk => .inl hk, fun k hk => .inl hk, ?_, by omega⟩
      · rw [Nat.sub_self]; exact blk_put hg 1 _ rfl
      · exact Kd.V_far (p := ⟨gr, 1, none⟩) hv (fun k hk he => HNB.out (by rw [show k = gr from he] at hk; exact hk)) _
      · intro k hk; have := HP1.out.2.2.2 k hk; omega
      · exact ((((Fr.refl w0.heap.size _ W).step HB1.out HW0.out.size).then (hf.weak (fun k hk => .inl hk))).then (fr.weak (fun k hk => .inr hk)))⟩
    have c1 : w2.cell? ⟨gr, 1, none⟩ = some (.int .i64 (lo : Int)) := (blk_cell hg 1).trans rfl
    have f1 := blk_frozen hg 1
    clear hm hf hg hv d0 d1 d2 HD1
    go_wp2
    refine bodyPost_end (results_none rfl _ _ _) rfl ?_
    exact HFIN.out
  by_cases q5 : dd = 5
  · subst q5
    go_enter Try.func26, Try.ntmps26
    go_wp2_with ((with_reducible refine gate_dst (N := 5) rfl ?_); refine box_event ?hg (N := 5) ?hd (cs := #[.int .i64 5, .int .i64 nn, .slice Ad l.length cd]) (t := 48) ?hr ?_; (case hd => rfl); (case hg => rfl); (case hr => first | (go_simp; done) | (go_simp; rfl)); intro gd hgd w1 hbox hb; have d0 : w1.cell? ⟨gd, 0, none⟩ = some (.int .i64 5) := (blk_cell hbox 0).trans rfl; have d1 : w1.cell? ⟨gd, 1, none⟩ = some (.int .i64 nn) := (blk_cell hbox 1).trans rfl; have d2 : w1.cell? ⟨gd, 2, none⟩ = some (.slice Ad l.length cd) := (blk_cell hbox 2).trans rfl; have HD1 := Aside0.mk hbox; have HB1 := Aside0.mk hb; have HGD := Aside0.mk hgd; clear hbox hb hgd)
    go_at_call 14; refine (sync_calls w0.heap.size g bs s P w1 (HM.out.below HB1.out)).mono ?_
    rintro e w2 ⟨rfl, hm, hf⟩
    have hg : w2.heap[gr]? = some (.cells #[.slice Av bs.length cv, .int .i64 (lo : Int)] 45 (0, 0)) := (hf.block gr (Nat.lt_of_lt_of_le (blk_lt HG0.out) HB1.out.size) HP1.out.2.1).trans (blk_below HG0.out HB1.out)
    have hv : Kd.V (Kd.int .u8) 5 w2 0 B (.slice Av bs.length cv) bs := Kd.V_step (Kd.V_below HV0.out HB1.out) (fun k hk hl => hf.block k hl (fun h => HP1.out.2.2.1 k h hk))
    have HFIN : Aside0 (DoPost w0 W g gr P B bs l (.returned (.tuple #[])) (w2.setCell ⟨gr, 1, none⟩ (.int .i64 0))) := ⟨by
      have fr : Fr w0.heap.size (fun k => k = gr) w2 (w2.setCell ⟨gr, 1, none⟩ (.int .i64 0)) := (Fr.refl w0.heap.size (fun k => k = gr) w2).set (p := ⟨gr, 1, none⟩) rfl HGE.out _
      have hw := HB1.out.size
      have hw2 := hf.below.size
      have hw3 := fr.below.size
      refine ⟨rfl, P, B, bs, bs.length, ⟨hm.fr fr (fun k hk e => HP1.out.2.1 (by rw [show k = gr from e] at hk; exact hk)), ⟨.slice Av bs.length cv, ?_, ?_, HNB.out⟩, HGE.out, HP1.out.1, HP1.out.2.1, HP1.out.2.2.1, ?_⟩, fun k hk => .inl hk, fun k hk => .inl hk, ?_, by omega⟩
      · rw [Nat.sub_self]; exact blk_put hg 1 _ rfl
      · exact Kd.V_far (p := ⟨gr, 1, none⟩) hv (fun k hk he => HNB.out (by rw [show k = gr from he] at hk; exact hk)) _
      · intro k hk; have := HP1.out.2.2.2 k hk; omega
      · exact ((((Fr.refl w0.heap.size _ W).step HB1.out HW0.out.size).then (hf.weak (fun k hk => .inl hk))).then (fr.weak (fun k hk => .inr hk)))⟩
    have c1 : w2.cell? ⟨gr, 1, none⟩ = some (.int .i64 (lo : Int)) := (blk_cell hg 1).trans rfl
    have f1 := blk_frozen hg 1
    clear hm hf hg hv d0 d1 d2 HD1
    go_wp2
    refine bodyPost_end (results_none rfl _ _ _) rfl ?_
    exact HFIN.out
  by_cases q6 : dd = 6
  · subst q6
    go_enter Try.func26, Try.ntmps26
    go_wp2_with ((with_reducible refine gate_dst (N := 5) rfl ?_); refine box_event ?hg (N := 5) ?hd (cs := #[.int .i64 6, .int .i64 nn, .slice Ad l.length cd]) (t := 48) ?hr ?_; (case hd => rfl); (case hg => rfl); (case hr => first | (go_simp; done) | (go_simp; rfl)); intro gd hgd w1 hbox hb; have d0 : w1.cell? ⟨gd, 0, none⟩ = some (.int .i64 6) := (blk_cell hbox 0).trans rfl; have d1 : w1.cell? ⟨gd, 1, none⟩ = some (.int .i64 nn) := (blk_cell hbox 1).trans rfl; have d2 : w1.cell? ⟨gd, 2, none⟩ = some (.slice Ad l.length cd) := (blk_cell hbox 2).trans rfl; have HD1 := Aside0.mk hbox; have HB1 := Aside0.mk hb; have HGD := Aside0.mk hgd; clear hbox hb hgd)
    go_at_call 16; refine (crash_calls w0.heap.size g nn bs s P w1 (HM.out.below HB1.out) (by have := HLN0.out; omega)).mono ?_
    rintro e w2 ⟨rfl, hm, hf⟩
    have hd2 : w2.heap[gd]? = some (.cells #[.int .i64 6, .int .i64 nn, .slice Ad l.length cd] 48 (0, 0)) := (hf.block gd (blk_lt HD1.out) (fun h => by have := HP1.out.2.2.2 gd (.inl h); have := HGD.out; omega)).trans HD1.out
    have hg : w2.heap[gr]? = some (.cells #[.slice Av bs.length cv, .int .i64 (lo : Int)] 45 (0, 0)) := (hf.block gr (Nat.lt_of_lt_of_le (blk_lt HG0.out) HB1.out.size) HP1.out.2.1).trans (blk_below HG0.out HB1.out)
    have hv : Kd.V (Kd.int .u8) 5 w2 0 B (.slice Av bs.length cv) bs := Kd.V_step (Kd.V_below HV0.out HB1.out) (fun k hk hl => hf.block k hl (fun h => HP1.out.2.2.1 k h hk))
    have HRF : Aside0 (Rf w2 gr B bs lo) := ⟨⟨_, hg, hv, HNB.out⟩⟩
    have HMM := Aside0.mk (And.intro hm hf)
    have e1 : w2.cell? ⟨gd, 1, none⟩ = some (.int .i64 nn) := (blk_cell hd2 1).trans rfl
    clear hm hf hg hv hd2 d0 d1 d2 HD1
    go_wp2_with fail
    go_at_call 33; refine (rcrash_calls w0.heap.size gr B bs lo nn w2 HRF.out HGE.out (by have := HLN0.out; omega) (by have := HLN0.out; omega)).mono ?_
    rintro e w3 ⟨rfl, hr, fr⟩
    have HFIN : Aside0 (DoPost w0 W g gr P B bs l (.returned (.tuple #[])) w3) := ⟨by
      obtain ⟨hm, hf⟩ := HMM.out
      have hw := HB1.out.size
      have hw2 := hf.below.size
      have hw3 := fr.below.size
      rw [show bs.length - lo = s by have := HLN0.out; omega] at hr
      have hm2 := hm.fr fr (fun k hk e => HP1.out.2.1 (by rw [show k = gr from e] at hk; exact hk))
      have hle : kept bs.length s nn ≤ (bs.take (kept bs.length s nn)).length := by obtain ⟨_, _, _, _, _, h5⟩ := hm2; exact h5
      refine ⟨rfl, P, B, bs.take (kept bs.length s nn), kept bs.length s nn, ⟨hm2, ?_, HGE.out, HP1.out.1, HP1.out.2.1, HP1.out.2.2.1, ?_⟩, fun k hk => .inl hk, fun k hk => .inl hk, ?_, by rw [List.length_take]; omega⟩
      · rw [show (bs.take (kept bs.length s nn)).length - kept bs.length s nn = 0 by rw [List.length_take]; omega]; exact hr
      · intro k hk; have := HP1.out.2.2.2 k hk; omega
      · exact ((((Fr.refl w0.heap.size _ W).step HB1.out HW0.out.size).then (hf.weak (fun k hk => .inl hk))).then (fr.weak (fun k hk => .inr hk)))⟩
    clear hr fr HMM
    go_wp2
    refine bodyPost_end (results_none rfl _ _ _) rfl ?_
    exact HFIN.out
  by_cases q7 : dd = 7
  · subst q7
    go_enter Try.func26, Try.ntmps26
    go_wp2_with ((with_reducible refine gate_dst (N := 5) rfl ?_); refine box_event ?hg (N := 5) ?hd (cs := #[.int .i64 7, .int .i64 nn, .slice Ad l.length cd]) (t := 48) ?hr ?_; (case hd => rfl); (case hg => rfl); (case hr => first | (go_simp; done) | (go_simp; rfl)); intro gd hgd w1 hbox hb; have d0 : w1.cell? ⟨gd, 0, none⟩ = some (.int .i64 7) := (blk_cell hbox 0).trans rfl; have d1 : w1.cell? ⟨gd, 1, none⟩ = some (.int .i64 nn) := (blk_cell hbox 1).trans rfl; have d2 : w1.cell? ⟨gd, 2, none⟩ = some (.slice Ad l.length cd) := (blk_cell hbox 2).trans rfl; have HD1 := Aside0.mk hbox; have HB1 := Aside0.mk hb; have HGD := Aside0.mk hgd; clear hbox hb hgd)
    go_at_call 18; refine (swap_calls w0.heap.size g _ _ bs l s P w1 (HM.out.below HB1.out) (Kd.C_below HC.out (below_step HW0.out HB1.out)) (by have := HLN0.out; omega) (below_step HW0.out HB1.out).size).mono ?_
    rintro e w2 ⟨rfl, hm, hf⟩
    have HNE : Aside0 (¬ gd = gr) := ⟨fun e => by have := blk_lt HG0.out; have := HGD.out; omega⟩
    have HD : Aside0 (w2.heap[gd]? = some (.cells #[.int .i64 7, .int .i64 nn, .slice Ad l.length cd] 48 (0, 0))) := ⟨(hf.block gd (blk_lt HD1.out) (fun h => by have := HP1.out.2.2.2 gd (.inl h); have := HGD.out; omega)).trans HD1.out⟩
    have HG : Aside0 (w2.heap[gr]? = some (.cells #[.slice Av bs.length cv, .int .i64 (lo : Int)] 45 (0, 0))) := ⟨(hf.block gr (Nat.lt_of_lt_of_le (blk_lt HG0.out) HB1.out.size) HP1.out.2.1).trans (blk_below HG0.out HB1.out)⟩
    have HW2 : Aside0 (Below w0.heap.size w0 w2) := ⟨(below_step HW0.out HB1.out).trans hf.below⟩
    have HGL : Aside0 (gr < w2.heap.size) := ⟨blk_lt HG.out⟩
    have HLN : Aside0 (([] : List Int).length + l.length = l.length ∧ (([] : List Int).length + l.length) * 1 ≤ 140737488355328) := ⟨by have := HLN0.out; simp; omega⟩
    have FIN : Aside0 (∀ (wx : World) (A : Option Addr) (c : Nat), Fr w0.heap.size (fun k => k = gr) w2 wx → wx.heap[gr]? = some (.cells #[.slice A l.length c, .int .i64 0] 45 (0, 0)) → Kd.R (Kd.int .u8) 5 wx w2.heap.size (fun _ => True) (.slice A l.length c) l → DoPost w0 W g gr P B bs l (.returned (.tuple #[])) wx) := ⟨fun wx A c fr hg hr => by
      have hm2 := (hm.cap).fr fr (fun k hk e => by
        have e : k = gr := e
        subst e
        rcases hk.1 with h | h
        · exact HP1.out.2.1 h
        · have := blk_lt HG0.out; have := HB1.out.size; omega)
      have hle := HLN0.out
      have hw := HB1.out.size
      have hw2 := hf.below.size
      refine ⟨rfl, fun k => (P k ∨ w1.heap.size ≤ k) ∧ k < w2.heap.size, fun k => w2.heap.size ≤ k ∧ k < wx.heap.size, l, l.length, ⟨hm2, ⟨_, ?_, Kd.V_mono (V_of_R (Kd.R_bound hr)) (fun k hk => ⟨hk.2.1, hk.2.2.1⟩), ?_⟩, HGE.out, ?_, ?_, ?_, ?_⟩, ?_, ?_, ?_, ?_⟩
      · rw [Nat.sub_self]; exact hg
      · intro h; have := HGL.out; omega
      · intro k hk; rcases hk.1 with h | h
        · exact HP1.out.1 k h
        · have := HW0.out.size; omega
      · intro h; rcases h.1 with h | h
        · exact HP1.out.2.1 h
        · have := blk_lt HG0.out; omega
      · intro k hk hb; omega
      · intro k hk; have := fr.below.size; rcases hk with hk | hk <;> omega
      · intro k hk; rcases hk.1 with h | h
        · exact .inl h
        · exact .inr (by omega)
      · intro k hk; exact .inr (by omega)
      · exact ((((Fr.refl w0.heap.size _ W).step HB1.out HW0.out.size).then (hf.weak (fun k hk => .inl hk))).then (fr.weak (fun k hk => .inr hk)))
      · omega⟩
    clear hm hf d0 d1 d2 HD1
    have d2 : w2.cell? ⟨gd, 2, none⟩ = some (.slice Ad l.length cd) := (blk_cell HD.out 2).trans rfl
    go_wp2_with (first
      | ((with_reducible refine gate_dst (N := 66) rfl ?_); refine Kd.R_lit (Kd.int .u8) (w0 := w2) w2.heap.size 5 ?hg (N := 66) ?hd (xs := ([] : List Int)) (inner := []) (ok := fun _ => True) (okp := fun _ => True) ?hr ?hp (fun _ hk => hk) trivial (Below.refl _ _) (Nat.le_refl _) (by simp) ?_; (case hd => rfl); (case hg => rfl); (case hr => first | (go_simp; done) | (go_simp; rfl)); (case hp => exact (Reps.none _ _)); intro v1 w3 ho1 hb1 hg_ hnew_; have HO := Aside0.mk ho1; have HB3 := Aside0.mk hb1; have d2 : w3.cell? ⟨gd, 2, none⟩ = some (.slice Ad l.length cd) := cell_keep hb1 d2; clear hg_ hnew_ ho1 hb1)
      | ((with_reducible refine gate_builtin (b := .append) (xs := #[.tmp 66, .tmp 68]) rfl ?_); at_builtin; refine Kd.R_append_rows (Kd.int .u8) (Rr := Kd.K (Kd.int .u8) w3) (w0 := w2) w2.heap.size rfl (.tmp 66) (.tmp 68) 22 5 (.int .u8 0) 1 rfl Try.underlying22 info5 rfl (by decide) (by omega) v1 [] l _ _ _ (fun _ => True) (fun _ => False) rfl rfl ?aO ?aR (fun _ _ h => h) (fun _ h => h.elim) (fun _ _ => trivial) ?aB ?aS ?aL ?_; (case aO => exact HO.out); (case aR => exact Kd.C_below HC.out (below_step HW2.out HB3.out)); (case aB => exact HB3.out); (case aS => exact below_size HB3.out); (case aL => exact HLN.out.2); intro v2 w4 ho2 hb2 hg2 hat2; rw [List.nil_append] at ho2; obtain ⟨A4, c4, rfl, _, _⟩ := Kd.R_reads ho2; have HO4 := Aside0.mk ho2; have HB4 := Aside0.mk hb2; have e0 := blk_cell (blk_below HG.out hb2) 0; have e1 := blk_cell (blk_below HG.out hb2) 1; have f0 := blk_frozen (blk_below HG.out hb2) 0; have f1 := blk_frozen (blk_below HG.out hb2) 1; clear ho2 hb2 hg2 hat2))
    refine bodyPost_end (results_none rfl _ _ _) rfl ?_
    refine FIN.out _ A4 c4 ((((Fr.refl w0.heap.size (fun k => k = gr) w2).step HB4.out HW2.out.size).set (p := ⟨gr, 0, none⟩) rfl HGE.out _).set (p := ⟨gr, 1, none⟩) rfl HGE.out _) (blk_put (blk_put (cs := #[.slice Av bs.length cv, .int .i64 (lo : Int)]) (blk_below HG.out HB4.out) 0 _ rfl) 1 _ rfl) ?_
    have hgl := HGL.out
    exact Kd.R_mono (Kd.R_far (p := ⟨gr, 1, none⟩) (Kd.R_far (p := ⟨gr, 0, none⟩) (Kd.R_bound HO4.out) (fun k hk he => by have := hk.2.1; have : k = gr := he; omega) _) (fun k hk he => by have := hk.2.1; have : k = gr := he; omega) _) (fun _ _ => trivial)
  have r0 : (dd == 0) = false := by simpa using q0
  have r1 : (dd == 1) = false := by simpa using q1
  have r2 : (dd == 2) = false := by simpa using q2
  have r3 : (dd == 3) = false := by simpa using q3
  have r4 : (dd == 4) = false := by simpa using q4
  have r5 : (dd == 5) = false := by simpa using q5
  have r6 : (dd == 6) = false := by simpa using q6
  have r7 : (dd == 7) = false := by simpa using q7
  go_enter Try.func26, Try.ntmps26
  go_wp2_with ((with_reducible refine gate_dst (N := 5) rfl ?_); refine box_event ?hg (N := 5) ?hd (cs := #[.int .i64 dd, .int .i64 nn, .slice Ad l.length cd]) (t := 48) ?hr ?_; (case hd => rfl); (case hg => rfl); (case hr => first | (go_simp; done) | (go_simp; rfl)); intro gd hgd w1 hbox hb; have d0 : w1.cell? ⟨gd, 0, none⟩ = some (.int .i64 dd) := (blk_cell hbox 0).trans rfl; have d1 : w1.cell? ⟨gd, 1, none⟩ = some (.int .i64 nn) := (blk_cell hbox 1).trans rfl; have d2 : w1.cell? ⟨gd, 2, none⟩ = some (.slice Ad l.length cd) := (blk_cell hbox 2).trans rfl; have HD1 := Aside0.mk hbox; have HB1 := Aside0.mk hb; have HGD := Aside0.mk hgd; clear hbox hb hgd)
  refine bodyPost_end (results_none rfl _ _ _) rfl ?_
  exact ⟨rfl, P, B, bs, s, HP0.out.below HB1.out, fun k hk => .inl hk, fun k hk => .inl hk, (Fr.refl w0.heap.size _ W).step HB1.out HW0.out.size, by omega⟩
end Go.Proofs.YtkolcgofhjbebaaW.PrintMed
